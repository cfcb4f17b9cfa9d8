/- What registers are that were handed in. -/
/- What an array of terms is that was handed in, and a machine. -/
import Derived.Test.YtaiggfknighhgaaGreatDoorOpenB
import Derived.Test.YtaiggfknighhgaaGreatDoorTSeen
import Derived.Test.YtaiggfknighhgaaGreatDoorIArr
set_option linter.unusedVariables false
set_option linter.unusedSimpArgs false
namespace Go.Proofs.YtaiggfknighhgaaGreatDoor
open Go.RowKit Go.Deep Go.WideShapes

theorem okWide_array {P : Program} {w : World} {r : Go.Reach} {base : Nat} {t : TypeId} {v : Value} {n : Nat} {e : TypeId} (ht : P.underlying t = some (.array n e)) (h : Value.okWide P w r base t v) : ∃ cs, v = .agg cs ∧ cs.size = P.cellsOf t := by
  unfold Value.okWide at h
  rw [ht] at h
  obtain ⟨cs, h1, h2, _⟩ := h
  exact ⟨cs, h1, h2⟩
theorem cells_regs : Tryz.prog.cellsOf 43 = 32 := by kernel_rfl
section
variable {H : Type} {enc : TypeId × Value → H} {W : World} {base : Nat} {spare : Nat → Bool} {held : Bool} {fuel : Nat} {cs : List Value} {x : DataW H × List MemPlace}
theorem read_regs (h : DataW.trod enc Tryz.prog W base spare held fuel 43 cs = some x) : ∃ g : Nat → Nat, cs = (regsV g).toList ∧ ∀ r, g r < 4294967296 := by
  obtain ⟨xs, m, _, _, hl, hlen, hf⟩ := DataW.trod_array Tryz.underlying43 h
  rw [cells_regs] at hl
  rw [cells_w32] at hf
  obtain ⟨f, hf2⟩ := choose_lt (n := 32) (p := fun i (n : Nat) => cs[i]? = some (.int .u32 (n : Int)) ∧ n < 4294967296) (fun i hi => by
    have h1 := hf i hi
    rw [List.getElem?_eq_getElem (by omega)] at h1
    obtain ⟨n, e, hn⟩ := read_u32 h1
    refine ⟨n, ?_, hn⟩
    have h2 : ((cs.drop (i * 1)).take 1)[0]? = some (.int .u32 (n : Int)) := by rw [e]; rfl
    rw [List.getElem?_take_of_lt (by omega), List.getElem?_drop] at h2
    simpa using h2)
  refine ⟨fun r => if r < 32 then f r else 0, ?_, fun r => ?_⟩
  · apply List.ext_getElem?
    intro i
    by_cases hi : i < 32
    · rw [(hf2 i hi).1, Array.getElem?_toList, regsV_get _ hi, if_pos hi]
    · rw [List.getElem?_eq_none (by omega), List.getElem?_eq_none (by simp [regsV_size]; omega)]
  · dsimp only
    split
    · rename_i hr; exact (hf2 r hr).2
    · omega
end
end Go.Proofs.YtaiggfknighhgaaGreatDoor
set_option linter.unusedVariables false
set_option linter.unusedSimpArgs false
namespace Go.Proofs.YtaiggfknighhgaaGreatDoor
open Go.RowKit Go.Deep Go.WideShapes

theorem cells_arr : Tryz.prog.cellsOf 32 = 32 := by kernel_rfl
theorem cells_cpu : Tryz.prog.cellsOf 45 = 33 := by kernel_rfl
section
variable {H : Type} {enc : TypeId × Value → H} {W : World} {base : Nat} {spare : Nat → Bool} {held : Bool} {fuel : Nat} {cs : List Value} {x : DataW H × List MemPlace}
theorem read_arr (h : DataW.trod enc Tryz.prog W base spare held fuel 32 cs = some x) : ∃ z : Nat → Int, cs = (zV z).toList := by
  obtain ⟨xs, m, _, _, hl, hlen, hf⟩ := DataW.trod_array Tryz.underlying32 h
  rw [cells_arr] at hl
  rw [cells_wint] at hf
  obtain ⟨f, hf2⟩ := choose_lt (n := 32) (p := fun i (n : Int) => cs[i]? = some (.int .i64 n)) (fun i hi => by
    have h1 := hf i hi
    rw [List.getElem?_eq_getElem (by omega)] at h1
    obtain ⟨n, e, _⟩ := read_int h1
    refine ⟨n, ?_⟩
    have h2 : ((cs.drop (i * 1)).take 1)[0]? = some (.int .i64 n) := by rw [e]; rfl
    rw [List.getElem?_take_of_lt (by omega), List.getElem?_drop] at h2
    simpa using h2)
  refine ⟨f, ?_⟩
  apply List.ext_getElem?
  intro i
  by_cases hi : i < 32
  · rw [hf2 i hi, Array.getElem?_toList, zV_get _ hi]
  · rw [List.getElem?_eq_none (by omega), List.getElem?_eq_none (by simp [zV_size]; omega)]
theorem trod_two {P : Program} {t : TypeId} {f0 f1 : Field} (ht : P.underlying t = some (.struct #[f0, f1])) (h : DataW.trod enc P W base spare held fuel t cs = some x) :
    ∃ y0 y1 n, cs.length = P.cellsOf t ∧ DataW.trod enc P W base spare held n f0.type ((cs.drop f0.offset).take (P.cellsOf f0.type)) = some y0 ∧ DataW.trod enc P W base spare held n f1.type ((cs.drop f1.offset).take (P.cellsOf f1.type)) = some y1 := by
  obtain ⟨xs, n, _, _, hl, hlen, hf⟩ := DataW.trod_struct ht h
  match xs, hlen with
  | [y0, y1], _ => exact ⟨y0, y1, n, hl, by simpa using hf 0 f0 rfl, by simpa using hf 1 f1 rfl⟩
/-- A machine's cells: registers, address. -/
def cpuV (g : Nat → Nat) (pc : Nat) : Array Value := (regsV g).push (.int .u32 (pc : Nat))
theorem read_cpu (h : DataW.trod enc Tryz.prog W base spare held fuel 45 cs = some x) : ∃ (g : Nat → Nat) (pc : Nat), cs = (cpuV g pc).toList ∧ (∀ r, g r < 4294967296) ∧ pc < 4294967296 := by
  obtain ⟨y0, y1, n, hl, r0, r1⟩ := trod_two Tryz.underlying45 h
  rw [cells_cpu] at hl
  dsimp only at r0 r1
  rw [cells_regs] at r0
  rw [cells_w32] at r1
  obtain ⟨g, e0, hg⟩ := read_regs r0
  obtain ⟨pc, e1, hp⟩ := read_u32 r1
  refine ⟨g, pc, ?_, hg, hp⟩
  unfold cpuV
  rw [Array.toList_push, ← e0, ← e1]
  apply List.ext_getElem?
  intro i
  by_cases hi : i < 32
  · rw [List.getElem?_append_left (by simp; omega)]
    simp [List.getElem?_take_of_lt hi]
  · rw [List.getElem?_append_right (by simp; omega)]
    by_cases h2 : i = 32
    · subst h2
      simp [hl]
    · rw [List.getElem?_eq_none (by omega), List.getElem?_eq_none (by simp [hl]; omega)]
end
end Go.Proofs.YtaiggfknighhgaaGreatDoor
