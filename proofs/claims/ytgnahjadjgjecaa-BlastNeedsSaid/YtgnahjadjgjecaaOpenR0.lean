/- What registers are that were handed in. -/
import Derived.Test.YtgnahjadjgjecaaOpenB
import Derived.Test.YtgnahjadjgjecaaTSeen
set_option linter.unusedVariables false
set_option linter.unusedSimpArgs false
namespace Go.Proofs.Ytgnahjadjgjecaa
open Go.RowKit Go.Deep Go.WideShapes

theorem okWide_array {P : Program} {w : World} {r : Go.Reach} {base : Nat} {t : TypeId} {v : Value} {n : Nat} {e : TypeId} (ht : P.underlying t = some (.array n e)) (h : Value.okWide P w r base t v) : ∃ cs, v = .agg cs ∧ cs.size = P.cellsOf t := by
  unfold Value.okWide at h
  rw [ht] at h
  obtain ⟨cs, h1, h2, _⟩ := h
  exact ⟨cs, h1, h2⟩
theorem cells_regs : Try.prog.cellsOf 27 = 32 := by kernel_rfl
section
variable {H : Type} {enc : TypeId × Value → H} {W : World} {base : Nat} {spare : Nat → Bool} {held : Bool} {fuel : Nat} {cs : List Value} {x : DataW H × List MemPlace}
theorem read_regs (h : DataW.trod enc Try.prog W base spare held fuel 27 cs = some x) : ∃ g : Nat → Nat, cs = (regsV g).toList ∧ ∀ r, g r < 4294967296 := by
  obtain ⟨xs, m, _, _, hl, hlen, hf⟩ := DataW.trod_array Try.underlying27 h
  rw [cells_regs] at hl
  rw [cells_w32] at hf
  obtain ⟨f, hf2⟩ := choose_lt (n := 32) (p := fun i (n : Nat) => cs[i]? = some (.int .u32 (n : Int)) ∧ n < 4294967296) (fun i hi => by
    have h1 := hf i hi
    rw [List.getElem?_eq_getElem (by omega)] at h1
    obtain ⟨n, e, hn⟩ := read_u32 h1
    refine ⟨n, ?_, hn⟩
    have h2 : ((cs.drop (i * 1)).take 1)[0]? = some (.int .u32 (n : Int)) := by rw [e]; rfl
    rw [List.getElem?_take_of_lt (by omega), List.getElem?_drop] at h2
    simpa using h2)
  refine ⟨fun r => if r < 32 then f r else 0, ?_, fun r => ?_⟩
  · apply List.ext_getElem?
    intro i
    by_cases hi : i < 32
    · rw [(hf2 i hi).1, Array.getElem?_toList, regsV_get _ hi, if_pos hi]
    · rw [List.getElem?_eq_none (by omega), List.getElem?_eq_none (by simp [regsV_size]; omega)]
  · dsimp only
    split
    · rename_i hr; exact (hf2 r hr).2
    · omega
end
end Go.Proofs.Ytgnahjadjgjecaa
