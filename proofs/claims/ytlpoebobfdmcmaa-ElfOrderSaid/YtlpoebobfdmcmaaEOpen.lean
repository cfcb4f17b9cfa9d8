/- What an argument of type api.Elf is. -/
import Derived.Test.YtlpoebobfdmcmaaEOwn
import Derived.Deep.Slices
import Derived.Lib.SmallJoins
import Derived.WideShapes
set_option linter.unusedVariables false
set_option linter.unusedSimpArgs false
namespace Go.Proofs.Ytlpoebobfdmcmaa
open Go.RowKit Go.Deep Go.WideShapes

theorem cells_seg : Try.prog.cellsOf 36 = 4 := by kernel_rfl
theorem cells_u32 : Try.prog.cellsOf 22 = 1 := by kernel_rfl
theorem cells_int : Try.prog.cellsOf 3 = 1 := by kernel_rfl
theorem cells_str : Try.prog.cellsOf 9 = 1 := by kernel_rfl
theorem cells_sizes : Try.prog.cellsOf 43 = 2 := by kernel_rfl
theorem cells_elf : Try.prog.cellsOf 25 = 3 := by kernel_rfl
section
variable {H : Type} {enc : TypeId × Value → H} {W : World} {base : Nat} {spare : Nat → Bool} {held : Bool} {fuel : Nat} {cs : List Value} {x : DataW H × List MemPlace}
theorem read_u32 (h : DataW.trod enc Try.prog W base spare held fuel 22 cs = some x) : ∃ n : Nat, cs = [.int .u32 (n : Int)] ∧ n < 4294967296 := by
  obtain ⟨n, rfl, _, hw⟩ := DataW.trod_int Try.underlying22 h
  have hw' : decide (IntKind.u32.min ≤ n) && decide (n ≤ IntKind.u32.max) := hw
  simp only [Bool.and_eq_true, decide_eq_true_eq] at hw'
  obtain ⟨h1, h2⟩ := hw'
  replace h1 : (0 : Int) ≤ n := h1
  replace h2 : n ≤ 4294967295 := h2
  obtain ⟨m, rfl⟩ : ∃ m : Nat, n = m := ⟨n.toNat, by omega⟩
  exact ⟨m, rfl, by omega⟩
theorem read_int (h : DataW.trod enc Try.prog W base spare held fuel 3 cs = some x) : ∃ n : Int, cs = [.int .i64 n] ∧ -9223372036854775808 ≤ n ∧ n ≤ 9223372036854775807 := by
  obtain ⟨n, rfl, _, hw⟩ := DataW.trod_int Try.underlying3 h
  have hw' : decide (IntKind.i64.min ≤ n) && decide (n ≤ IntKind.i64.max) := hw
  simp only [Bool.and_eq_true, decide_eq_true_eq] at hw'
  exact ⟨n, rfl, hw'⟩
theorem read_u8 (h : DataW.trod enc Try.prog W base spare held fuel 5 cs = some x) : ∃ n : Nat, cs = [.int .u8 (n : Int)] ∧ n < 256 := by
  obtain ⟨n, rfl, _, hw⟩ := DataW.trod_int Try.underlying5 h
  have hw' : decide (IntKind.u8.min ≤ n) && decide (n ≤ IntKind.u8.max) := hw
  simp only [Bool.and_eq_true, decide_eq_true_eq] at hw'
  obtain ⟨h1, h2⟩ := hw'
  replace h1 : (0 : Int) ≤ n := h1
  replace h2 : n ≤ 255 := h2
  obtain ⟨m, rfl⟩ : ∃ m : Nat, n = m := ⟨n.toNat, by omega⟩
  exact ⟨m, rfl, by omega⟩
theorem read_seg (h : DataW.trod enc Try.prog W base spare held fuel 36 cs = some x) : ∃ g : Seg, cs = g.four ∧ g.Fits := by
  obtain ⟨y0, y1, y2, y3, n, _, hl, h0, h1, h2, h3⟩ := Go.Joins.trod_struct4 Try.underlying36 h
  rw [cells_seg] at hl
  match cs, hl with
  | [c0, c1, c2, c3], _ =>
    simp only [cells_u32, cells_int, cells_str, List.drop_succ_cons, List.drop_zero, List.take_succ_cons, List.take_zero] at h0 h1 h2 h3
    obtain ⟨a, e0, ha⟩ := read_u32 h0
    obtain ⟨d, e1, _, hd⟩ := DataW.trod_string Try.underlying9 h1
    obtain ⟨s, e2, hs⟩ := read_int h2
    obtain ⟨f, e3, hf⟩ := read_int h3
    simp only [List.cons.injEq, and_true] at e0 e1 e2 e3
    subst e0 e1 e2 e3
    exact ⟨⟨a, d, s, f⟩, rfl, ⟨ha, hd, hs.1, hs.2, hf.1, hf.2⟩⟩
theorem read_segs (h : DataW.trod enc Try.prog W base spare held fuel 23 cs = some x) : ∃ v xs, cs = [v] ∧ Segs W.heap.size W v xs := by
  rcases open_slice Try.underlying23 h with ⟨rfl, _⟩ | ⟨a, len, cap, m, n, D, Pl, rfl, _, hl, hm, hmm, _, hV⟩
  · exact ⟨_, [], rfl, none, 0, rfl, Nat.le_refl _, Nat.zero_le _, fun _ => rfl, by simp, fun h => absurd h (by simp)⟩
  · have hlm : len ≤ m := by rw [hmm]; split <;> omega
    obtain ⟨f, hf⟩ := choose_lt (n := len) (p := fun i (g : Seg) => g.Fits ∧ ∀ j, j < 4 → W.cell? ((a.add (i * 4)).add j) = g.four[j]?) (fun i hi => by
      obtain ⟨cs', hc, ht⟩ := hV i (by omega)
      rw [cells_seg] at hc
      obtain ⟨g, rfl, hg⟩ := read_seg ht
      exact ⟨g, hg, (World.cells?_some hc).2.2⟩)
    obtain ⟨b, off, sp⟩ := a
    refine ⟨_, (List.range len).map f, rfl, some ⟨b, off, sp⟩, cap, by simp, by simpa using hl, hm, (fun h => by cases h), ?_, fun h0 => ?_⟩
    · intro g hg
      obtain ⟨i, hi, rfl⟩ := List.mem_map.1 hg
      exact (hf i (by simpa using hi)).1
    have h0' : 0 < len := by simpa using h0
    have hadd : ∀ i, (⟨b, off, none⟩ : Addr).add i = ⟨b, off + i, none⟩ := fun i => by unfold Addr.add; split <;> simp_all
    have c0 := (hf 0 h0').2 0 (by omega)
    have hsp : sp = none := by
      cases sp with
      | none => rfl
      | some s =>
        exfalso
        unfold World.cell? at c0
        have hs1 : ((⟨b, off, some s⟩ : Addr).add (0 * 4)).spot.isSome = true := by unfold Addr.add; split <;> simp_all
        have hs2 : (((⟨b, off, some s⟩ : Addr).add (0 * 4)).add 0).spot.isSome = true := by unfold Addr.add; split <;> simp_all
        split at c0
        · simp [hs2, Seg.four] at c0
        · simp [Seg.four] at c0
    subst hsp
    simp only [hadd] at hf c0
    have hlt : b < W.heap.size := World.block_lt_of_cell? W (⟨b, off + 0 * 4 + 0, none⟩ : Addr) (c0.trans (show (f 0).four[0]? = some _ from rfl))
    refine ⟨b, off, rfl, hlt, Or.inl hlt, fun k g hk => ?_⟩
    have hk' : k < len := by have := (List.getElem?_eq_some_iff.1 hk).1; simpa using this
    simp only [List.getElem?_map, List.getElem?_range hk', Option.map_some, Option.some.injEq] at hk
    subst hk
    have hq := (hf k hk').2
    exact ⟨hq 0 (by omega), hq 1 (by omega), hq 2 (by omega), hq 3 (by omega)⟩
end
end Go.Proofs.Ytlpoebobfdmcmaa
