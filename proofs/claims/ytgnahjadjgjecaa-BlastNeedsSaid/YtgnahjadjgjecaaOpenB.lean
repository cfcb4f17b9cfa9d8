/- What arguments of the laws on terms are. -/
/- What a script is that was handed in. -/
import Derived.Test.YtgnahjadjgjecaaCells
import Derived.Test.YtgnahjadjgjecaaChecked
import Derived.Deep.Slices
import Derived.Lib.SmallJoins
import Derived.WideShapes
set_option linter.unusedVariables false
set_option linter.unusedSimpArgs false
namespace Go.Proofs.Ytgnahjadjgjecaa
open Go.RowKit Go.Deep Go.WideShapes

section
variable {H : Type} {enc : TypeId × Value → H} {W : World} {base : Nat} {spare : Nat → Bool} {held : Bool} {fuel : Nat} {cs : List Value} {x : DataW H × List MemPlace}
theorem read_u32 (h : DataW.trod enc Try.prog W base spare held fuel 26 cs = some x) : ∃ n : Nat, cs = [.int .u32 (n : Int)] ∧ n < 4294967296 := by
  obtain ⟨n, rfl, _, hw⟩ := DataW.trod_int Try.underlying26 h
  have hw' : decide (IntKind.u32.min ≤ n) && decide (n ≤ IntKind.u32.max) := hw
  simp only [Bool.and_eq_true, decide_eq_true_eq] at hw'
  obtain ⟨h1, h2⟩ := hw'
  replace h1 : (0 : Int) ≤ n := h1
  replace h2 : n ≤ 4294967295 := h2
  obtain ⟨m, rfl⟩ : ∃ m : Nat, n = m := ⟨n.toNat, by omega⟩
  exact ⟨m, rfl, by omega⟩
theorem read_int (h : DataW.trod enc Try.prog W base spare held fuel 3 cs = some x) : ∃ n : Int, cs = [.int .i64 n] ∧ -9223372036854775808 ≤ n ∧ n ≤ 9223372036854775807 := by
  obtain ⟨n, rfl, _, hw⟩ := DataW.trod_int Try.underlying3 h
  have hw' : decide (IntKind.i64.min ≤ n) && decide (n ≤ IntKind.i64.max) := hw
  simp only [Bool.and_eq_true, decide_eq_true_eq] at hw'
  exact ⟨n, rfl, hw'⟩
end
theorem cells_w32 : Try.prog.cellsOf 26 = 1 := by kernel_rfl
theorem cells_wint : Try.prog.cellsOf 3 = 1 := by kernel_rfl
theorem list_five {α : Type} {l : List α} (h : l.length = 5) : ∃ a b c d e, l = [a, b, c, d, e] := by
  match l, h with
  | [a, b, c, d, e], _ => exact ⟨a, b, c, d, e, rfl⟩
section
variable {H : Type} {enc : TypeId × Value → H} {W : World} {base : Nat} {spare : Nat → Bool} {held : Bool} {fuel : Nat} {cs : List Value} {x : DataW H × List MemPlace}
theorem trod_five {P : Program} {t : TypeId} {f0 f1 f2 f3 f4 : Field} (ht : P.underlying t = some (.struct #[f0, f1, f2, f3, f4])) (h : DataW.trod enc P W base spare held fuel t cs = some x) :
    ∃ y0 y1 y2 y3 y4 n, cs.length = P.cellsOf t ∧ DataW.trod enc P W base spare held n f0.type ((cs.drop f0.offset).take (P.cellsOf f0.type)) = some y0 ∧ DataW.trod enc P W base spare held n f1.type ((cs.drop f1.offset).take (P.cellsOf f1.type)) = some y1 ∧
      DataW.trod enc P W base spare held n f2.type ((cs.drop f2.offset).take (P.cellsOf f2.type)) = some y2 ∧ DataW.trod enc P W base spare held n f3.type ((cs.drop f3.offset).take (P.cellsOf f3.type)) = some y3 ∧ DataW.trod enc P W base spare held n f4.type ((cs.drop f4.offset).take (P.cellsOf f4.type)) = some y4 := by
  obtain ⟨xs, n, _, _, hl, hlen, hf⟩ := DataW.trod_struct ht h
  match xs, hlen with
  | [y0, y1, y2, y3, y4], _ => exact ⟨y0, y1, y2, y3, y4, n, hl, by simpa using hf 0 f0 rfl, by simpa using hf 1 f1 rfl, by simpa using hf 2 f2 rfl, by simpa using hf 3 f3 rfl, by simpa using hf 4 f4 rfl⟩
end
end Go.Proofs.Ytgnahjadjgjecaa
