/- What arguments of the laws on terms are. -/
import Derived.Test.YtekleoccdockhaaDoorCells
import Derived.Test.YtekleoccdockhaaDoorChecked
import Derived.Deep.Slices
import Derived.Lib.SmallJoins
import Derived.WideShapes
set_option linter.unusedVariables false
set_option linter.unusedSimpArgs false
namespace Go.Proofs.YtekleoccdockhaaDoor
open Go.RowKit Go.Deep Go.WideShapes

section
variable {H : Type} {enc : TypeId × Value → H} {W : World} {base : Nat} {spare : Nat → Bool} {held : Bool} {fuel : Nat} {cs : List Value} {x : DataW H × List MemPlace}
theorem read_u32 (h : DataW.trod enc Tryd.prog W base spare held fuel 24 cs = some x) : ∃ n : Nat, cs = [.int .u32 (n : Int)] ∧ n < 4294967296 := by
  obtain ⟨n, rfl, _, hw⟩ := DataW.trod_int Tryd.underlying24 h
  have hw' : decide (IntKind.u32.min ≤ n) && decide (n ≤ IntKind.u32.max) := hw
  simp only [Bool.and_eq_true, decide_eq_true_eq] at hw'
  obtain ⟨h1, h2⟩ := hw'
  replace h1 : (0 : Int) ≤ n := h1
  replace h2 : n ≤ 4294967295 := h2
  obtain ⟨m, rfl⟩ : ∃ m : Nat, n = m := ⟨n.toNat, by omega⟩
  exact ⟨m, rfl, by omega⟩
theorem read_int (h : DataW.trod enc Tryd.prog W base spare held fuel 3 cs = some x) : ∃ n : Int, cs = [.int .i64 n] ∧ -9223372036854775808 ≤ n ∧ n ≤ 9223372036854775807 := by
  obtain ⟨n, rfl, _, hw⟩ := DataW.trod_int Tryd.underlying3 h
  have hw' : decide (IntKind.i64.min ≤ n) && decide (n ≤ IntKind.i64.max) := hw
  simp only [Bool.and_eq_true, decide_eq_true_eq] at hw'
  exact ⟨n, rfl, hw'⟩
end
end Go.Proofs.YtekleoccdockhaaDoor
