/- Arrays of 32 numbers, equal. -/
import Derived.Test.YtaiggfknighhgaaDoorIFrom
import Derived.ChangeKeysEq
set_option linter.unusedVariables false
set_option linter.unusedSimpArgs false
namespace Go.Proofs.YtaiggfknighhgaaDoor
open Go.RowKit

theorem info_int1 : ∃ i, Tryd.prog.info? 3 = some i := by
  have h : (Tryd.prog.info? 3).isSome = true := by kernel_rfl
  exact Option.isSome_iff_exists.1 h
theorem cells_int1 : Tryd.prog.cellsOf 3 = 1 := by kernel_rfl
theorem eq_items (d : Nat) (z : Nat → Int) (w : World) : ∀ is : List Nat, (∀ i, i ∈ is → i < 32) → (Op.eqItems (d + 1) 3 1 (zV z) (zV z) is).run Tryd.prog w = .ok true w
  | [], _ => by simp [Op.eqItems]
  | i :: is, h => by
    have hi := h i List.mem_cons_self
    have h1 : (isAgg 3).run Tryd.prog w = .ok false w := by kernel_rfl
    have hp : (part 3 (zV z) (i * 1)).run Tryd.prog w = .ok (.int .i64 (z i)) w := by
      rw [Nat.mul_one]
      simp [part, Sem.run_bind, h1, zV_get z hi]
    have he : (Op.equalIn (d + 1) 3 (.int .i64 (z i)) (.int .i64 (z i))).run Tryd.prog w = .ok true w := by
      simp [Op.equalIn, Sem.run_bind, run_underlying Tryd.underlying3]
    have ih := eq_items d z w is fun j hj => h j (List.mem_cons_of_mem i hj)
    simp only [Op.eqItems, Sem.run_bind, hp, he, Result.andThen_ok]
    simpa using ih
theorem eq_arr (z : Nat → Int) (w : World) : (binOp .eql 26 (.agg (zV z)) (.agg (zV z))).run Tryd.prog w = .ok (.bool true) w := by
  obtain ⟨i, hi⟩ := info_int1
  have h := run_equalIn_array (P := Tryd.prog) (w := w) 9999 (zV z) (zV z) Tryd.underlying26 hi
  rw [cells_int1, eq_items 9998 z w _ (fun i hi => by simpa using hi)] at h
  have h2 : (Op.equalIn 10000 26 (.agg (zV z)) (.agg (zV z))).run Tryd.prog w = .ok true w := h
  rw [run_eql_struct, h2]
  rfl
end Go.Proofs.YtaiggfknighhgaaDoor
