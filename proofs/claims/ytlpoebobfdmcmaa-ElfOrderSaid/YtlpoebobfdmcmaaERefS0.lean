/- Comparing segments. -/
import Derived.Test.YtlpoebobfdmcmaaERows
import Derived.Laws.StructEq
set_option linter.unusedVariables false
set_option linter.unusedSimpArgs false
namespace Go.Proofs.Ytlpoebobfdmcmaa
open Go.RowKit
theorem seg_fields : Try.prog.fieldsOf 36 = #[{ name := "Addr", type := 22, offset := 0, embedded := false, tag := "", pkgPath := "", byteOffset := 0 }, { name := "Data", type := 9, offset := 1, embedded := false, tag := "", pkgPath := "", byteOffset := 8 }, { name := "Size", type := 3, offset := 2, embedded := false, tag := "", pkgPath := "", byteOffset := 24 }, { name := "Flags", type := 3, offset := 3, embedded := false, tag := "", pkgPath := "", byteOffset := 32 }] := by
  have h := Try.underlying36
  simp [Program.fieldsOf, h]
theorem seg_held : Try.prog.stoodInHeld 36 = false := by kernel_rfl
theorem seg_und : Try.prog.underlying 36 = some (.struct (Try.prog.fieldsOf 36)) := by rw [seg_fields]; exact Try.underlying36
def segEq (a1 a2 : Nat) (d1 d2 : ByteArray) (s1 s2 f1 f2 : Int) : Bool := (a1 : Int) == (a2 : Int) && (d1.toList == d2.toList && (s1 == s2 && f1 == f2))
theorem seg_neq (w : World) (a1 a2 : Nat) (d1 d2 : ByteArray) (s1 s2 f1 f2 : Int) :
    (binOp .neq 36 (.agg #[.int .u32 a1, .string d1, .int .i64 s1, .int .i64 f1]) (.agg #[.int .u32 a2, .string d2, .int .i64 s2, .int .i64 f2])).run Try.prog w = .ok (.bool (!(segEq a1 a2 d1 d2 s1 s2 f1 f2))) w := by
  rw [run_neq_struct, run_equalIn_struct w 9999 _ _ _ seg_und seg_held, seg_fields]
  have i0 : ∀ a b : Int, (Op.equalIn 9999 22 (.int .u32 a) (.int .u32 b)).run Try.prog w = .ok (a == b) w := fun a b => run_equalIn_int w 9998 _ .u32 .u32 a b Try.underlying22
  have i1 : ∀ a b : Int, (Op.equalIn 9999 3 (.int .i64 a) (.int .i64 b)).run Try.prog w = .ok (a == b) w := fun a b => run_equalIn_int w 9998 _ .i64 .i64 a b Try.underlying3
  have i2 : ∀ a b : ByteArray, (Op.equalIn 9999 9 (.string a) (.string b)).run Try.prog w = .ok (a.toList == b.toList) w := fun a b => run_equalIn_string w 9998 _ a b Try.underlying9
  simp [Op.eqFields, go_sem, i0, i1, i2, segEq]
  by_cases h1 : (a1 : Int) = (a2 : Int)
  · by_cases h2 : d1.toList = d2.toList
    · by_cases h3 : s1 = s2
      · by_cases h4 : f1 = f2 <;> simp [h1, h2, h3, h4]
      · simp [h1, h2, h3]
    · simp [h1, h2]
  · simp [h1]
theorem segEq_iff (a1 a2 : Nat) (d1 d2 : ByteArray) (s1 s2 f1 f2 : Int) : segEq a1 a2 d1 d2 s1 s2 f1 f2 = true ↔ (⟨a1, d1, s1, f1⟩ : Seg) = ⟨a2, d2, s2, f2⟩ := by
  simp [segEq, ByteArray.toList_eq]
  constructor
  · rintro ⟨h1, h2, h3, h4⟩
    exact ⟨by omega, by cases d1; cases d2; simp_all, h3, h4⟩
  · rintro ⟨h1, rfl, h3, h4⟩
    exact ⟨by omega, rfl, h3, h4⟩
end Go.Proofs.Ytlpoebobfdmcmaa
