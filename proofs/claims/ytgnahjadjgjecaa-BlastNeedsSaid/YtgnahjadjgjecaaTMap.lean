/- A map whose keys are terms. -/
import Derived.Test.YtgnahjadjgjecaaChecked
import Derived.Test.YtgnahjadjgjecaaMap
import Derived.Test.YtgnahjadjgjecaaTPure
import Derived.Test.YtgnahjadjgjecaaRowN2
import Derived.DeepKeys4
import Derived.WideKeyMaps
set_option linter.unusedVariables false
set_option linter.unusedSimpArgs false
namespace Go.Proofs.Ytgnahjadjgjecaa
open Go.RowKit Go.Maps Go.MapKept Go.WideMaps

structure Term.WF (t : Term) : Prop where
  k : t.k < 9223372036854775808
  v : t.v < 4294967296
  op : t.op < 9223372036854775808
  a : t.a < 9223372036854775808
  b : t.b < 9223372036854775808
def Term.five (t : Term) : List Value := [.int .i64 t.k, .int .u32 t.v, .int .i64 t.op, .int .i64 t.a, .int .i64 t.b]
theorem encT : EncN 5 Term.five := ⟨fun _ => rfl, fun x u hu => by simp [Term.five] at hu; rcases hu with rfl | rfl | rfl | rfl | rfl <;> rfl, by omega⟩
structure WTerm where
  t : Term
  h : t.WF
def WTerm.val (t : WTerm) : Value := .agg #[.int .i64 t.t.k, .int .u32 t.t.v, .int .i64 t.t.op, .int .i64 t.t.a, .int .i64 t.t.b]
theorem laidOutT : laidOutB Try.prog = true := by kernel_rfl
theorem wide_term : (match Try.prog.underlying 82 with | some (.array _ _) | some (.struct _) => true | _ => false) = true := by rw [Try.underlying82]
theorem row_term : (82 : TypeId) < Try.prog.types.size := of_decide_eq_true (by kernel_rfl)
theorem at_term : Try.prog.keyTypeAt 2 82 = true := by kernel_rfl
set_option maxRecDepth 100000 in
theorem law_term : KeyLaw Try.prog 82 := deep_law_laid laidOutT (m := 2) (by omega) row_term at_term wide_term
theorem cells_term : Try.prog.cellsOf 82 = 5 := by kernel_rfl
theorem cells_int : Try.prog.cellsOf 3 = 1 := by kernel_rfl
theorem cells_u32 : Try.prog.cellsOf 26 = 1 := by kernel_rfl
theorem keyType_term : Try.prog.keyType 82 = true := by kernel_rfl
theorem lits_int (d : Nat) (n : Nat) (h : n < 9223372036854775808) : Try.prog.keyLits (d + 1) 3 [.int .i64 (n : Int)] = some [.int .i64 (n : Int)] := by
  have hw : (Lit.int .i64 (n : Int)).wf = true := by
    show (decide (IntKind.i64.min ≤ (n : Int)) && decide ((n : Int) ≤ IntKind.i64.max)) = true
    have h1 : IntKind.i64.min = -9223372036854775808 := rfl
    have h2 : IntKind.i64.max = 9223372036854775807 := rfl
    rw [h1, h2]
    simp only [Bool.and_eq_true, decide_eq_true_eq]
    omega
  simp [Program.keyLits, Try.underlying3, hw]
theorem lits_u32 (d : Nat) (n : Nat) (h : n < 4294967296) : Try.prog.keyLits (d + 1) 26 [.int .u32 (n : Int)] = some [.int .u32 (n : Int)] := by
  have hw : (Lit.int .u32 (n : Int)).wf = true := by
    show (decide (IntKind.u32.min ≤ (n : Int)) && decide ((n : Int) ≤ IntKind.u32.max)) = true
    have h1 : IntKind.u32.min = 0 := rfl
    have h2 : IntKind.u32.max = 4294967295 := rfl
    rw [h1, h2]
    simp only [Bool.and_eq_true, decide_eq_true_eq]
    omega
  simp [Program.keyLits, Try.underlying26, hw]
theorem term_key (t : WTerm) : ∃ l, keyOf Try.prog 82 t.val = some l := by
  obtain ⟨d, hd⟩ : ∃ d, Try.prog.types.size = d + 1 := ⟨Try.prog.types.size - 1, by have : 0 < Try.prog.types.size := of_decide_eq_true (by kernel_rfl); omega⟩
  obtain ⟨⟨k, v, op, a, b⟩, ⟨h1, h2, h3, h4, h5⟩⟩ := t
  dsimp only at h1 h2 h3 h4 h5
  refine Option.isSome_iff_exists.1 ?_
  show (keyOf Try.prog 82 (.agg #[.int .i64 k, .int .u32 v, .int .i64 op, .int .i64 a, .int .i64 b])).isSome = true
  rw [keyOf, Try.underlying82]
  simp only []
  rw [if_pos (by rw [keyType_term]; simp [Value.formed, Try.underlying82, cells_term]), hd]
  unfold Program.keyLits
  simp [Try.underlying82, Value.cells, cells_term, cells_int, cells_u32, lits_int d _ h1, lits_u32 d _ h2, lits_int d _ h3, lits_int d _ h4, lits_int d _ h5]
theorem term_ops : KeyOps Try.prog 82 WTerm.val where
  inj := by
    rintro ⟨⟨k, v, op, a, b⟩, hx⟩ ⟨⟨k', v', op', a', b'⟩, hy⟩ h
    simp only [WTerm.val, Value.agg.injEq] at h
    simp at h
    obtain ⟨e1, e2, e3, e4, e5⟩ := h
    have e : (⟨k, v, op, a, b⟩ : Term) = ⟨k', v', op', a', b'⟩ := by simp only [Term.mk.injEq]; omega
    injection e with e1 e2 e3 e4 e5
    subst e1 e2 e3 e4 e5
    rfl
  check w em x := by obtain ⟨l, h⟩ := term_key x; exact law_term.check w em h
  find w x es hes := by
    obtain ⟨l, h⟩ := term_key x
    exact law_term.find w h es fun e he => by obtain ⟨y, hy⟩ := hes e he; rw [hy]; exact term_key y
  stays w x := by obtain ⟨l, h⟩ := term_key x; exact law_term.stays w h
end Go.Proofs.Ytgnahjadjgjecaa
