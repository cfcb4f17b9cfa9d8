/- Small laws for the laws' walks. -/
import Derived.Test.YtlpoebobfdmcmaaELawA
import Derived.Test.YtlpoebobfdmcmaaEParseA
import Derived.Test.YtlpoebobfdmcmaaEWrite2
set_option linter.unusedVariables false
set_option linter.unusedSimpArgs false
namespace Go.Proofs.Ytlpoebobfdmcmaa
open Go.RowKit
theorem boundL_len (xs : List Seg) : (boundL xs).length ≤ 100000 := by simp [boundL]; omega
theorem OwnG.lower {B B' : Nat} {w : World} {v : Value} {xs : List Seg} (h : OwnG B w v xs) (hB : B' ≤ B) : OwnG B' w v xs := by
  obtain ⟨h2, hf⟩ := h
  refine ⟨⟨h2.1, ?_⟩, hf⟩
  rcases h2.2 with h4 | ⟨g, cap, cur, e1, hb, r⟩
  · exact Or.inl h4
  · exact Or.inr ⟨g, cap, cur, e1, Nat.le_trans hB hb, r⟩
/-- A cell of another type is set. -/
theorem OwnG.set {B : Nat} {w : World} {v : Value} {xs : List Seg} (h : OwnG B w v xs) {b : Nat} {cs : Array Value} {fz : Nat × Nat} (hb : w.heap[b]? = some (.cells cs 25 fz)) (hB : B ≤ b) (i : Nat) (u : Value) : OwnG B (w.setCell ⟨b, i, none⟩ u) v xs :=
  h.move (Quiet.set hb (B := B) (T := [36]) hB (by decide) i u) (by decide)
/-- The three cells of a program in a box. -/
theorem three {W : World} {b : Nat} {u0 u1 u2 : Value} {t : TypeId} {fz : Nat × Nat} (h : W.heap[b]? = some (.cells #[u0, u1, u2] t fz)) : W.cell? ⟨b, 0, none⟩ = some u0 ∧ W.cell? ⟨b, 1, none⟩ = some u1 ∧ W.cell? ⟨b, 2, none⟩ = some u2 :=
  ⟨(cell_of h 0).trans rfl, (cell_of h 1).trans rfl, (cell_of h 2).trans rfl⟩
theorem rowsAt_ne {s : ByteArray} {a n : Nat} {e : Int} (h : rowsAt s a n = .error e) : e ≠ 0 := by
  induction n with
  | zero => cases h
  | succ n ih =>
    rw [rowsAt] at h
    split at h
    · rename_i e' he
      injection h with h
      subst h
      exact ih he
    · split at h
      · rename_i e' he
        injection h with h
        subst h
        exact segOf_err he
      · cases h
def Fair (o : Except Int (Nat × Nat × List Seg)) : Prop := (∃ e, o = .error e ∧ e ≠ 0) ∨ (∃ en fl xs, o = .ok (en, fl, xs) ∧ chk xs = 0 ∧ en < 4294967296 ∧ fl < 4294967296)
theorem Fair.err {e : Int} (h : e ≠ 0) : Fair (.error e) := Or.inl ⟨_, rfl, h⟩
theorem Fair.ite {p : Prop} [Decidable p] {a b : Except Int (Nat × Nat × List Seg)} (h1 : Fair a) (h2 : Fair b) : Fair (if p then a else b) := by split <;> assumption
theorem parseOf_cases (s : ByteArray) : Fair (parseOf s) := by
  unfold parseOf
  have e60 : (60 : Int) ≠ 0 := by decide
  have e61 : (61 : Int) ≠ 0 := by decide
  refine Fair.ite (Fair.err e60) (Fair.ite (Fair.err e61) (Fair.ite (Fair.err e61) (Fair.ite (Fair.err e61) (Fair.ite (Fair.err e61) (Fair.ite (Fair.err e61) (Fair.ite (Fair.err e61) (Fair.ite (Fair.err (by decide)) (Fair.ite (Fair.err e60) ?_))))))))
  cases he : rowsAt s (num (toL s) 28 4) (num (toL s) 44 2) with
  | error e => exact Fair.err (rowsAt_ne he)
  | ok xs =>
    by_cases hc : chk xs = 0
    · simp only
      rw [if_pos hc]
      exact Or.inr ⟨_, _, _, rfl, hc, num_lt4 _ _ (Nat.le_refl _), num_lt4 _ _ (Nat.le_refl _)⟩
    · simp only
      rw [if_neg hc]
      exact Fair.err hc
end Go.Proofs.Ytlpoebobfdmcmaa
