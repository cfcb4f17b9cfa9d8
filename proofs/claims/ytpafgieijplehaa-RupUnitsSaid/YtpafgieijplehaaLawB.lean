/- What follows from clauses that hold holds. -/
import Derived.Test.YtpafgieijplehaaChkA
set_option linter.unusedVariables false
set_option linter.unusedSimpArgs false
namespace Go.Proofs.Ytpafgieijplehaa
def litAt (a : List Bool) (x : Int) : Bool :=
  if 1 ≤ x ∧ x ≤ a.length then a.getD (x - 1).toNat false
  else if 1 ≤ -x ∧ -x ≤ a.length then !(a.getD (-x - 1).toNat false)
  else decide (x < 0) && !(x == -9223372036854775808)
def clauseAt (a : List Bool) (l : List Int) : Bool := l.any (litAt a)
theorem clauseAt_cons (a : List Bool) (x : Int) (l : List Int) : clauseAt a (x :: l) = (litAt a x || clauseAt a l) := rfl
namespace Rup
theorem litAt_neg {a : List Bool} {x : Int} (hx : inr x) (hn : never x = false) : litAt a (neg x) = !litAt a x := by
  rw [neg_eq hx hn]
  have h0 := never_no.1 hn
  unfold litAt
  by_cases h1 : 1 ≤ x ∧ x ≤ a.length
  · rw [if_neg (by omega), if_pos (by omega), if_pos h1, show (-(-x) - 1).toNat = (x - 1).toNat by omega]
  · by_cases h2 : 1 ≤ -x ∧ -x ≤ a.length
    · rw [if_pos (by omega), if_neg h1, if_pos h2, Bool.not_not]
    · rw [if_neg (by omega), if_neg (by omega), if_neg h1, if_neg h2]
      unfold inr at hx
      by_cases h3 : x < 0
      · have e1 : decide (-x < 0) = false := decide_eq_false (by omega)
        have e2 : (x == -9223372036854775808) = false := beq_eq_false_iff_ne.2 h0.2
        rw [e1, e2, decide_eq_true h3]; rfl
      · have e1 : decide (-x < 0) = true := decide_eq_true (by omega)
        have e2 : (-x == -9223372036854775808) = false := beq_eq_false_iff_ne.2 (by omega)
        rw [e1, e2, decide_eq_false h3]; rfl
theorem litAt_never {a : List Bool} (ha : a.length ≤ 1000000) {x : Int} (hn : never x = true) : litAt a x = false := by
  unfold litAt
  rcases (never_iff x).1 hn with rfl | rfl
  · rw [if_neg (by omega), if_neg (by omega)]; rfl
  · rw [if_neg (by omega), if_neg (by omega)]; rfl
theorem sound {a : List Bool} (ha : a.length ≤ 1000000) {l : List (List Int)} {p : List Int} (hl : okGrid l) (hp : okRow p) (hA : ∀ c, c ∈ l → clauseAt a c = true) (h : Conflict l p) : clauseAt a p = true := by
  cases e : clauseAt a p with
  | true => rfl
  | false =>
    exfalso
    have hf : ∀ x, x ∈ p → litAt a x = false := fun x hx => by
      cases e2 : litAt a x with
      | false => rfl
      | true => rw [show clauseAt a p = true from List.any_eq_true.2 ⟨x, hx, e2⟩] at e; cases e
    have key : ∀ c, c ∈ l → ∃ y, y ∈ c ∧ never y = false ∧ litAt a y = true := fun c hc => by
      obtain ⟨y, hy, h1⟩ := List.any_eq_true.1 (hA c hc)
      refine ⟨y, hy, ?_, h1⟩
      cases e2 : never y with
      | false => rfl
      | true => rw [litAt_never ha e2] at h1; cases h1
    have hd : ∀ x, Der l p x → litAt a x = true := by
      intro x hx
      induction hx with
      | start hx hn => rw [litAt_neg (hp _ hx) hn, hf _ hx]; rfl
      | @unit c x hc hx hn hy ih =>
        obtain ⟨y, hy1, hy2, hy3⟩ := key c hc
        by_cases hyx : y = x
        · rw [← hyx]; exact hy3
        · have := ih y hy1 hy2 hyx
          rw [litAt_neg (hl c hc y hy1) hy2, hy3] at this
          cases this
    rcases h with ⟨c, hc, hy⟩ | ⟨x, h1, h2, h3, h4⟩
    · obtain ⟨y, hy1, hy2, hy3⟩ := key c hc
      have := hd _ (hy y hy1 hy2)
      rw [litAt_neg (hl c hc y hy1) hy2, hy3] at this
      cases this
    · have := hd _ h4
      rw [litAt_neg h1 h2, hd _ h3] at this
      cases this
theorem check_sound {a : List Bool} (ha : a.length ≤ 1000000) : ∀ (r l : List (List Int)) (i : Nat) (e : Bool), okGrid l → okGrid r → (∀ c, c ∈ l → clauseAt a c = true) →
    (check follows l r i e).2 = e ∧ i ≤ (check follows l r i e).1 ∧ (check follows l r i e).1 ≤ i + r.length ∧ ∀ j, i ≤ j → j < (check follows l r i e).1 → clauseAt a (r.getD (j - i) []) = true
  | [], l, i, e, _, _, _ => ⟨rfl, Nat.le_refl _, Nat.le_refl _, fun j h1 h2 => by simp only [check] at h2; omega⟩
  | p :: r, l, i, e, hl, hr, hA => by
    have hp := hr p (List.mem_cons_self ..)
    unfold check
    by_cases hf : follows l p = true
    · rw [if_pos hf]
      have hpc := sound ha hl hp hA ((follows_iff hl hp).1 hf)
      have hne : none_ p = false := by
        cases p with
        | nil => cases hpc
        | cons x t => simp [none_]; omega
      rw [hne, Bool.or_false]
      have hl2 : okGrid (l ++ [p]) := fun c hc => by
        rcases List.mem_append.1 hc with hc | hc
        · exact hl c hc
        · rw [List.mem_singleton.1 hc]; exact hp
      obtain ⟨h1, h2, h3, h4⟩ := check_sound ha r (l ++ [p]) (i + 1) e hl2 (fun c hc => hr c (List.mem_cons_of_mem _ hc)) (fun c hc => by
        rcases List.mem_append.1 hc with hc | hc
        · exact hA c hc
        · rw [List.mem_singleton.1 hc]; exact hpc)
      refine ⟨h1, by omega, by rw [List.length_cons]; omega, fun j hj1 hj2 => ?_⟩
      by_cases hji : j = i
      · subst hji; simpa using hpc
      · have := h4 j (by omega) hj2
        rw [show j - i = (j - (i + 1)) + 1 by omega]
        simpa using this
    · rw [if_neg hf]
      exact ⟨rfl, Nat.le_refl _, by omega, fun j h1 h2 => by simp at h2; omega⟩
end Rup
end Go.Proofs.Ytpafgieijplehaa
