/- Proofs that go on; clauses in another order; chains. -/
import Derived.Test.YtpafgieijplehaaLawB
set_option linter.unusedVariables false
set_option linter.unusedSimpArgs false
namespace Go.Proofs.Ytpafgieijplehaa
namespace Rup
theorem check_len {F : List (List Int) → List Int → Bool} : ∀ (r l : List (List Int)) (i : Nat) (e : Bool), i ≤ (check F l r i e).1 ∧ (check F l r i e).1 ≤ i + r.length ∧ (e = true → (check F l r i e).2 = true)
  | [], l, i, e => ⟨Nat.le_refl _, Nat.le_refl _, fun h => h⟩
  | p :: r, l, i, e => by
    unfold check
    split
    · obtain ⟨h1, h2, h3⟩ := check_len (F := F) r (l ++ [p]) (i + 1) (e || none_ p)
      exact ⟨by omega, by rw [List.length_cons]; omega, fun h => h3 (by simp [h])⟩
    · exact ⟨Nat.le_refl _, by omega, fun h => h⟩
theorem check_append {F : List (List Int) → List Int → Bool} : ∀ (r1 r2 l : List (List Int)) (i : Nat) (e : Bool),
    ((check F l r1 i e).1 < i + r1.length → check F l (r1 ++ r2) i e = check F l r1 i e) ∧
    ((check F l r1 i e).1 = i + r1.length → (check F l r1 i e).1 ≤ (check F l (r1 ++ r2) i e).1 ∧ (check F l (r1 ++ r2) i e).1 ≤ (check F l r1 i e).1 + r2.length ∧ ((check F l r1 i e).2 = true → (check F l (r1 ++ r2) i e).2 = true))
  | [], r2, l, i, e => by
    refine ⟨fun h => by simp [check] at h, fun _ => ?_⟩
    obtain ⟨h1, h2, h3⟩ := check_len (F := F) r2 l i e
    exact ⟨h1, h2, h3⟩
  | p :: r, r2, l, i, e => by
    rw [List.cons_append]
    unfold check
    by_cases hf : F l p = true
    · rw [if_pos hf, if_pos hf, List.length_cons]
      obtain ⟨h1, h2⟩ := check_append (F := F) r r2 (l ++ [p]) (i + 1) (e || none_ p)
      exact ⟨fun h => h1 (by omega), fun h => h2 (by omega)⟩
    · rw [if_neg hf, if_neg hf]
      exact ⟨fun _ => rfl, fun h => by simp at h⟩

/-- the same clauses, as sets. -/
def Like (l l' : List (List Int)) : Prop := ∀ c, c ∈ l → ∃ c', c' ∈ l' ∧ ∀ x, x ∈ c ↔ x ∈ c'
theorem Der.like {l l' : List (List Int)} {p p' : List Int} (hl : Like l l') (hp : ∀ x, x ∈ p → x ∈ p') {x : Int} (h : Der l p x) : Der l' p' x := by
  induction h with
  | start hx hn => exact .start (hp _ hx) hn
  | unit hc hx hn _ ih =>
    obtain ⟨c', hc', he⟩ := hl _ hc
    exact .unit hc' ((he _).1 hx) hn fun y hy hyn hyx => ih y ((he y).2 hy) hyn hyx
theorem Conflict.like {l l' : List (List Int)} {p p' : List Int} (hl : Like l l') (hp : ∀ x, x ∈ p → x ∈ p') (h : Conflict l p) : Conflict l' p' := by
  rcases h with ⟨c, hc, hy⟩ | ⟨x, h1, h2, h3, h4⟩
  · obtain ⟨c', hc', he⟩ := hl _ hc
    exact Or.inl ⟨c', hc', fun y h1 h2 => (hy y ((he y).2 h1) h2).like hl hp⟩
  · exact Or.inr ⟨x, h1, h2, h3.like hl hp, h4.like hl hp⟩
def turned (l : List (List Int)) : List (List Int) := (l.map List.reverse).reverse
theorem turned_ok {l : List (List Int)} (h : okGrid l) : okGrid (turned l) := by
  intro c hc x hx
  simp only [turned, List.mem_reverse, List.mem_map] at hc
  obtain ⟨a, ha, rfl⟩ := hc
  exact h a ha x (List.mem_reverse.1 hx)
theorem like_turned (l : List (List Int)) : Like l (turned l) := fun c hc => ⟨c.reverse, by simp only [turned, List.mem_reverse, List.mem_map]; exact ⟨c, hc, rfl⟩, fun x => List.mem_reverse.symm⟩
theorem turned_like (l : List (List Int)) : Like (turned l) l := fun c hc => by
  simp only [turned, List.mem_reverse, List.mem_map] at hc
  obtain ⟨a, ha, rfl⟩ := hc
  exact ⟨a, ha, fun x => List.mem_reverse⟩
theorem follows_turned {l : List (List Int)} {p : List Int} (hl : okGrid l) (hp : okRow p) : follows l p = follows (turned l) p.reverse := by
  have hp' : okRow p.reverse := fun x hx => hp x (List.mem_reverse.1 hx)
  rw [Bool.eq_iff_iff, follows_iff hl hp, follows_iff (turned_ok hl) hp']
  exact ⟨Conflict.like (like_turned l) fun x hx => List.mem_reverse.2 hx, Conflict.like (turned_like l) fun x hx => List.mem_reverse.1 hx⟩

/-! ### chains -/
def link (i : Nat) : List Int := [-(i : Int), (i : Int) + 1]
def chain (k : Nat) : List (List Int) := [1] :: (List.range (k - 1)).map fun i => link (i + 1)
def without (l : List (List Int)) (at_ : Nat) : List (List Int) := l.take at_ ++ l.drop (at_ + 1)
theorem chain_mem {k : Nat} {c : List Int} (h : c ∈ chain k) : c = [1] ∨ ∃ i, 1 ≤ i ∧ i < k ∧ c = link i := by
  rcases List.mem_cons.1 h with h | h
  · exact Or.inl h
  · obtain ⟨i, hi, rfl⟩ := List.mem_map.1 h
    have := List.mem_range.1 hi
    exact Or.inr ⟨i + 1, by omega, by omega, rfl⟩
theorem chain_ok {k : Nat} (hk : k ≤ 40) : okGrid (chain k) := by
  intro c hc x hx
  rcases chain_mem hc with rfl | ⟨i, h1, h2, rfl⟩
  · rw [List.mem_singleton.1 hx]; unfold inr; omega
  · simp only [link, List.mem_cons, List.not_mem_nil, or_false] at hx
    unfold inr
    rcases hx with rfl | rfl <;> omega
theorem never_pos {x : Int} (h : 1 ≤ x) : never x = false := never_no.2 ⟨by omega, by omega⟩
theorem never_neg {x : Int} (h : 1 ≤ x) (h2 : x ≤ 1000) : never (-x) = false := never_no.2 ⟨by omega, by omega⟩
theorem chain_der {k : Nat} (hk : k ≤ 40) (p : List Int) : ∀ j : Nat, 1 ≤ j → j ≤ k → Der (chain k) p (j : Int)
  | 0, h, _ => by omega
  | 1, _, _ => .unit (c := [1]) (List.mem_cons_self ..) (by simp) (never_pos (by omega)) fun y hy _ hne => by
      simp at hy; exact absurd hy (by simpa using hne)
  | j + 2, _, h2 => by
    have ih := chain_der hk p (j + 1) (by omega) (by omega)
    refine .unit (c := link (j + 1)) (List.mem_cons_of_mem _ (List.mem_map.2 ⟨j, List.mem_range.2 (by omega), rfl⟩)) ?_ (never_pos (by omega)) fun y hy hyn hne => ?_
    · simp [link]; right; omega
    · simp only [link, List.mem_cons, List.not_mem_nil, or_false] at hy
      rcases hy with rfl | rfl
      · rw [neg_eq (by unfold inr; omega) hyn, Int.neg_neg]; exact ih
      · exact absurd (show ((j + 1 : Nat) : Int) + 1 = ((j + 2 : Nat) : Int) by omega) hne
theorem units1 {k : Nat} (h2 : 2 ≤ k) (hk : k ≤ 40) : follows (chain k) [(k : Int)] = true := by
  have hp : okRow [(k : Int)] := fun x hx => by rw [List.mem_singleton.1 hx]; unfold inr; omega
  refine (follows_iff (chain_ok hk) hp).2 (Or.inr ⟨k, by unfold inr; omega, never_pos (by omega), chain_der hk _ k (by omega) (Nat.le_refl _), .start (by simp) (never_pos (by omega))⟩)
theorem units4 {k : Nat} (h2 : 2 ≤ k) (hk : k ≤ 40) : follows (chain k) [(k : Int) + 1, 1] = true := by
  have hp : okRow [(k : Int) + 1, 1] := fun x hx => by
    simp only [List.mem_cons, List.not_mem_nil, or_false] at hx
    unfold inr; rcases hx with rfl | rfl <;> omega
  exact (follows_iff (chain_ok hk) hp).2 (Or.inr ⟨1, by unfold inr; omega, by decide, by have := chain_der hk [(k : Int) + 1, 1] 1 (by omega) (by omega); simpa using this, .start (by simp) (by decide)⟩)
/-- the values: yes up to n. -/
def upTo (n : Nat) : List Bool := (List.range 100).map fun v => decide (v < n)
theorem litAt_upTo {n : Nat} {x : Int} (h1 : 1 ≤ x) (h2 : x ≤ 100) : litAt (upTo n) x = decide (x ≤ n) ∧ litAt (upTo n) (-x) = !decide (x ≤ n) := by
  have e : litAt (upTo n) x = decide (x ≤ n) := by
    unfold litAt
    rw [if_pos (by simp [upTo]; omega)]
    have : (x - 1).toNat < 100 := by omega
    simp only [upTo, List.getD, List.getElem?_map, List.getElem?_range this, Option.map_some, Option.getD_some]
    rw [decide_eq_decide]; omega
  have hn := never_pos h1
  have := litAt_neg (a := upTo n) (x := x) (by unfold inr; omega) hn
  rw [neg_eq (by unfold inr; omega) hn] at this
  exact ⟨e, by rw [this, e]⟩
theorem not_follows {l : List (List Int)} {p : List Int} {n : Nat} (hl : okGrid l) (hp : okRow p) (hA : ∀ c, c ∈ l → clauseAt (upTo n) c = true) (hf : clauseAt (upTo n) p = false) : follows l p = false := by
  cases e : follows l p with
  | false => rfl
  | true =>
    have := sound (a := upTo n) (by simp [upTo]) hl hp hA ((follows_iff hl hp).1 e)
    rw [hf] at this; cases this
theorem units3 {k : Nat} (h2 : 2 ≤ k) (hk : k ≤ 40) : follows (chain k) [(k : Int) + 1] = false := by
  have hp : okRow [(k : Int) + 1] := fun x hx => by rw [List.mem_singleton.1 hx]; unfold inr; omega
  refine not_follows (n := k) (chain_ok hk) hp (fun c hc => ?_) ?_
  · rcases chain_mem hc with rfl | ⟨i, h3, h4, rfl⟩
    · simp [clauseAt, (litAt_upTo (n := k) (x := 1) (by omega) (by omega)).1]; omega
    · simp [clauseAt, link, (litAt_upTo (n := k) (x := (i : Int) + 1) (by omega) (by omega)).1]
      exact Or.inr (by omega)
  · simp [clauseAt, (litAt_upTo (n := k) (x := (k : Int) + 1) (by omega) (by omega)).1]; omega
theorem without_mem {l : List (List Int)} {a : Nat} {c : List Int} (h : c ∈ without l a) : ∃ j, j ≠ a ∧ l[j]? = some c := by
  rcases List.mem_append.1 h with h | h
  · obtain ⟨j, hj⟩ := List.mem_iff_getElem?.1 h
    rw [List.getElem?_take] at hj
    split at hj
    · exact ⟨j, by omega, hj⟩
    · cases hj
  · obtain ⟨j, hj⟩ := List.mem_iff_getElem?.1 h
    rw [List.getElem?_drop] at hj
    exact ⟨a + 1 + j, by omega, hj⟩
theorem chain_get {k j : Nat} {c : List Int} (h : (chain k)[j]? = some c) : (j = 0 ∧ c = [1]) ∨ (1 ≤ j ∧ j < k ∧ c = link j) := by
  cases j with
  | zero => simp [chain] at h; exact Or.inl ⟨rfl, h.symm⟩
  | succ j =>
    simp only [chain, List.getElem?_cons_succ, List.getElem?_map] at h
    by_cases hj : j < k - 1
    · rw [List.getElem?_range hj] at h
      simp only [Option.map_some, Option.some.injEq] at h
      exact Or.inr ⟨by omega, by omega, h.symm⟩
    · rw [List.getElem?_eq_none (by simp; omega)] at h; cases h
theorem units2 {k a : Nat} (h2 : 2 ≤ k) (hk : k ≤ 40) (ha : a < k) : follows (without (chain k) a) [(k : Int)] = false := by
  have hp : okRow [(k : Int)] := fun x hx => by rw [List.mem_singleton.1 hx]; unfold inr; omega
  have hl : okGrid (without (chain k) a) := fun c hc => by
    obtain ⟨j, _, h⟩ := without_mem hc
    exact chain_ok hk c (List.mem_of_getElem? h)
  refine not_follows (n := a) hl hp (fun c hc => ?_) ?_
  · obtain ⟨j, hja, h⟩ := without_mem hc
    rcases chain_get h with ⟨rfl, rfl⟩ | ⟨h3, h4, rfl⟩
    · simp [clauseAt, (litAt_upTo (n := a) (x := 1) (by omega) (by omega)).1]; omega
    · simp [clauseAt, link, (litAt_upTo (n := a) (x := (j : Int) + 1) (by omega) (by omega)).1, (litAt_upTo (n := a) (x := (j : Int)) (by omega) (by omega)).2]
      omega
  · simp [clauseAt, (litAt_upTo (n := a) (x := (k : Int)) (by omega) (by omega)).1]; omega
end Rup
end Go.Proofs.Ytpafgieijplehaa
