/- The plain law of the document's Follows and Check: what its code reckons, on lists. -/
import Derived.Test.YtpafgieijplehaaRupA
set_option linter.unusedVariables false
set_option linter.unusedSimpArgs false
namespace Go.Proofs.Ytpafgieijplehaa
namespace Rup
def has (l : List Int) (x : Int) : Bool := l.contains x
def rest (holds : List Int) : List Int → List Int → List Int
  | [], out => out
  | x :: r, out => if !never x && !has holds (neg x) && !has out x then rest holds r (out ++ [x]) else rest holds r out
def rstart : List Int → List Int → Option (List Int)
  | holds, [] => some holds
  | holds, x :: r => if never x then rstart holds r else if has holds x then none else rstart (holds ++ [neg x]) r
def rpass : List (List Int) → List Int → Option (List Int)
  | [], more => some more
  | c :: r, more =>
    match rest more c [] with
    | [] => none
    | [x] => if has more x then rpass r more else rpass r (more ++ [x])
    | _ => rpass r more
def rrounds (l : List (List Int)) : Nat → List Int → Bool
  | 0, _ => false
  | n + 1, holds =>
    match rpass l holds with
    | none => true
    | some more => if more.length = holds.length then false else rrounds l n more
def rcount (l : List (List Int)) (holds : List Int) : Nat := (l.flatten.filter fun x => !has holds x).length
def rfollows (l : List (List Int)) (p : List Int) : Bool :=
  match rstart [] p with
  | none => true
  | some h => rrounds l (l.flatten.length + 1) h

theorem rest_mem (holds : List Int) : ∀ (l out : List Int) (x : Int), x ∈ rest holds l out → x ∈ out ∨ (x ∈ l ∧ never x = false ∧ has holds (neg x) = false)
  | [], out, x, h => Or.inl h
  | y :: r, out, x, h => by
    unfold rest at h
    split at h
    · rename_i hc
      simp only [Bool.and_eq_true, Bool.not_eq_true'] at hc
      rcases rest_mem holds r _ x h with h1 | ⟨h1, h2⟩
      · rcases List.mem_append.1 h1 with h1 | h1
        · exact Or.inl h1
        · rw [List.mem_singleton.1 h1]
          exact Or.inr ⟨List.mem_cons_self .., hc.1.1, hc.1.2⟩
      · exact Or.inr ⟨List.mem_cons_of_mem _ h1, h2⟩
    · rcases rest_mem holds r _ x h with h1 | ⟨h1, h2⟩
      · exact Or.inl h1
      · exact Or.inr ⟨List.mem_cons_of_mem _ h1, h2⟩
theorem rest_length (holds : List Int) : ∀ (l out : List Int), (rest holds l out).length ≤ out.length + l.length
  | [], out => by simp [rest]
  | y :: r, out => by
    unfold rest
    split
    · have := rest_length holds r (out ++ [y]); simp at this ⊢; omega
    · have := rest_length holds r out; simp; omega
theorem rcount_put {l : List (List Int)} {c : List Int} {holds : List Int} {x : Int} (hc : c ∈ l) (hx : x ∈ c) (hn : has holds x = false) : rcount l (holds ++ [x]) < rcount l holds := by
  refine filter_lt (x := x) (fun a ha => ?_) (List.mem_flatten.2 ⟨c, hc, hx⟩) (by rw [hn]; rfl) (by simp [has])
  simp only [has, Bool.not_eq_true', List.contains_eq_mem, decide_eq_false_iff_not, List.mem_append] at ha ⊢
  exact fun h => ha (Or.inl h)
/-- what a pass over clauses adds. -/
theorem rpass_grows {l : List (List Int)} : ∀ (d : List (List Int)) (more m : List Int), (∀ c ∈ d, c ∈ l) → rpass d more = some m → (∃ t, m = more ++ t) ∧ rcount l m + (m.length - more.length) ≤ rcount l more
  | [], more, m, _, h => by
    simp only [rpass, Option.some.injEq] at h
    subst h
    exact ⟨⟨[], by simp⟩, by omega⟩
  | c :: r, more, m, hd, h => by
    have hr : ∀ c ∈ r, c ∈ l := fun c hc => hd c (List.mem_cons_of_mem _ hc)
    unfold rpass at h
    split at h
    · cases h
    · rename_i x hx
      split at h
      · exact rpass_grows r more m hr h
      · rename_i hn
        obtain ⟨⟨t, rfl⟩, h2⟩ := rpass_grows r _ m hr h
        have hmem : x ∈ c := by
          have := rest_mem more c [] x (by rw [hx]; simp)
          rcases this with h3 | ⟨h3, _⟩
          · cases h3
          · exact h3
        have := rcount_put (holds := more) (hd c (List.mem_cons_self ..)) hmem (by simpa using hn)
        refine ⟨⟨[x] ++ t, by simp⟩, ?_⟩
        simp at h2 ⊢
        omega
    · exact rpass_grows r more m hr h
theorem rpass_none {more : List Int} {c : List Int} {d r : List (List Int)} {o : Option (List Int)} (hd : d = c :: r) (h : rpass d more = o) (e : rest more c [] = []) : o = none := by
  subst hd; rw [rpass, e] at h; exact h.symm
theorem rpass_old {more : List Int} {c : List Int} {x : Int} {d r : List (List Int)} {o : Option (List Int)} (hd : d = c :: r) (h : rpass d more = o) (e : rest more c [] = [x]) (hx : has more x = true) : rpass r more = o := by
  subst hd; rw [rpass, e] at h; simpa [hx] using h
theorem rpass_new {l : List (List Int)} {more : List Int} {c : List Int} {x : Int} {d r : List (List Int)} {o : Option (List Int)} (hc : c ∈ l) (hd : d = c :: r) (h : rpass d more = o) (e : rest more c [] = [x]) (hx : has more x = false) :
    rpass r (more ++ [x]) = o ∧ rcount l (more ++ [x]) < rcount l more := by
  subst hd
  rw [rpass, e] at h
  refine ⟨by simpa [hx] using h, rcount_put hc ?_ hx⟩
  rcases rest_mem more c [] x (by rw [e]; simp) with h1 | ⟨h1, _⟩
  · cases h1
  · exact h1
theorem rpass_more {more : List Int} {c : List Int} {x y : Int} {t : List Int} {d r : List (List Int)} {o : Option (List Int)} (hd : d = c :: r) (h : rpass d more = o) (e : rest more c [] = x :: y :: t) : rpass r more = o := by
  subst hd; rw [rpass, e] at h; exact h
theorem rrounds_none {l : List (List Int)} {h : List Int} {n : Nat} {b : Bool} (hn : rcount l h < n) (F : rrounds l n h = b) (e : rpass l h = none) : b = true := by
  obtain ⟨n, rfl⟩ : ∃ m, n = m + 1 := ⟨n - 1, by omega⟩
  simp only [rrounds, e] at F
  exact F.symm
theorem rrounds_same {l : List (List Int)} {h m : List Int} {n : Nat} {b : Bool} (hn : rcount l h < n) (F : rrounds l n h = b) (e : rpass l h = some m) (hl : m.length = h.length) : b = false := by
  obtain ⟨n, rfl⟩ : ∃ m, n = m + 1 := ⟨n - 1, by omega⟩
  simp only [rrounds, e, hl, if_true] at F
  exact F.symm
theorem rrounds_more {l : List (List Int)} {h m : List Int} {n : Nat} {b : Bool} (hn : rcount l h < n) (F : rrounds l n h = b) (e : rpass l h = some m) (hl : ¬ m.length = h.length) : rrounds l (n - 1) m = b ∧ rcount l m < n - 1 ∧ n - 1 < n := by
  obtain ⟨n, rfl⟩ : ∃ m, n = m + 1 := ⟨n - 1, by omega⟩
  simp only [rrounds, e, hl, if_false] at F
  obtain ⟨⟨t, rfl⟩, h2⟩ := rpass_grows (l := l) l h m (fun c hc => hc) e
  refine ⟨F, ?_, by omega⟩
  simp at hl h2
  have : 0 < t.length := List.length_pos_iff.2 hl
  show rcount l (h ++ t) < n
  omega
theorem mem_flat {l : List (List Int)} {c : List Int} (h : c ∈ l) : c.length ≤ l.flatten.length := by
  induction l with
  | nil => cases h
  | cons a l ih =>
    rcases List.mem_cons.1 h with rfl | h
    · simp
    · have := ih h; rw [List.flatten_cons, List.length_append]; omega
theorem rcount_le (l : List (List Int)) (h : List Int) : rcount l h ≤ l.flatten.length := List.length_filter_le ..
end Rup
end Go.Proofs.Ytpafgieijplehaa
