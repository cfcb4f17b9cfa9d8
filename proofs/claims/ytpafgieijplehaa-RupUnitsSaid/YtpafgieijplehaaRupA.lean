/- The plain law of rup: what the code reckons, on lists. -/
set_option linter.unusedVariables false
set_option linter.unusedSimpArgs false
namespace Go.Proofs.Ytpafgieijplehaa
namespace Rup
def never (x : Int) : Bool := x == 0 || x == -9223372036854775808
def neg (x : Int) : Int := (-x + 9223372036854775808) % 18446744073709551616 - 9223372036854775808
/-- a clause's state, by what holds. -/
def state (h : Int → Bool) : Int → List Int → Int × Int
  | left, [] => if left = 0 then (2, 0) else (1, left)
  | left, x :: r =>
    if never x || h (neg x) then state h left r
    else if h x then (0, 0)
    else if left = 0 || left == x then state h x r
    else (0, 0)
/-- the first clause that is not quiet. -/
def pass (h : Int → Bool) : List (List Int) → Int × Int
  | [] => (0, 0)
  | c :: r => if (state h 0 c).1 = 0 then pass h r else state h 0 c
def put (h : Int → Bool) (x : Int) : Int → Bool := fun y => if y = x then true else h y
def rounds (l : List (List Int)) : Nat → (Int → Bool) → Bool
  | 0, _ => false
  | n + 1, h =>
    if (pass h l).1 = 2 then true
    else if (pass h l).1 = 1 then rounds l n (put h (pass h l).2)
    else false
def start : (Int → Bool) → List Int → Option (Int → Bool)
  | h, [] => some h
  | h, x :: r => if never x then start h r else if h x then none else start (put h (neg x)) r
def count (l : List (List Int)) (h : Int → Bool) : Nat := (l.flatten.filter fun x => !h x).length
def follows (l : List (List Int)) (p : List Int) : Bool :=
  match start (fun _ => false) p with
  | none => true
  | some h => rounds l (l.flatten.length + 1) h

theorem state_shape (h : Int → Bool) : ∀ (l : List Int) (left : Int), (left ≠ 0 → h left = false) → ((state h left l).1 = 0 ∧ (state h left l).2 = 0) ∨ ((state h left l).1 = 2 ∧ (state h left l).2 = 0) ∨
    ((state h left l).1 = 1 ∧ h (state h left l).2 = false ∧ ((state h left l).2 = left ∨ (state h left l).2 ∈ l))
  | [], left, hl => by
    unfold state
    by_cases e : left = 0
    · simp [e]
    · simp [e, hl e]
  | x :: r, left, hl => by
    unfold state
    split
    · rcases state_shape h r left hl with h1 | h1 | ⟨h1, h2, h3⟩
      · exact Or.inl h1
      · exact Or.inr (Or.inl h1)
      · exact Or.inr (Or.inr ⟨h1, h2, h3.imp id (List.mem_cons_of_mem _)⟩)
    · split
      · exact Or.inl ⟨rfl, rfl⟩
      · rename_i hx
        split
        · rcases state_shape h r x (fun _ => by simpa using hx) with h1 | h1 | ⟨h1, h2, h3⟩
          · exact Or.inl h1
          · exact Or.inr (Or.inl h1)
          · exact Or.inr (Or.inr ⟨h1, h2, Or.inr (h3.elim (fun e => by rw [e]; exact List.mem_cons_self ..) (List.mem_cons_of_mem _))⟩)
        · exact Or.inl ⟨rfl, rfl⟩

theorem state_unit {h : Int → Bool} {l : List Int} (e : (state h 0 l).1 = 1) : h (state h 0 l).2 = false ∧ ((state h 0 l).2 = 0 ∨ (state h 0 l).2 ∈ l) := by
  rcases state_shape h l 0 (fun h => absurd rfl h) with ⟨h1, _⟩ | ⟨h1, _⟩ | ⟨_, h2, h3⟩
  · rw [h1] at e; cases e
  · rw [h1] at e; cases e
  · exact ⟨h2, h3⟩
theorem state_left (h : Int → Bool) : ∀ (l : List Int) (left : Int), (state h left l).1 = 1 → (state h left l).2 ≠ 0
  | [], left, e => by
    unfold state at *
    by_cases h0 : left = 0
    · simp [h0] at e
    · simp [h0]
  | x :: r, left, e => by
    unfold state at *
    split at e
    · rename_i hc; rw [if_pos hc]; exact state_left h r left e
    · rename_i hc; rw [if_neg hc]
      split at e
      · simp at e
      · rename_i h2; rw [if_neg h2]
        split at e
        · rename_i h3; rw [if_pos h3]; exact state_left h r x e
        · simp at e
theorem state_cases (h : Int → Bool) (c : List Int) : (state h 0 c).1 = 0 ∨ (state h 0 c).1 = 1 ∨ (state h 0 c).1 = 2 := by
  rcases state_shape h c 0 (fun h => absurd rfl h) with ⟨h1, _⟩ | ⟨h1, _⟩ | ⟨h1, _⟩ <;> simp [h1]
theorem filter_lt {α : Type} {p q : α → Bool} (hpq : ∀ a, p a = true → q a = true) : ∀ {l : List α} {x : α}, x ∈ l → q x = true → p x = false → (l.filter p).length < (l.filter q).length
  | a :: l, x, hx, hq, hp => by
    have hle : ∀ l : List α, (l.filter p).length ≤ (l.filter q).length := fun l => by
      induction l with
      | nil => simp
      | cons a l ih =>
        by_cases e : p a = true
        · simp [List.filter_cons, e, hpq a e, ih]
        · by_cases e2 : q a = true <;> simp [List.filter_cons, e, e2] <;> omega
    rcases List.mem_cons.1 hx with rfl | hx
    · have := hle l
      simp [List.filter_cons, hq, hp]; omega
    · have := filter_lt hpq hx hq hp
      by_cases e : p a = true
      · simp [List.filter_cons, e, hpq a e]; omega
      · by_cases e2 : q a = true <;> simp [List.filter_cons, e, e2] <;> omega
theorem count_put {l : List (List Int)} {c : List Int} {h : Int → Bool} (hc : c ∈ l) (e : (state h 0 c).1 = 1) : count l (put h (state h 0 c).2) < count l h := by
  obtain ⟨h1, h2⟩ := state_unit e
  have h3 : (state h 0 c).2 ∈ c := h2.resolve_left (state_left h c 0 e)
  refine filter_lt (x := (state h 0 c).2) (fun a ha => ?_) (List.mem_flatten.2 ⟨c, hc, h3⟩) (by simp [h1]) (by simp [put])
  simp only [put] at ha
  split at ha
  · simp at ha
  · exact ha
theorem pass_mem (h : Int → Bool) : ∀ l : List (List Int), (pass h l).1 ≠ 0 → ∃ c ∈ l, pass h l = state h 0 c
  | [], e => absurd rfl e
  | c :: r, e => by
    unfold pass at *
    split
    · rename_i h0
      rw [if_pos h0] at e
      obtain ⟨c', hc, e'⟩ := pass_mem h r e
      exact ⟨c', List.mem_cons_of_mem _ hc, e'⟩
    · exact ⟨c, List.mem_cons_self .., rfl⟩
theorem rounds_against {l : List (List Int)} {h : Int → Bool} {n : Nat} {x : List Int} {d r : List (List Int)} {b : Bool} (hn : count l h < n) (F : rounds l n h = b) (hd : d = x :: r) (hp : pass h d = pass h l) (e : ((state h 0 x).1 == 2) = true) : b = true := by
  obtain ⟨n, rfl⟩ : ∃ m, n = m + 1 := ⟨n - 1, by omega⟩
  subst hd
  have e' : (state h 0 x).1 = 2 := by simpa using e
  simp only [pass, e'] at hp
  rw [if_neg (by decide)] at hp
  simp only [rounds, ← hp, e', if_true] at F
  exact F.symm
theorem rounds_unit {l : List (List Int)} {h : Int → Bool} {n : Nat} {x : List Int} {d r : List (List Int)} {b : Bool} (hn : count l h < n) (F : rounds l n h = b) (hx : x ∈ l) (hd : d = x :: r) (hp : pass h d = pass h l) (e : ((state h 0 x).1 == 1) = true) :
    rounds l (n - 1) (put h (state h 0 x).2) = b ∧ count l (put h (state h 0 x).2) < n - 1 ∧ n - 1 < n := by
  obtain ⟨n, rfl⟩ : ∃ m, n = m + 1 := ⟨n - 1, by omega⟩
  subst hd
  have e' : (state h 0 x).1 = 1 := by simpa using e
  simp only [pass, e'] at hp
  rw [if_neg (by decide)] at hp
  simp only [rounds, ← hp, e'] at F
  rw [if_neg (by decide), if_pos trivial] at F
  refine ⟨F, ?_, by omega⟩
  have := count_put hx e'
  omega
theorem rounds_quiet {l : List (List Int)} {h : Int → Bool} {n : Nat} {b : Bool} (hn : count l h < n) (F : rounds l n h = b) (hp : pass h [] = pass h l) : b = false := by
  obtain ⟨n, rfl⟩ : ∃ m, n = m + 1 := ⟨n - 1, by omega⟩
  simp only [rounds, ← hp, pass] at F
  rw [if_neg (by decide), if_neg (by decide)] at F
  exact F.symm
theorem pass_next {h : Int → Bool} {x : List Int} {d r : List (List Int)} (hd : d = x :: r) (e2 : ((state h 0 x).1 == 2) = false) (e1 : ((state h 0 x).1 == 1) = false) : pass h r = pass h d := by
  subst hd
  rcases state_cases h x with h0 | h0 | h0
  · simp [pass, h0]
  · simp [h0] at e1
  · simp [h0] at e2
theorem count_le (l : List (List Int)) (h : Int → Bool) : count l h ≤ l.flatten.length := List.length_filter_le ..
end Rup
end Go.Proofs.Ytpafgieijplehaa
