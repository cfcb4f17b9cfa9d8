/- Both ways of following by units answer alike: there is a conflict, or there is none. -/
import Derived.Test.YtpafgieijplehaaRefA
set_option linter.unusedVariables false
set_option linter.unusedSimpArgs false
namespace Go.Proofs.Ytpafgieijplehaa
namespace Rup
def inr (x : Int) : Prop := -9223372036854775808 ≤ x ∧ x ≤ 9223372036854775807
theorem neg_inr (x : Int) : inr (neg x) := by unfold neg inr; omega
theorem never_iff (x : Int) : never x = true ↔ x = 0 ∨ x = -9223372036854775808 := by simp [never]
theorem never_no {x : Int} : never x = false ↔ x ≠ 0 ∧ x ≠ -9223372036854775808 := by
  constructor
  · intro h
    exact ⟨fun e => by simp [never, e] at h, fun e => by simp [never, e] at h⟩
  · intro ⟨h1, h2⟩
    cases e : never x
    · rfl
    · rcases (never_iff x).1 e with h | h
      · exact absurd h h1
      · exact absurd h h2
theorem neg_eq {x : Int} (h : inr x) (hn : never x = false) : neg x = -x := by
  have := never_no.1 hn
  unfold neg; unfold inr at h; omega
theorem neg_never {x : Int} (h : inr x) (hn : never x = false) : never (neg x) = false := by
  rw [neg_eq h hn]
  have := never_no.1 hn
  refine never_no.2 ⟨by omega, by unfold inr at h; omega⟩
theorem neg_neg_ {x : Int} (h : inr x) (hn : never x = false) : neg (neg x) = x := by
  rw [neg_eq (neg_inr x) (neg_never h hn), neg_eq h hn]; omega
theorem neg_ne {x : Int} (h : inr x) (hn : never x = false) : neg x ≠ x := by
  rw [neg_eq h hn]; have := never_no.1 hn; omega

inductive Der (l : List (List Int)) (p : List Int) : Int → Prop
  | start {x : Int} : x ∈ p → never x = false → Der l p (neg x)
  | unit {c : List Int} {x : Int} : c ∈ l → x ∈ c → never x = false → (∀ y, y ∈ c → never y = false → y ≠ x → Der l p (neg y)) → Der l p x
def Conflict (l : List (List Int)) (p : List Int) : Prop :=
  (∃ c, c ∈ l ∧ ∀ y, y ∈ c → never y = false → Der l p (neg y)) ∨ ∃ x, inr x ∧ never x = false ∧ Der l p x ∧ Der l p (neg x)

/-- all literals of c are in range. -/
def okRow (c : List Int) : Prop := ∀ x, x ∈ c → inr x
def okGrid (l : List (List Int)) : Prop := ∀ c, c ∈ l → okRow c

theorem Der.ok {l : List (List Int)} {p : List Int} (hl : okGrid l) (hp : okRow p) {x : Int} (h : Der l p x) : inr x ∧ never x = false := by
  cases h with
  | start hx hn => exact ⟨neg_inr _, neg_never (hp _ hx) hn⟩
  | unit hc hx hn _ => exact ⟨hl _ hc _ hx, hn⟩

structure Inv (l : List (List Int)) (p : List Int) (h : Int → Bool) : Prop where
  der : ∀ y, h y = true → Der l p y
  given : ∀ x, x ∈ p → never x = false → h (neg x) = true
  one : ∀ z, inr z → h z = true → h (neg z) = true → False

def Closed (l : List (List Int)) (h : Int → Bool) : Prop :=
  ∀ c, c ∈ l → (¬ ∀ y, y ∈ c → never y = false → h (neg y) = true) ∧ ∀ x, x ∈ c → never x = false → (∀ y, y ∈ c → never y = false → y ≠ x → h (neg y) = true) → h x = true

theorem no_conflict {l : List (List Int)} {p : List Int} {h : Int → Bool} (hI : Inv l p h) (hC : Closed l h) : ¬ Conflict l p := by
  have hd : ∀ x, Der l p x → h x = true := by
    intro x hx
    induction hx with
    | start hx hn => exact hI.given _ hx hn
    | unit hc hx hn _ ih => exact (hC _ hc).2 _ hx hn ih
  rintro (⟨c, hc, hy⟩ | ⟨x, hx, _, h1, h2⟩)
  · exact (hC c hc).1 fun y hy1 hn => hd _ (hy y hy1 hn)
  · exact hI.one x hx (hd _ h1) (hd _ h2)

theorem Inv.add {l : List (List Int)} {p : List Int} {h h' : Int → Bool} (hl : okGrid l) (hp : okRow p) (hI : Inv l p h) {x : Int} (hx : Der l p x) (hn : h (neg x) = false) (he : ∀ y, h' y = true ↔ y = x ∨ h y = true) : Inv l p h' := by
  obtain ⟨xi, xn⟩ := hx.ok hl hp
  refine ⟨fun y hy => ?_, fun y hy hyn => (he _).2 (Or.inr (hI.given y hy hyn)), fun z hz h1 h2 => ?_⟩
  · rcases (he y).1 hy with rfl | hy
    · exact hx
    · exact hI.der y hy
  · rcases (he _).1 h1 with rfl | h1
    · rcases (he _).1 h2 with h2 | h2
      · exact neg_ne xi xn h2
      · rw [hn] at h2; cases h2
    · rcases (he _).1 h2 with h2 | h2
      · have := (hI.der _ h1).ok hl hp
        rw [← h2, neg_neg_ this.1 this.2] at hn
        rw [hn] at h1; cases h1
      · exact hI.one z hz h1 h2

theorem unit_der {l : List (List Int)} {p : List Int} {h : Int → Bool} (hI : Inv l p h) {c : List Int} (hc : c ∈ l) {x : Int} (hx : x ∈ c) (hn : never x = false) (hy : ∀ y, y ∈ c → never y = true ∨ h (neg y) = true ∨ y = x) : Der l p x :=
  .unit hc hx hn fun y hy1 hyn hyx => by
    rcases hy y hy1 with h1 | h1 | h1
    · rw [h1] at hyn; cases hyn
    · exact hI.der _ h1
    · exact absurd h1 hyx

/-! ### the program's -/
theorem state_two (h : Int → Bool) : ∀ (c : List Int) (left : Int), (state h left c).1 = 2 → left = 0 ∧ ∀ y, y ∈ c → never y = true ∨ h (neg y) = true
  | [], left, e => by
    unfold state at e
    by_cases h0 : left = 0
    · exact ⟨h0, by simp⟩
    · simp [h0] at e
  | x :: r, left, e => by
    unfold state at e
    split at e
    · rename_i hc
      obtain ⟨h1, h2⟩ := state_two h r left e
      refine ⟨h1, fun y hy => ?_⟩
      rcases List.mem_cons.1 hy with rfl | hy
      · simpa using hc
      · exact h2 y hy
    · rename_i hc
      split at e
      · cases e
      · split at e
        · obtain ⟨h1, _⟩ := state_two h r x e
          subst h1
          simp [never] at hc
        · cases e
theorem state_one (h : Int → Bool) : ∀ (c : List Int) (left : Int), (state h left c).1 = 1 → (left = 0 ∨ left = (state h left c).2) ∧ ((state h left c).2 = left ∨ ((state h left c).2 ∈ c ∧ never (state h left c).2 = false ∧ h (neg (state h left c).2) = false)) ∧
    ∀ y, y ∈ c → never y = true ∨ h (neg y) = true ∨ y = (state h left c).2
  | [], left, e => by
    unfold state at *
    by_cases h0 : left = 0
    · simp [h0] at e
    · simp [h0]
  | x :: r, left, e => by
    unfold state at *
    split at e
    · rename_i hc
      rw [if_pos hc]
      obtain ⟨h1, h2, h3⟩ := state_one h r left e
      refine ⟨h1, h2.imp id (fun ⟨a, b⟩ => ⟨List.mem_cons_of_mem _ a, b⟩), fun y hy => ?_⟩
      rcases List.mem_cons.1 hy with rfl | hy
      · rcases (Bool.or_eq_true _ _).mp hc with hc | hc
        · exact Or.inl hc
        · exact Or.inr (Or.inl hc)
      · exact h3 y hy
    · rename_i hc
      rw [if_neg hc]
      split at e
      · cases e
      · rename_i hx
        rw [if_neg hx]
        split at e
        · rename_i hlx
          rw [if_pos hlx]
          obtain ⟨h1, h2, h3⟩ := state_one h r x e
          have hc1 : never x = false ∧ h (neg x) = false := by
            simp only [Bool.or_eq_true, not_or, Bool.not_eq_true] at hc; exact hc
          have hx0 : x ≠ 0 := fun e => by simp [never, e] at hc1
          have hxe : x = (state h x r).2 := h1.resolve_left hx0
          refine ⟨?_, Or.inr ?_, fun y hy => ?_⟩
          · rcases (Bool.or_eq_true _ _).mp hlx with h4 | h4
            · exact Or.inl (by simpa using h4)
            · exact Or.inr (by rw [← hxe]; simpa using h4)
          · rw [← hxe]; exact ⟨List.mem_cons_self .., hc1⟩
          · rcases List.mem_cons.1 hy with rfl | hy
            · exact Or.inr (Or.inr hxe)
            · exact h3 y hy
        · cases e
theorem state_loud (h : Int → Bool) (x : Int) (hx : h x = false) : ∀ (c : List Int) (left : Int), (left = 0 ∨ left = x) → (∀ y, y ∈ c → never y = true ∨ h (neg y) = true ∨ y = x) → (state h left c).1 ≠ 0
  | [], left, hl, _ => by
    unfold state
    split <;> simp
  | y :: r, left, hl, hy => by
    have hr : ∀ z, z ∈ r → never z = true ∨ h (neg z) = true ∨ z = x := fun z hz => hy z (List.mem_cons_of_mem _ hz)
    unfold state
    split
    · exact state_loud h x hx r left hl hr
    · rename_i hc
      have hc1 : never y = false ∧ h (neg y) = false := by
        simp only [Bool.or_eq_true, not_or, Bool.not_eq_true] at hc; exact hc
      have hyx : y = x := by
        rcases hy y (List.mem_cons_self ..) with h1 | h1 | h1
        · rw [hc1.1] at h1; cases h1
        · rw [hc1.2] at h1; cases h1
        · exact h1
      subst hyx
      rw [if_neg (by simp [hx])]
      rw [if_pos (by rcases hl with hl | hl <;> simp [hl])]
      exact state_loud h y hx r y (Or.inr rfl) hr
theorem quiet_closed {l : List (List Int)} {h : Int → Bool} (hq : ∀ c, c ∈ l → (state h 0 c).1 = 0) : Closed l h := by
  intro c hc
  constructor
  · intro hy
    have : (state h 0 c).1 ≠ 0 := by
      -- no literal is left: any number that is not held serves
      by_cases hz : ∃ x, h x = false
      · obtain ⟨x, hx⟩ := hz
        exact state_loud h x hx c 0 (Or.inl rfl) fun y hy1 => by
          cases e : never y
          · exact Or.inr (Or.inl (hy y hy1 e))
          · exact Or.inl rfl
      · have hall : ∀ x, h x = true := fun x => by
          cases e : h x
          · exact absurd ⟨x, e⟩ hz
          · rfl
        have : ∀ c : List Int, (state h 0 c).1 = 2 := by
          intro c
          induction c with
          | nil => rfl
          | cons a r ih => simp [state, hall, ih]
        rw [this]; decide
    exact this (hq c hc)
  · intro x hx hn hy
    cases e : h x
    · exact absurd (hq c hc) (state_loud h x e c 0 (Or.inl rfl) fun y hy1 => by
        cases e2 : never y
        · by_cases hyx : y = x
          · exact Or.inr (Or.inr hyx)
          · exact Or.inr (Or.inl (hy y hy1 e2 hyx))
        · exact Or.inl rfl)
    · rfl
theorem pass_zero (h : Int → Bool) : ∀ l : List (List Int), (pass h l).1 = 0 → ∀ c, c ∈ l → (state h 0 c).1 = 0
  | [], _, c, hc => by cases hc
  | a :: r, e, c, hc => by
    unfold pass at e
    split at e
    · rename_i h0
      rcases List.mem_cons.1 hc with rfl | hc
      · exact h0
      · exact pass_zero h r e c hc
    · rename_i h0
      exact absurd e h0
theorem rounds_iff {l : List (List Int)} {p : List Int} (hl : okGrid l) (hp : okRow p) : ∀ (n : Nat) (h : Int → Bool), Inv l p h → count l h < n → (rounds l n h = true ↔ Conflict l p)
  | 0, h, _, hn => by omega
  | n + 1, h, hI, hn => by
    unfold rounds
    by_cases h2 : (pass h l).1 = 2
    · rw [if_pos h2]
      obtain ⟨c, hc, e⟩ := pass_mem h l (by rw [h2]; decide)
      rw [e] at h2
      obtain ⟨_, hy⟩ := state_two h c 0 h2
      refine ⟨fun _ => Or.inl ⟨c, hc, fun y hy1 hyn => ?_⟩, fun _ => rfl⟩
      rcases hy y hy1 with h3 | h3
      · rw [h3] at hyn; cases hyn
      · exact hI.der _ h3
    · rw [if_neg h2]
      by_cases h1 : (pass h l).1 = 1
      · rw [if_pos h1]
        obtain ⟨c, hc, e⟩ := pass_mem h l (by rw [h1]; decide)
        rw [e] at h1 ⊢
        obtain ⟨_, h3, h4⟩ := state_one h c 0 h1
        have h5 := h3.resolve_left (state_left h c 0 h1)
        have hd := unit_der hI hc h5.1 h5.2.1 h4
        refine rounds_iff hl hp n _ (hI.add hl hp hd h5.2.2 fun y => by unfold put; by_cases e : y = (state h 0 c).2 <;> simp [e]) ?_
        have := count_put hc h1
        omega
      · rw [if_neg h1]
        have h0 : (pass h l).1 = 0 := by
          by_cases hz : (pass h l).1 = 0
          · exact hz
          · obtain ⟨c, hc, e⟩ := pass_mem h l hz
            rw [e] at h1 h2 hz
            rcases state_cases h c with h3 | h3 | h3
            · exact absurd h3 hz
            · exact absurd h3 h1
            · exact absurd h3 h2
        have := no_conflict hI (quiet_closed (pass_zero h l h0))
        exact ⟨fun h => (by cases h), fun h => absurd h this⟩
/-- what stands at the begin. -/
structure Pre (l : List (List Int)) (p r : List Int) (h : Int → Bool) : Prop where
  der : ∀ y, h y = true → Der l p y
  given : ∀ x, x ∈ p → never x = false → x ∈ r ∨ h (neg x) = true
  one : ∀ z, inr z → h z = true → h (neg z) = true → False
  sub : ∀ x, x ∈ r → x ∈ p
theorem Pre.skip {l : List (List Int)} {p r : List Int} {h : Int → Bool} {x : Int} (hP : Pre l p (x :: r) h) (hn : never x = true) : Pre l p r h :=
  ⟨hP.der, fun y hy hyn => by
    rcases hP.given y hy hyn with h1 | h1
    · rcases List.mem_cons.1 h1 with rfl | h1
      · rw [hn] at hyn; cases hyn
      · exact Or.inl h1
    · exact Or.inr h1, hP.one, fun y hy => hP.sub y (List.mem_cons_of_mem _ hy)⟩
theorem Pre.step {l : List (List Int)} {p r : List Int} {h h' : Int → Bool} {x : Int} (hl : okGrid l) (hp : okRow p) (hP : Pre l p (x :: r) h) (hn : never x = false) (hx : h x = false) (he : ∀ y, h' y = true ↔ y = neg x ∨ h y = true) : Pre l p r h' := by
  have hxp := hP.sub x (List.mem_cons_self ..)
  have hd : Der l p (neg x) := .start hxp hn
  have hxi := hp x hxp
  refine ⟨fun y hy => ?_, fun y hy hyn => ?_, fun z hz h1 h2 => ?_, fun y hy => hP.sub y (List.mem_cons_of_mem _ hy)⟩
  · rcases (he y).1 hy with rfl | hy
    · exact hd
    · exact hP.der y hy
  · rcases hP.given y hy hyn with h1 | h1
    · rcases List.mem_cons.1 h1 with rfl | h1
      · exact Or.inr ((he _).2 (Or.inl rfl))
      · exact Or.inl h1
    · exact Or.inr ((he _).2 (Or.inr h1))
  · rcases (he _).1 h1 with rfl | h1
    · rcases (he _).1 h2 with h2 | h2
      · exact neg_ne (neg_inr x) (neg_never hxi hn) h2
      · rw [neg_neg_ hxi hn, hx] at h2; cases h2
    · rcases (he _).1 h2 with h2 | h2
      · have h3 := (hP.der _ h1).ok hl hp
        have : z = x := by rw [← neg_neg_ h3.1 h3.2, h2, neg_neg_ hxi hn]
        rw [this, hx] at h1; cases h1
      · exact hP.one z hz h1 h2
theorem Pre.none {l : List (List Int)} {p r : List Int} {h : Int → Bool} {x : Int} (hp : okRow p) (hP : Pre l p (x :: r) h) (hn : never x = false) (hx : h x = true) : Conflict l p :=
  Or.inr ⟨x, hp x (hP.sub x (List.mem_cons_self ..)), hn, hP.der x hx, .start (hP.sub x (List.mem_cons_self ..)) hn⟩
theorem Pre.inv {l : List (List Int)} {p : List Int} {h : Int → Bool} (hP : Pre l p [] h) : Inv l p h :=
  ⟨hP.der, fun x hx hn => (hP.given x hx hn).resolve_left (by simp), hP.one⟩
theorem Pre.first (l : List (List Int)) (p : List Int) : Pre l p p (fun _ => false) := ⟨by simp, fun x hx _ => Or.inl hx, by simp, fun x hx => hx⟩

theorem start_spec {l : List (List Int)} {p : List Int} (hl : okGrid l) (hp : okRow p) : ∀ (r : List Int) (h : Int → Bool), Pre l p r h → match start h r with | none => Conflict l p | some h' => Inv l p h'
  | [], h, hP => hP.inv
  | x :: r, h, hP => by
    unfold start
    by_cases hn : never x = true
    · rw [if_pos hn]; exact start_spec hl hp r h (hP.skip hn)
    · rw [if_neg hn]
      have hn' : never x = false := by simpa using hn
      by_cases hx : h x = true
      · rw [if_pos hx]; exact hP.none hp hn' hx
      · rw [if_neg hx]
        exact start_spec hl hp r _ (hP.step hl hp hn' (by simpa using hx) fun y => by unfold put; by_cases e : y = neg x <;> simp [e])
theorem follows_iff {l : List (List Int)} {p : List Int} (hl : okGrid l) (hp : okRow p) : follows l p = true ↔ Conflict l p := by
  have := start_spec hl hp p _ (Pre.first l p)
  unfold follows
  cases e : start (fun _ => false) p with
  | none => rw [e] at this; exact ⟨fun _ => this, fun _ => rfl⟩
  | some h => rw [e] at this; exact rounds_iff hl hp _ h this (by have := count_le l h; omega)

/-! ### the document's -/
theorem has_snoc (l : List Int) (x y : Int) : has (l ++ [x]) y = true ↔ y = x ∨ has l y = true := by
  unfold has; simp [or_comm]
theorem rstart_spec {l : List (List Int)} {p : List Int} (hl : okGrid l) (hp : okRow p) : ∀ (r holds : List Int), Pre l p r (has holds) → match rstart holds r with | none => Conflict l p | some h' => Inv l p (has h')
  | [], h, hP => hP.inv
  | x :: r, h, hP => by
    unfold rstart
    by_cases hn : never x = true
    · rw [if_pos hn]; exact rstart_spec hl hp r h (hP.skip hn)
    · rw [if_neg hn]
      have hn' : never x = false := by simpa using hn
      by_cases hx : has h x = true
      · rw [if_pos hx]; exact hP.none hp hn' hx
      · rw [if_neg hx]
        exact rstart_spec hl hp r _ (hP.step hl hp hn' (by simpa using hx) fun y => has_snoc h (neg x) y)
theorem rest_grows (more : List Int) : ∀ (c out : List Int) (x : Int), x ∈ out → x ∈ rest more c out
  | [], out, x, h => h
  | y :: r, out, x, h => by
    unfold rest
    split
    · exact rest_grows more r _ x (List.mem_append_left _ h)
    · exact rest_grows more r _ x h
theorem rest_all (more : List Int) : ∀ (c out : List Int) (y : Int), y ∈ c → never y = true ∨ has more (neg y) = true ∨ y ∈ rest more c out
  | x :: r, out, y, hy => by
    unfold rest
    rcases List.mem_cons.1 hy with rfl | hy
    · split
      · exact Or.inr (Or.inr (rest_grows more r _ y (by simp)))
      · rename_i hc
        simp only [Bool.and_eq_true, Bool.not_eq_true', not_and, Bool.not_eq_false] at hc
        cases e : never y
        · cases e2 : has more (neg y)
          · have := hc ⟨e, e2⟩
            exact Or.inr (Or.inr (rest_grows more r _ y (by simpa [has] using this)))
          · exact Or.inr (Or.inl rfl)
        · exact Or.inl rfl
    · split
      · exact rest_all more r _ y hy
      · exact rest_all more r _ y hy
theorem rest_nodup (more : List Int) : ∀ (c out : List Int), out.Nodup → (rest more c out).Nodup
  | [], out, h => h
  | x :: r, out, h => by
    unfold rest
    split
    · rename_i hc
      simp only [Bool.and_eq_true, Bool.not_eq_true'] at hc
      refine rest_nodup more r _ (List.nodup_append.2 ⟨h, by simp, fun a ha b hb => ?_⟩)
      rw [List.mem_singleton.1 hb]
      intro e
      subst e
      have := hc.2
      simp [has, ha] at this
    · exact rest_nodup more r _ h
theorem rpass_spec {l : List (List Int)} {p : List Int} (hl : okGrid l) (hp : okRow p) : ∀ (d : List (List Int)) (more : List Int), (∀ c, c ∈ d → c ∈ l) → Inv l p (has more) →
    match rpass d more with
    | none => Conflict l p
    | some m => Inv l p (has m) ∧ (m = more → Closed d (has more))
  | [], more, _, hI => ⟨hI, fun _ c hc => by cases hc⟩
  | c :: r, more, hd, hI => by
    have hr : ∀ c, c ∈ r → c ∈ l := fun c hc => hd c (List.mem_cons_of_mem _ hc)
    have hc := hd c (List.mem_cons_self ..)
    have hall := rest_all more c []
    have hmem := rest_mem more c []
    have hnd := rest_nodup more c [] List.nodup_nil
    -- a pass that adds nothing: c is closed, and so are the others
    have both : ∀ m, Inv l p (has m) ∧ (m = more → Closed r (has more)) → ((¬ ∀ y, y ∈ c → never y = false → has more (neg y) = true) ∧ ∀ x, x ∈ c → never x = false → (∀ y, y ∈ c → never y = false → y ≠ x → has more (neg y) = true) → has more x = true) →
        Inv l p (has m) ∧ (m = more → Closed (c :: r) (has more)) := fun m ⟨h1, h2⟩ h3 => ⟨h1, fun e c' hc' => by
      rcases List.mem_cons.1 hc' with rfl | hc'
      · exact h3
      · exact h2 e c' hc'⟩
    unfold rpass
    rcases e : rest more c [] with _ | ⟨x, _ | ⟨y, t⟩⟩
    · rw [e] at hall
      refine Or.inl ⟨c, hc, fun y hy hn => ?_⟩
      rcases hall y hy with h1 | h1 | h1
      · rw [h1] at hn; cases hn
      · exact hI.der _ h1
      · cases h1
    · rw [e] at hall hmem
      have hx := (hmem x (by simp)).resolve_left (by simp)
      by_cases hm : has more x = true
      · simp only [hm, if_true]
        have ih := rpass_spec hl hp r more hr hI
        cases e2 : rpass r more with
        | none => rw [e2] at ih; exact ih
        | some m =>
          rw [e2] at ih
          refine both m ih ⟨fun h => ?_, fun y hy hyn hall2 => ?_⟩
          · have := h x hx.1 hx.2.1; rw [hx.2.2] at this; cases this
          · by_cases hxy : x = y
            · rw [← hxy]; exact hm
            · have := hall2 x hx.1 hx.2.1 hxy; rw [hx.2.2] at this; cases this
      · simp only [hm, if_false]
        have hd2 : Der l p x := unit_der hI hc hx.1 hx.2.1 fun y hy => by
          rcases hall y hy with h1 | h1 | h1
          · exact Or.inl h1
          · exact Or.inr (Or.inl h1)
          · exact Or.inr (Or.inr (by simpa using h1))
        have hI2 := hI.add hl hp hd2 hx.2.2 fun y => has_snoc more x y
        have ih := rpass_spec hl hp r _ hr hI2
        cases e2 : rpass r (more ++ [x]) with
        | none => rw [e2] at ih; simpa [e2] using ih
        | some m =>
          rw [e2] at ih
          refine ⟨ih.1, fun h => ?_⟩
          obtain ⟨⟨t, ht⟩, _⟩ := rpass_grows (l := l) r _ m hr e2
          rw [h] at ht
          have := congrArg List.length ht
          simp at this
    · have ih := rpass_spec hl hp r more hr hI
      cases e2 : rpass r more with
      | none => rw [e2] at ih; exact ih
      | some m =>
        rw [e2] at ih
        have hx := (hmem x (by rw [e]; simp)).resolve_left (by simp)
        have hy := (hmem y (by rw [e]; simp)).resolve_left (by simp)
        have hne : x ≠ y := by rw [e] at hnd; intro h; simp [h] at hnd
        refine both m ih ⟨fun h => ?_, fun z hz hzn hall2 => ?_⟩
        · have := h x hx.1 hx.2.1; rw [hx.2.2] at this; cases this
        · by_cases hxz : x = z
          · have := hall2 y hy.1 hy.2.1 (fun e => hne (by rw [hxz, e])); rw [hy.2.2] at this; cases this
          · have := hall2 x hx.1 hx.2.1 hxz; rw [hx.2.2] at this; cases this
theorem rrounds_iff {l : List (List Int)} {p : List Int} (hl : okGrid l) (hp : okRow p) : ∀ (n : Nat) (holds : List Int), Inv l p (has holds) → rcount l holds < n → (rrounds l n holds = true ↔ Conflict l p)
  | 0, h, _, hn => by omega
  | n + 1, h, hI, hn => by
    unfold rrounds
    have := rpass_spec hl hp l h (fun c hc => hc) hI
    cases e : rpass l h with
    | none => rw [e] at this; exact ⟨fun _ => this, fun _ => rfl⟩
    | some m =>
      rw [e] at this
      obtain ⟨⟨t, rfl⟩, h2⟩ := rpass_grows (l := l) l h m (fun c hc => hc) e
      by_cases ht : (h ++ t).length = h.length
      · have ht0 : t = [] := by simpa using ht
        subst ht0
        simp only [List.append_nil, if_true]
        exact ⟨fun h => (by cases h), fun hC => absurd hC (no_conflict hI (this.2 (by simp)))⟩
      · simp only [ht, if_false]
        refine rrounds_iff hl hp n _ this.1 ?_
        simp at ht h2
        have : 0 < t.length := List.length_pos_iff.2 ht
        omega
theorem rfollows_iff {l : List (List Int)} {p : List Int} (hl : okGrid l) (hp : okRow p) : rfollows l p = true ↔ Conflict l p := by
  have := rstart_spec hl hp p [] (by have := Pre.first l p; exact ⟨by simp [has], fun x hx hn => Or.inl hx, by simp [has], this.sub⟩)
  unfold rfollows
  cases e : rstart [] p with
  | none => rw [e] at this; exact ⟨fun _ => this, fun _ => rfl⟩
  | some h => rw [e] at this; exact rrounds_iff hl hp _ h this (by have := rcount_le l h; omega)
theorem Der.mono {l l' : List (List Int)} {p p' : List Int} (hl : ∀ c, c ∈ l → c ∈ l') (hp : ∀ x, x ∈ p → x ∈ p') {x : Int} (h : Der l p x) : Der l' p' x := by
  induction h with
  | start hx hn => exact .start (hp _ hx) hn
  | unit hc hx hn _ ih => exact .unit (hl _ hc) hx hn ih
theorem Conflict.mono {l l' : List (List Int)} {p p' : List Int} (hl : ∀ c, c ∈ l → c ∈ l') (hp : ∀ x, x ∈ p → x ∈ p') (h : Conflict l p) : Conflict l' p' := by
  rcases h with ⟨c, hc, hy⟩ | ⟨x, h1, h2, h3, h4⟩
  · exact Or.inl ⟨c, hl c hc, fun y h1 h2 => (hy y h1 h2).mono hl hp⟩
  · exact Or.inr ⟨x, h1, h2, h3.mono hl hp, h4.mono hl hp⟩
theorem follows_eq {l : List (List Int)} {p : List Int} (hl : okGrid l) (hp : okRow p) : follows l p = rfollows l p := by
  rw [Bool.eq_iff_iff, follows_iff hl hp, rfollows_iff hl hp]
end Rup
end Go.Proofs.Ytpafgieijplehaa
