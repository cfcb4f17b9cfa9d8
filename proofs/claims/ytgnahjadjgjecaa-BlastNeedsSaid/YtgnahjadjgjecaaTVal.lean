/- What terms come to, and which registers they need: plain laws. -/
import Derived.Test.YtgnahjadjgjecaaTPure
set_option linter.unusedVariables false
set_option linter.unusedSimpArgs false
namespace Go.Proofs.Ytgnahjadjgjecaa

/-- What a term comes to, of what those ahead of it do; the registers that it needs. -/
def evT (x : Nat → Nat) (vs : List Nat) (t : Term) : Nat := if t.k = 0 then t.v else if t.k = 1 then x t.v else (doW t.op (vs.getD t.a 0) (vs.getD t.b 0)).getD 0
def vrT (vs : List Nat) (t : Term) : Nat := if t.k = 0 then 0 else if t.k = 1 then 2 ^ t.v else vs.getD t.a 0 ||| vs.getD t.b 0
def upTo (g : List Nat → Term → Nat) : List Term → List Nat → List Nat
  | [], acc => acc
  | t :: ts, acc => upTo g ts (acc ++ [g acc t])
theorem upTo_len (g : List Nat → Term → Nat) : ∀ (ts : List Term) (acc : List Nat), (upTo g ts acc).length = acc.length + ts.length
  | [], acc => by simp [upTo]
  | t :: ts, acc => by
    unfold upTo
    rw [upTo_len g ts]
    simp
    omega
theorem upTo_append (g : List Nat → Term → Nat) : ∀ (ts r : List Term) (acc : List Nat), upTo g (ts ++ r) acc = upTo g r (upTo g ts acc)
  | [], r, acc => rfl
  | t :: ts, r, acc => by
    show upTo g (ts ++ r) (acc ++ [g acc t]) = upTo g r (upTo g ts (acc ++ [g acc t]))
    exact upTo_append g ts r _
theorem upTo_pre (g : List Nat → Term → Nat) : ∀ (ts : List Term) (acc : List Nat), ∃ r, upTo g ts acc = acc ++ r
  | [], acc => ⟨[], by simp [upTo]⟩
  | t :: ts, acc => by
    obtain ⟨r, hr⟩ := upTo_pre g ts (acc ++ [g acc t])
    exact ⟨g acc t :: r, by unfold upTo; rw [hr]; simp⟩
theorem upTo_getD {g : List Nat → Term → Nat} {ts r : List Term} {i : Nat} (hi : i < ts.length) (d : Nat) : (upTo g (ts ++ r) []).getD i d = (upTo g ts []).getD i d := by
  rw [upTo_append]
  obtain ⟨q, hq⟩ := upTo_pre g r (upTo g ts [])
  rw [hq, List.getD_eq_getElem?_getD, List.getD_eq_getElem?_getD, List.getElem?_append_left (by rw [upTo_len]; simpa using hi)]
theorem upTo_snoc (g : List Nat → Term → Nat) (ts : List Term) (t : Term) : upTo g (ts ++ [t]) [] = upTo g ts [] ++ [g (upTo g ts []) t] := by
  rw [upTo_append]; rfl
theorem upTo_last (g : List Nat → Term → Nat) (ts : List Term) (t : Term) (d : Nat) : (upTo g (ts ++ [t]) []).getD ts.length d = g (upTo g ts []) t := by
  rw [upTo_snoc, List.getD_eq_getElem?_getD, List.getElem?_append_right (by rw [upTo_len]; simp), upTo_len]
  simp
def evs (x : Nat → Nat) (ts : List Term) : List Nat := upTo (evT x) ts []
def vrs (ts : List Term) : List Nat := upTo vrT ts []
/-- What term n comes to; the registers that it needs. -/
def ev (ts : List Term) (x : Nat → Nat) (n : Nat) : Nat := (evs x ts).getD n 0
def vr (ts : List Term) (n : Nat) : Nat := (vrs ts).getD n 0
theorem evs_len (x : Nat → Nat) (ts : List Term) : (evs x ts).length = ts.length := by unfold evs; rw [upTo_len]; simp
theorem vrs_len (ts : List Term) : (vrs ts).length = ts.length := by unfold vrs; rw [upTo_len]; simp
theorem takeT_snoc {ts : List Term} {i : Nat} (hi : i < ts.length) : ts.take (i + 1) = ts.take i ++ [ts.getD i default] := by
  rw [List.take_add_one, List.getElem?_eq_getElem hi, List.getD_eq_getElem?_getD, List.getElem?_eq_getElem hi]
  rfl
theorem ev_take {ts : List Term} {x : Nat → Nat} {n i : Nat} (hi : i < n) (hn : n ≤ ts.length) : (evs x (ts.take n)).getD i 0 = ev ts x i := by
  unfold ev evs
  have h1 : ts = ts.take n ++ ts.drop n := (List.take_append_drop n ts).symm
  have h2 : i < (ts.take n).length := by rw [List.length_take]; omega
  rw [← upTo_getD (r := ts.drop n) h2, ← h1]
theorem vr_take {ts : List Term} {n i : Nat} (hi : i < n) (hn : n ≤ ts.length) : (vrs (ts.take n)).getD i 0 = vr ts i := by
  unfold vr vrs
  have h1 : ts = ts.take n ++ ts.drop n := (List.take_append_drop n ts).symm
  have h2 : i < (ts.take n).length := by rw [List.length_take]; omega
  rw [← upTo_getD (r := ts.drop n) h2, ← h1]
theorem ev_ext {a b : List Term} (h : Ext a b) {x : Nat → Nat} {i : Nat} (hi : i < a.length) : ev b x i = ev a x i := by
  obtain ⟨r, rfl⟩ := h
  exact upTo_getD hi 0
theorem vr_ext {a b : List Term} (h : Ext a b) {i : Nat} (hi : i < a.length) : vr b i = vr a i := by
  obtain ⟨r, rfl⟩ := h
  exact upTo_getD hi 0
theorem ev_step {ts : List Term} {x : Nat → Nat} {n : Nat} (hn : n < ts.length) : ev ts x n = evT x (evs x (ts.take n)) (ts.getD n default) := by
  have h0 : (ts.take n).length = n := by rw [List.length_take]; omega
  have h1 := upTo_last (evT x) (ts.take n) (ts.getD n default) 0
  rw [← takeT_snoc hn, h0] at h1
  rw [← ev_take (n := n + 1) (by omega) (by omega)]
  exact h1
theorem vr_step {ts : List Term} {n : Nat} (hn : n < ts.length) : vr ts n = vrT (vrs (ts.take n)) (ts.getD n default) := by
  have h0 : (ts.take n).length = n := by rw [List.length_take]; omega
  have h1 := upTo_last vrT (ts.take n) (ts.getD n default) 0
  rw [← takeT_snoc hn, h0] at h1
  rw [← vr_take (n := n + 1) (by omega) (by omega)]
  exact h1
/-- The three kinds. -/
theorem ev_const {ts : List Term} {x : Nat → Nat} {n v : Nat} (hn : n < ts.length) (h : ts.getD n default = constT v) : ev ts x n = v := by
  rw [ev_step hn, h]; rfl
theorem ev_var {ts : List Term} {x : Nat → Nat} {n r : Nat} (hn : n < ts.length) (h : ts.getD n default = varT r) : ev ts x n = x r := by
  rw [ev_step hn, h]; rfl
theorem ev_op {ts : List Term} {x : Nat → Nat} {n o a b : Nat} (hn : n < ts.length) (h : ts.getD n default = opT o a b) (ha : a < n) (hb : b < n) : ev ts x n = (doW o (ev ts x a) (ev ts x b)).getD 0 := by
  rw [ev_step hn, h]
  show (doW o ((evs x (ts.take n)).getD a 0) ((evs x (ts.take n)).getD b 0)).getD 0 = _
  rw [ev_take ha (by omega), ev_take hb (by omega)]
theorem vr_const {ts : List Term} {n v : Nat} (hn : n < ts.length) (h : ts.getD n default = constT v) : vr ts n = 0 := by
  rw [vr_step hn, h]; rfl
theorem vr_var {ts : List Term} {n r : Nat} (hn : n < ts.length) (h : ts.getD n default = varT r) : vr ts n = 2 ^ r := by
  rw [vr_step hn, h]; rfl
theorem vr_op {ts : List Term} {n o a b : Nat} (hn : n < ts.length) (h : ts.getD n default = opT o a b) (ha : a < n) (hb : b < n) : vr ts n = vr ts a ||| vr ts b := by
  rw [vr_step hn, h]
  show (vrs (ts.take n)).getD a 0 ||| (vrs (ts.take n)).getD b 0 = _
  rw [vr_take ha (by omega), vr_take hb (by omega)]
theorem ev_lt {ts : List Term} (h : Good ts) {x : Nat → Nat} (hx : ∀ r, x r < 4294967296) : ∀ n, n < ts.length → ev ts x n < 4294967296 := by
  intro n
  induction n using Nat.strongRecOn with
  | ind n ih =>
    intro hn
    rcases h.at_ hn default with ⟨v, hv, e⟩ | ⟨r, _, hr, e⟩ | ⟨op, a, b, ho, ha, hb, e⟩
    · rw [ev_const hn e]; exact hv
    · rw [ev_var hn e]; exact hx r
    · rw [ev_op hn e ha hb]
      exact doW_lt ho (ih a ha (by omega)) (ih b hb (by omega))
theorem vr_lt {ts : List Term} (h : Good ts) : ∀ n, n < ts.length → vr ts n < 4294967296 := by
  intro n
  induction n using Nat.strongRecOn with
  | ind n ih =>
    intro hn
    rcases h.at_ hn default with ⟨v, hv, e⟩ | ⟨r, _, hr, e⟩ | ⟨op, a, b, ho, ha, hb, e⟩
    · rw [vr_const hn e]; omega
    · rw [vr_var hn e]
      have := Nat.pow_le_pow_right (n := 2) (by omega) (by omega : r ≤ 31)
      omega
    · rw [vr_op hn e ha hb]
      exact or_lt32 (ih a ha (by omega)) (ih b hb (by omega))
/-- Only the registers that it needs make a difference. -/
theorem ev_regs {ts : List Term} (h : Good ts) {x y : Nat → Nat} : ∀ n, n < ts.length → (∀ r, r < 32 → (vr ts n).testBit r = true → x r = y r) → ev ts x n = ev ts y n := by
  intro n
  induction n using Nat.strongRecOn with
  | ind n ih =>
    intro hn hr
    rcases h.at_ hn default with ⟨v, hv, e⟩ | ⟨r, _, hr2, e⟩ | ⟨op, a, b, ho, ha, hb, e⟩
    · rw [ev_const hn e, ev_const hn e]
    · rw [ev_var hn e, ev_var hn e]
      exact hr r hr2 (by rw [vr_var hn e, Nat.testBit_two_pow_self])
    · rw [ev_op hn e ha hb, ev_op hn e ha hb]
      rw [vr_op hn e ha hb] at hr
      rw [ih a ha (by omega) fun r h1 h2 => hr r h1 (by rw [Nat.testBit_or, h2]; rfl), ih b hb (by omega) fun r h1 h2 => hr r h1 (by rw [Nat.testBit_or, h2]; simp)]
/-- A term and all that it has. -/
inductive Reach (ts : List Term) (n : Nat) : Nat → Prop where
  | self : Reach ts n n
  | left {i : Nat} : Reach ts n i → (ts.getD i default).k = 2 → Reach ts n (ts.getD i default).a
  | right {i : Nat} : Reach ts n i → (ts.getD i default).k = 2 → Reach ts n (ts.getD i default).b
theorem Reach.le {ts : List Term} (h : Good ts) {n i : Nat} (hr : Reach ts n i) (hn : n < ts.length) : i ≤ n := by
  induction hr with
  | self => exact Nat.le_refl _
  | left _ hk ih =>
    have := (h.op_at (by omega) hk).2.1
    omega
  | right _ hk ih =>
    have := (h.op_at (by omega) hk).2.2.1
    omega
theorem Reach.trans {ts : List Term} {n m i : Nat} (h : Reach ts n m) (k : Reach ts m i) : Reach ts n i := by
  induction k with
  | self => exact h
  | left _ hk ih => exact ih.left hk
  | right _ hk ih => exact ih.right hk
/-- The registers needed are those of the terms that it has. -/
theorem vr_reach {ts : List Term} (h : Good ts) : ∀ n, n < ts.length → ∀ r, (vr ts n).testBit r = true ↔ ∃ i, Reach ts n i ∧ ts.getD i default = varT r := by
  intro n
  induction n using Nat.strongRecOn with
  | ind n ih =>
    intro hn r
    rcases h.at_ hn default with ⟨v, hv, e⟩ | ⟨r2, _, hr2, e⟩ | ⟨op, a, b, ho, ha, hb, e⟩
    · rw [vr_const hn e]
      refine ⟨fun hh => by simp at hh, fun ⟨i, hi, ei⟩ => ?_⟩
      have : i = n := by
        clear ei
        induction hi with
        | self => rfl
        | left hp hk ih2 => rw [ih2, e] at hk; cases hk
        | right hp hk ih2 => rw [ih2, e] at hk; cases hk
      subst this
      rw [e] at ei; cases ei
    · rw [vr_var hn e, Nat.testBit_two_pow]
      have hone : ∀ i, Reach ts n i → i = n := fun i hi => by
        induction hi with
        | self => rfl
        | left hp hk ih2 => rw [ih2, e] at hk; cases hk
        | right hp hk ih2 => rw [ih2, e] at hk; cases hk
      constructor
      · intro hh
        have : r2 = r := by simpa using hh
        subst this
        exact ⟨n, .self, e⟩
      · rintro ⟨i, hi, ei⟩
        rw [hone i hi, e] at ei
        injection ei with _ ei
        simp [ei]
    · rw [vr_op hn e ha hb, Nat.testBit_or, Bool.or_eq_true, ih a ha (by omega) r, ih b hb (by omega) r]
      have hk : (ts.getD n default).k = 2 := by rw [e]; rfl
      have la : Reach ts n a := by have := (Reach.self (ts := ts) (n := n)).left hk; rw [e] at this; exact this
      have lb : Reach ts n b := by have := (Reach.self (ts := ts) (n := n)).right hk; rw [e] at this; exact this
      constructor
      · rintro (⟨i, hi, ei⟩ | ⟨i, hi, ei⟩)
        · exact ⟨i, la.trans hi, ei⟩
        · exact ⟨i, lb.trans hi, ei⟩
      · rintro ⟨i, hi, ei⟩
        have key : i = n ∨ Reach ts a i ∨ Reach ts b i := by
          clear ei
          induction hi with
          | self => exact Or.inl rfl
          | left hp hk2 ih2 =>
            rcases ih2 with rfl | h1 | h1
            · rw [e]; exact Or.inr (Or.inl .self)
            · exact Or.inr (Or.inl (h1.left hk2))
            · exact Or.inr (Or.inr (h1.left hk2))
          | right hp hk2 ih2 =>
            rcases ih2 with rfl | h1 | h1
            · rw [e]; exact Or.inr (Or.inr .self)
            · exact Or.inr (Or.inl (h1.right hk2))
            · exact Or.inr (Or.inr (h1.right hk2))
        rcases key with rfl | h1 | h1
        · rw [e] at ei; cases ei
        · exact Or.inl ⟨i, h1, ei⟩
        · exact Or.inr ⟨i, h1, ei⟩
def putS (S : Nat → Bool) (x : Nat) : Nat → Bool := fun y => if y = x then true else S y
theorem putS_same (S : Nat → Bool) (x : Nat) : putS S x x = true := if_pos rfl
theorem putS_of {S : Nat → Bool} {x y : Nat} (h : S y = true) : putS S x y = true := by unfold putS; split <;> first | rfl | exact h
theorem putS_ne {S : Nat → Bool} {x y : Nat} (h : y ≠ x) : putS S x y = S y := if_neg h
/-- Which terms are seen, when those above k were looked at. -/
structure SeenInv (ts : List Term) (n : Nat) (k : Int) (S : Nat → Bool) : Prop where mk_ ::
  top : S n = true
  ok : ∀ i, S i = true → Reach ts n i
  clo : ∀ i, S i = true → k < i → (ts.getD i default).k = 2 → S (ts.getD i default).a = true ∧ S (ts.getD i default).b = true
theorem SeenInv.start {ts : List Term} (h : Good ts) {n : Nat} (hn : n < ts.length) : SeenInv ts n n (putS (fun _ => false) n) :=
  ⟨putS_same _ _, fun i hi => (by
    unfold putS at hi
    split at hi
    · rename_i e; subst e; exact .self
    · cases hi), fun i hi hk => (by
    unfold putS at hi
    split at hi
    · omega
    · cases hi)⟩
theorem SeenInv.skip {ts : List Term} {n k : Nat} {S : Nat → Bool} (h : SeenInv ts n k S) (hk : ¬ (S k = true ∧ (ts.getD k default).k = 2)) : SeenInv ts n ((k : Int) - 1) S :=
  ⟨h.top, h.ok, fun i hi hki h2 => by
    by_cases e : i = k
    · subst e; exact absurd ⟨hi, h2⟩ hk
    · exact h.clo i hi (by omega) h2⟩
theorem SeenInv.put {ts : List Term} (hG : Good ts) {n k a b : Nat} (hn : n < ts.length) {S : Nat → Bool} (h : SeenInv ts n k S) (hS : S k = true) (h2 : (ts.getD k default).k = 2) (ha : (ts.getD k default).a = a) (hb : (ts.getD k default).b = b) : SeenInv ts n ((k : Int) - 1) (putS (putS S a) b) := by
  subst ha hb
  have hr := h.ok k hS
  have hkn := hr.le hG hn
  obtain ⟨_, la, lb, _⟩ := hG.op_at (by omega) h2
  refine ⟨putS_of (putS_of h.top), fun i hi => ?_, fun i hi hki hi2 => ?_⟩
  · by_cases e1 : i = (ts.getD k default).b
    · rw [e1]; exact hr.right h2
    · rw [putS_ne e1] at hi
      by_cases e2 : i = (ts.getD k default).a
      · rw [e2]; exact hr.left h2
      · rw [putS_ne e2] at hi
        exact h.ok i hi
  · by_cases e : i = k
    · subst e
      exact ⟨putS_of (putS_same _ _), putS_same _ _⟩
    · rw [putS_ne (by omega), putS_ne (by omega)] at hi
      obtain ⟨q1, q2⟩ := h.clo i hi (by omega) hi2
      exact ⟨putS_of (putS_of q1), putS_of (putS_of q2)⟩
theorem SeenInv.done {ts : List Term} {n : Nat} {S : Nat → Bool} (h : SeenInv ts n (-1) S) (i : Nat) : S i = true ↔ Reach ts n i := by
  refine ⟨h.ok i, fun hr => ?_⟩
  induction hr with
  | self => exact h.top
  | left _ hk ih => exact (h.clo _ ih (by omega) hk).1
  | right _ hk ih => exact (h.clo _ ih (by omega) hk).2
/-- The numbers of a term, and of all that it has, rising. -/
structure Needs (ts : List Term) (n : Nat) (l : List Nat) : Prop where mk_ ::
  rise : l.Pairwise (· < ·)
  mem : ∀ i, i ∈ l ↔ Reach ts n i
theorem Needs.self {ts : List Term} {n : Nat} {l : List Nat} (h : Needs ts n l) : n ∈ l := (h.mem n).2 .self
theorem Needs.lt {ts : List Term} {n : Nat} {l : List Nat} (h : Needs ts n l) (hG : Good ts) (hn : n < ts.length) {i : Nat} (hi : i ∈ l) : i < ts.length := by
  have := ((h.mem i).1 hi).le hG hn
  omega
theorem Needs.len {ts : List Term} {n : Nat} {l : List Nat} (h : Needs ts n l) (hG : Good ts) (hn : n < ts.length) : l.length ≤ ts.length := by
  have hsub : l ⊆ List.range ts.length := fun i hi => List.mem_range.2 (h.lt hG hn hi)
  have hnd : l.Nodup := h.rise.imp (fun hab => Nat.ne_of_lt hab)
  have := List.Nodup.length_le_of_subset hnd hsub
  simpa using this
/-- A reckoning's parts stand ahead of it. -/
theorem Needs.ahead {ts : List Term} (hG : Good ts) {n : Nat} (hn : n < ts.length) {l : List Nat} (h : Needs ts n l) {j : Nat} (hj : j < l.length) (h2 : (ts.getD (l.getD j 0) default).k = 2) :
    (ts.getD (l.getD j 0) default).a ∈ l.take j ∧ (ts.getD (l.getD j 0) default).b ∈ l.take j := by
  have e : l.getD j 0 = l[j] := by rw [List.getD_eq_getElem?_getD, List.getElem?_eq_getElem hj]; rfl
  have hm : l.getD j 0 ∈ l := by rw [e]; exact List.getElem_mem hj
  have hr := (h.mem _).1 hm
  have hlt := h.lt hG hn hm
  obtain ⟨_, la, lb, _⟩ := hG.op_at hlt h2
  have key : ∀ q, q ∈ l → q < l.getD j 0 → q ∈ l.take j := fun q hq hlt => by
    obtain ⟨m, hm, rfl⟩ := List.mem_iff_getElem.1 hq
    have hmj : m < j := by
      refine Nat.lt_of_not_le fun hle => ?_
      rcases Nat.eq_or_lt_of_le hle with e2 | hlt2
      · subst e2; rw [e] at hlt; omega
      · have := List.pairwise_iff_getElem.1 h.rise j m hj hm hlt2
        rw [e] at hlt; omega
    exact List.mem_take_iff_getElem.2 ⟨m, by omega, rfl⟩
  exact ⟨key _ ((h.mem _).2 (hr.left h2)) la, key _ ((h.mem _).2 (hr.right h2)) lb⟩
/-- The registers of some terms. -/
def orL (ts : List Term) : List Nat → Nat
  | [] => 0
  | i :: l => (if (ts.getD i default).k = 1 then 2 ^ (ts.getD i default).v else 0) ||| orL ts l
theorem orL_test (ts : List Term) (r : Nat) : ∀ l, (orL ts l).testBit r = true ↔ ∃ i, i ∈ l ∧ (ts.getD i default).k = 1 ∧ (ts.getD i default).v = r
  | [] => by simp [orL]
  | i :: l => by
    unfold orL
    rw [Nat.testBit_or, Bool.or_eq_true, orL_test ts r l]
    constructor
    · rintro (h | ⟨j, hj, h⟩)
      · split at h
        · rename_i hk
          rw [Nat.testBit_two_pow, decide_eq_true_eq] at h
          exact ⟨i, List.mem_cons_self, hk, h⟩
        · simp at h
      · exact ⟨j, List.mem_cons_of_mem _ hj, h⟩
    · rintro ⟨j, hj, hk, hv⟩
      rcases List.mem_cons.1 hj with rfl | hj
      · left; rw [if_pos hk, hv, Nat.testBit_two_pow_self]
      · exact Or.inr ⟨j, hj, hk, hv⟩
theorem orL_append (ts : List Term) : ∀ l r, orL ts (l ++ r) = orL ts l ||| orL ts r
  | [], r => by simp [orL]
  | i :: l, r => by
    show _ ||| orL ts (l ++ r) = (_ ||| orL ts l) ||| orL ts r
    rw [orL_append ts l r, Nat.or_assoc]
theorem Needs.vr_eq {ts : List Term} (hG : Good ts) {n : Nat} (hn : n < ts.length) {l : List Nat} (h : Needs ts n l) : orL ts l = vr ts n := by
  refine Nat.eq_of_testBit_eq fun r => ?_
  rw [Bool.eq_iff_iff, orL_test, vr_reach hG n hn r]
  constructor
  · rintro ⟨i, hi, hk, hv⟩
    have hi2 := h.lt hG hn hi
    refine ⟨i, (h.mem i).1 hi, ?_⟩
    rcases hG.at_ hi2 default with ⟨v, _, e⟩ | ⟨q, _, _, e⟩ | ⟨o, a, b, _, _, _, e⟩ <;> rw [e] at hk hv
    · cases hk
    · rw [e]; rw [show q = r from hv]
    · cases hk
  · rintro ⟨i, hi, e⟩
    exact ⟨i, (h.mem i).2 hi, by rw [e]; rfl, by rw [e]; rfl⟩
end Go.Proofs.Ytgnahjadjgjecaa
