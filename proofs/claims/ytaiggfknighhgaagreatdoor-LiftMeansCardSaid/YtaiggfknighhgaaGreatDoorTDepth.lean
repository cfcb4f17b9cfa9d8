/- Terms' depth: how many terms a reckoning made simple makes at most. -/
import Derived.Test.YtaiggfknighhgaaGreatDoorSShP
set_option linter.unusedVariables false
set_option linter.unusedSimpArgs false
namespace Go.Proofs.YtaiggfknighhgaaGreatDoor

def dpF : Nat → List Term → Nat → Nat
  | 0, _, _ => 0
  | f + 1, ts, n => if (ts.getD n default).k = 2 then 1 + max (dpF f ts (ts.getD n default).a) (dpF f ts (ts.getD n default).b) else 0
/-- How deep a term is. -/
def dp (ts : List Term) (n : Nat) : Nat := dpF (n + 1) ts n
theorem dpF_fuel : ∀ (f f' : Nat) (ts : List Term) (n : Nat), Good ts → n < ts.length → n < f → n < f' → dpF f ts n = dpF f' ts n
  | 0, _, _, _, _, _, h, _ => by omega
  | _, 0, _, _, _, _, _, h => by omega
  | f + 1, f' + 1, ts, n, hG, hn, hf, hf' => by
    unfold dpF
    by_cases hk : (ts.getD n default).k = 2
    · obtain ⟨_, ha, hb, _⟩ := hG.op_at hn hk
      rw [if_pos hk, if_pos hk, dpF_fuel f f' ts _ hG (by omega) (by omega) (by omega), dpF_fuel f f' ts _ hG (by omega) (by omega) (by omega)]
    · rw [if_neg hk, if_neg hk]
theorem dp_op {ts : List Term} {n : Nat} (hG : Good ts) (hn : n < ts.length) (hk : (ts.getD n default).k = 2) : dp ts n = 1 + max (dp ts (ts.getD n default).a) (dp ts (ts.getD n default).b) := by
  obtain ⟨_, ha, hb, _⟩ := hG.op_at hn hk
  unfold dp
  rw [dpF, if_pos hk, dpF_fuel n ((ts.getD n default).a + 1) ts _ hG (by omega) (by omega) (by omega), dpF_fuel n ((ts.getD n default).b + 1) ts _ hG (by omega) (by omega) (by omega)]
theorem dp_leaf {ts : List Term} {n : Nat} (hk : (ts.getD n default).k ≠ 2) : dp ts n = 0 := by
  unfold dp dpF
  rw [if_neg hk]
theorem dpF_le : ∀ (f : Nat) (ts : List Term) (n : Nat), Good ts → n < ts.length → dpF f ts n ≤ n
  | 0, _, _, _, _ => by unfold dpF; omega
  | f + 1, ts, n, hG, hn => by
    unfold dpF
    split
    · rename_i hk
      obtain ⟨_, ha, hb, _⟩ := hG.op_at hn hk
      have h1 := dpF_le f ts (ts.getD n default).a hG (by omega)
      have h2 := dpF_le f ts (ts.getD n default).b hG (by omega)
      omega
    · omega
theorem dp_le {ts : List Term} {n : Nat} (hG : Good ts) (hn : n < ts.length) : dp ts n ≤ n := dpF_le _ _ _ hG hn
theorem dpF_ext {ts ts' : List Term} (h : Ext ts ts') (hG : Good ts) : ∀ (f n : Nat), n < ts.length → dpF f ts' n = dpF f ts n
  | 0, _, _ => rfl
  | f + 1, n, hn => by
    unfold dpF
    rw [h.getD hn]
    by_cases hk : (ts.getD n default).k = 2
    · obtain ⟨_, ha, hb, _⟩ := hG.op_at hn hk
      rw [if_pos hk, if_pos hk, dpF_ext h hG f _ (by omega), dpF_ext h hG f _ (by omega)]
    · rw [if_neg hk, if_neg hk]
theorem dp_ext {ts ts' : List Term} (h : Ext ts ts') (hG : Good ts) {n : Nat} (hn : n < ts.length) : dp ts' n = dp ts n := dpF_ext h hG _ _ hn
theorem dp_const (ts : List Term) (w : Nat) : dp (ins ts (constT w)) (pos ts (constT w)) = 0 := dp_leaf (by rw [ins_getD]; simp [constT])
theorem dp_isC {ts : List Term} {n : Nat} (h : isC ts n = true) : dp ts n = 0 := dp_leaf (by unfold isC at h; simp only [decide_eq_true_eq] at h; omega)
def dz (ts : List Term) (op a b : Nat) : Nat :=
  if isC ts b = true then (if isC ts a = true then 0 else 8 * dp ts a + 1 + rank op (wd ts b)) else if isC ts a = true ∨ b < a then 8 * max (dp ts a) (dp ts b) + 9 else 8 * max (dp ts a) (dp ts b) + 8
theorem dz_le (ts : List Term) (op a b : Nat) : dz ts op a b ≤ 8 * max (dp ts a) (dp ts b) + 9 := by
  have := rank_le op (wd ts b)
  unfold dz
  repeat' split
  all_goals omega
/-- One step: less far, no deeper. -/
def Nx.dok (ts : List Term) (op a b : Nat) : Nx → Prop
  | .done ts' n => dp ts' n ≤ 1 + max (dp ts a) (dp ts b)
  | .go ts' op' a' b' => dz ts' op' a' b' < dz ts op a b ∧ max (dp ts' a') (dp ts' b') ≤ max (dp ts a) (dp ts b)
theorem dok_goes {ts : List Term} {op a b op' a' w : Nat} (h : Good ts) (ha : a' < ts.length) (hd : dp ts a' ≤ max (dp ts a) (dp ts b))
    (hl : (if isC ts a' = true then 0 else 8 * dp ts a' + 1 + rank op' w) < dz ts op a b) : (goesN ts op' a' w).dok ts op a b := by
  refine ⟨?_, ?_⟩
  · unfold dz
    rw [if_pos (ins_const_isC ts w), (ext_ins ts _).isC ha, ins_const_wd, dp_ext (ext_ins ts _) h ha]
    exact hl
  · rw [dp_ext (ext_ins ts _) h ha, dp_const]
    omega
theorem dok_cst {ts : List Term} {op a b w : Nat} : (cst ts w).dok ts op a b := by
  show dp (ins ts (constT w)) (pos ts (constT w)) ≤ _
  rw [dp_const]; omega
theorem byN_dok {ts : List Term} {op a b : Nat} (h : Good ts) (ha : a < ts.length) (hca : isC ts a = false) (hcb : isC ts b = true) :
    ∀ r, byN ts op a b (wd ts b) = some r → r.dok ts op a b := by
  have hdb := dp_isC hcb
  have hmz : dz ts op a b = 8 * dp ts a + 1 + rank op (wd ts b) := by unfold dz; rw [if_pos hcb, if_neg (by rw [hca]; decide)]
  have hna : ∀ k, (if isC ts a = true then 0 else k) = k := fun k => by rw [if_neg (by rw [hca]; decide)]
  have hmax : dp ts a ≤ max (dp ts a) (dp ts b) := Nat.le_max_left _ _
  generalize wd ts b = v at hmz
  intro r hr
  unfold byN at hr
  rcases ite_some hr with ⟨hx, rfl⟩ | ⟨hk, hr⟩
  · show dp ts a ≤ _; omega
  rcases ite_some hr with ⟨hx, rfl⟩ | ⟨hk, hr⟩
  · exact dok_cst
  rcases ite_some hr with ⟨hx, rfl⟩ | ⟨hk, hr⟩
  · show dp ts b ≤ _; omega
  rcases ite_some hr with ⟨hx, rfl⟩ | ⟨hk, hr⟩
  · show dp ts a ≤ _; omega
  rcases ite_some hr with ⟨hx, rfl⟩ | ⟨hk, hr⟩
  · refine dok_goes h ha hmax ?_
    rw [hna, hmz]
    obtain ⟨h1, h2⟩ := hx
    have : op = 29 ∨ op = 33 ∨ op = 34 := by simpa [isShift] using h1
    have e1 : rank op (v % 32) = 1 := by rcases this with rfl | rfl | rfl <;> simp [rank, isShift] <;> omega
    have e2 : rank op v = 2 := by rcases this with rfl | rfl | rfl <;> simp [rank, isShift] <;> omega
    omega
  rcases ite_some hr with ⟨hx, rfl⟩ | ⟨hk, hr⟩
  · obtain ⟨h1, rfl⟩ := hx
    refine dok_goes h ha hmax ?_
    rw [hna, hmz]
    have e1 : rank 29 (lg v) ≤ 2 := by simp [rank, isShift]; split <;> omega
    have e2 : rank 37 v = 3 := by simp [rank]
    omega
  rcases ite_some hr with ⟨hx, rfl⟩ | ⟨hk, hr⟩
  · obtain ⟨h1, rfl⟩ := hx
    refine dok_goes h ha hmax ?_
    rw [hna, hmz]
    have e1 : rank 33 (lg v) ≤ 2 := by simp [rank, isShift]; split <;> omega
    have e2 : rank 42 v = 3 := by simp [rank]
    omega
  rcases ite_some hr with ⟨hx, rfl⟩ | ⟨hk, hr⟩
  · obtain ⟨h1, rfl⟩ := hx
    refine dok_goes h ha hmax ?_
    rw [hna, hmz]
    have e1 : rank 36 (v - 1) = 2 := by simp [rank]
    have e2 : rank 44 v = 4 := by simp [rank]
    omega
  obtain ⟨hk, hr⟩ := ite_none hr
  have hk2 : (ts.getD a default).k = 2 := Classical.byContradiction fun hn => hk (Or.inl hn)
  obtain ⟨g1, g2, g3, g4⟩ := h.op_at ha hk2
  have hta : (ts.getD a default).a < ts.length := by omega
  have hdp := dp_op h ha hk2
  have hd2 : dp ts (ts.getD a default).a ≤ max (dp ts a) (dp ts b) := by omega
  have hless : ∀ o w, (if isC ts (ts.getD a default).a = true then 0 else 8 * dp ts (ts.getD a default).a + 1 + rank o w) < dz ts op a b := fun o w => by
    have := rank_le o w
    rw [hmz]
    split <;> omega
  obtain ⟨hk, hr⟩ := ite_none hr
  rcases ite_some hr with ⟨hx, rfl⟩ | ⟨hk, hr⟩
  · exact dok_goes h hta hd2 (hless _ _)
  obtain ⟨hk, hr⟩ := ite_none hr
  rcases ite_some hr with ⟨hx, rfl⟩ | ⟨hk, hr⟩
  · exact dok_goes h hta hd2 (hless _ _)
  rcases ite_some hr with ⟨hx, rfl⟩ | ⟨hk, hr⟩
  · exact dok_goes h hta hd2 (hless _ _)
  · injection hr with hr; subst hr; exact dok_cst
theorem dp_new {ts : List Term} {op a b : Nat} (h : Good ts) (ho : (doW op 0 0).isSome = true) (ha : a < ts.length) (hb : b < ts.length) : dp (ins ts (opT op a b)) (pos ts (opT op a b)) = 1 + max (dp ts a) (dp ts b) := by
  have hg := h.op ho ha hb
  have he : (ins ts (opT op a b)).getD (pos ts (opT op a b)) default = opT op a b := ins_getD _ _ _
  rw [dp_op hg (pos_lt _ _) (by rw [he]; rfl), he]
  show 1 + max (dp (ins ts (opT op a b)) a) (dp (ins ts (opT op a b)) b) = _
  rw [dp_ext (ext_ins _ _) h ha, dp_ext (ext_ins _ _) h hb]
theorem next_dok {ts : List Term} {op a b : Nat} (h : Good ts) (ho : (doW op 0 0).isSome = true) (ha : a < ts.length) (hb : b < ts.length) : (next ts op a b).dok ts op a b := by
  unfold next
  split
  · exact dok_cst
  rename_i hn
  split
  · rename_i hx
    refine ⟨?_, by omega⟩
    obtain ⟨_, ⟨h1, h2⟩ | ⟨h1, h2, h3⟩⟩ := hx
    · have e : dz ts op a b = 8 * max (dp ts a) (dp ts b) + 9 := by unfold dz; rw [if_neg (by rw [h2]; decide), if_pos (Or.inl h1)]
      have e2 : dz ts op b a = 8 * dp ts b + 1 + rank op (wd ts a) := by unfold dz; rw [if_pos h1, if_neg (by rw [h2]; decide)]
      have := rank_le op (wd ts a)
      omega
    · have e : dz ts op a b = 8 * max (dp ts a) (dp ts b) + 9 := by unfold dz; rw [if_neg (by rw [h2]; decide), if_pos (Or.inr h3)]
      have e2 : dz ts op b a = 8 * max (dp ts b) (dp ts a) + 8 := by unfold dz; rw [if_neg (by rw [h1]; decide), if_neg (by rw [h2]; simp; omega)]
      omega
  split
  · rename_i hx
    obtain ⟨rfl, hcb⟩ := hx
    have hca : isC ts a = false := by
      cases e : isC ts a with
      | false => rfl
      | true => exact absurd ⟨e, hcb⟩ hn
    refine dok_goes h ha (Nat.le_max_left _ _) ?_
    unfold dz
    rw [if_neg (by rw [hca]; decide), if_pos hcb, if_neg (by rw [hca]; decide)]
    have e1 : ∀ v, rank 27 v = 3 := fun v => by simp [rank]
    have e2 : ∀ v, rank 28 v = 6 := fun v => by simp [rank]
    rw [e1, e2]; omega
  split
  · rename_i r hr
    split at hr
    · rename_i hcb
      have hca : isC ts a = false := by
        cases e : isC ts a with
        | false => rfl
        | true => exact absurd ⟨e, hcb⟩ hn
      exact byN_dok h ha hca hcb r hr
    · cases hr
  · split
    · rename_i r hr
      split at hr
      · rename_i hab
        subst hab
        have hca : isC ts a = false := by
          cases e : isC ts a with
          | false => rfl
          | true => exact absurd ⟨e, e⟩ hn
        unfold twiceN at hr
        rcases ite_some hr with ⟨hx, rfl⟩ | ⟨hk, hr⟩
        · exact dok_cst
        rcases ite_some hr with ⟨hx, rfl⟩ | ⟨hk, hr⟩
        · show dp ts a ≤ _; omega
        rcases ite_some hr with ⟨hx, rfl⟩ | ⟨hk, hr⟩
        · refine dok_goes h ha (Nat.le_max_left _ _) ?_
          unfold dz
          rw [if_neg (by rw [hca]; decide), if_neg (by rw [hca]; decide), if_neg (by rw [hca]; simp)]
          have e1 : rank 29 1 = 1 := by decide
          rw [e1]; omega
        · cases hr
      · cases hr
    · show dp (ins ts (opT op a b)) (pos ts (opT op a b)) ≤ _
      rw [dp_new h ho ha hb]; omega
theorem madeF_dok : ∀ (f : Nat) (ts : List Term) (op a b : Nat), Good ts → (doW op 0 0).isSome = true → a < ts.length → b < ts.length → mz ts op a b < f →
    (madeF f ts op a b).1.length ≤ ts.length + dz ts op a b + 1 ∧ dp (madeF f ts op a b).1 (madeF f ts op a b).2 ≤ 1 + max (dp ts a) (dp ts b)
  | 0, _, _, _, _, _, _, _, _, h => by omega
  | f + 1, ts, op, a, b, h, ho, ha, hb, hf => by
    have hn := next_ok h ho ha hb
    have hd := next_dok h ho ha hb
    unfold madeF
    revert hn hd
    cases next ts op a b with
    | done ts' n => exact fun hn hd => ⟨by have h2 := hn.len; simp only [Nx.fin]; omega, hd⟩
    | go ts' op' a' b' =>
      intro hn hd
      obtain ⟨h1, h2⟩ := madeF_dok f ts' op' a' b' hn.good hn.ok hn.ina hn.inb (by have := hn.less; omega)
      have h3 := hn.len
      obtain ⟨h4, h5⟩ := hd
      exact ⟨by simp only [Nx.fin]; omega, by simp only [Nx.fin]; omega⟩
/-- At most so many terms more; no deeper than a reckoning. -/
theorem made_dp {ts : List Term} {op a b : Nat} (h : Good ts) (ho : (doW op 0 0).isSome = true) (ha : a < ts.length) (hb : b < ts.length) :
    (made ts op a b).1.length ≤ ts.length + 8 * max (dp ts a) (dp ts b) + 10 ∧ dp (made ts op a b).1 (made ts op a b).2 ≤ 1 + max (dp ts a) (dp ts b) := by
  have hm := mz_le (op := op) (b := b) ha
  have := madeF_dok (8 * ts.length + 10) ts op a b h ho ha hb (by omega)
  have h2 := dz_le ts op a b
  exact ⟨by unfold made; omega, this.2⟩

/-- All terms simple from within: what is done already, what becomes of it. -/
abbrev Dn := Nat → Option Nat
def updD (dn : Dn) (n m : Nat) : Dn := fun i => if i = n then some m else dn i
theorem updD_ne {dn : Dn} {n m i : Nat} (h : i ≠ n) : updD dn n m i = dn i := if_neg h
theorem updD_same (dn : Dn) (n m : Nat) : updD dn n m n = some m := if_pos rfl
def allF : Nat → List Term → Dn → Nat → List Term × Dn × Nat
  | 0, ts, dn, _ => (ts, dn, 0)
  | f + 1, ts, dn, n => match dn n with
    | some m => (ts, dn, m)
    | none => if (ts.getD n default).k = 2 then
        let r1 := allF f ts dn (ts.getD n default).a
        let r2 := allF f r1.1 r1.2.1 (ts.getD n default).b
        let r3 := made r2.1 (ts.getD n default).op r1.2.2 r2.2.2
        (r3.1, updD r2.2.1 n r3.2, r3.2)
      else (ts, updD dn n n, n)
/-- What is done already is there, and no deeper than what it was. -/
def DnOk (ts0 ts : List Term) (dn : Dn) : Prop := ∀ i m, dn i = some m → i < ts0.length ∧ m < ts.length ∧ dp ts m ≤ dp ts0 i
theorem DnOk.ext {ts0 ts ts' : List Term} {dn : Dn} (h : DnOk ts0 ts dn) (hG : Good ts) (he : Ext ts ts') : DnOk ts0 ts' dn := fun i m hi => by
  obtain ⟨h1, h2, h3⟩ := h i m hi
  exact ⟨h1, Nat.lt_of_lt_of_le h2 he.len, by rw [dp_ext he hG h2]; exact h3⟩
theorem DnOk.upd {ts0 ts : List Term} {dn : Dn} (h : DnOk ts0 ts dn) {n m : Nat} (hn : n < ts0.length) (hm : m < ts.length) (hd : dp ts m ≤ dp ts0 n) : DnOk ts0 ts (updD dn n m) := fun i q hi => by
  unfold updD at hi
  split at hi
  · rename_i e; subst e; injection hi with hi; subst hi; exact ⟨hn, hm, hd⟩
  · exact h i q hi
structure AllOk (ts0 ts : List Term) (n : Nat) (R : List Term × Dn × Nat) : Prop where
  good : Good R.1
  ext : Ext ts R.1
  dn : DnOk ts0 R.1 R.2.1
  num : R.2.2 < R.1.length
  dpl : Go.Proofs.YtaiggfknighhgaaGreatDoor.dp R.1 R.2.2 ≤ Go.Proofs.YtaiggfknighhgaaGreatDoor.dp ts0 n
theorem allF_ok (ts0 : List Term) (hG0 : Good ts0) : ∀ (f : Nat) (ts : List Term) (dn : Dn) (n : Nat), Good ts → Ext ts0 ts → DnOk ts0 ts dn → n < ts0.length → n < f → AllOk ts0 ts n (allF f ts dn n)
  | 0, _, _, _, _, _, _, _, h => by omega
  | f + 1, ts, dn, n, hG, hE, hD, hn, hf => by
    have hnl : n < ts.length := Nat.lt_of_lt_of_le hn hE.len
    unfold allF
    cases hd : dn n with
    | some m =>
      obtain ⟨_, h2, h3⟩ := hD n m hd
      exact ⟨hG, Ext.refl _, hD, h2, h3⟩
    | none =>
      dsimp only
      by_cases hk : (ts.getD n default).k = 2
      · rw [if_pos hk]
        have e0 : ts.getD n default = ts0.getD n default := hE.getD hn _
        obtain ⟨ho, ha, hb, _⟩ := hG.op_at hnl hk
        rw [e0] at hk ho ha hb ⊢
        have hdp := dp_op hG0 hn hk
        obtain ⟨a1, a2, a3, a4, a5⟩ := allF_ok ts0 hG0 f ts dn _ hG hE hD (by omega) (by omega : (ts0.getD n default).a < f)
        obtain ⟨b1, b2, b3, b4, b5⟩ := allF_ok ts0 hG0 f _ _ _ a1 (hE.trans a2) a3 (by omega) (by omega : (ts0.getD n default).b < f)
        have a4' := Nat.lt_of_lt_of_le a4 b2.len
        obtain ⟨m1, m2, m3⟩ := made_ok b1 ho a4' b4
        obtain ⟨d1, d2⟩ := made_dp b1 ho a4' b4
        rw [dp_ext b2 a1 a4] at d2
        have hd3 := (show _ ≤ dp ts0 n by rw [hdp]; exact Nat.le_trans d2 (by omega) : _ ≤ dp ts0 n)
        exact ⟨m1, (a2.trans b2).trans m3, (b3.ext b1 m3).upd hn m2 hd3, m2, hd3⟩
      · rw [if_neg hk]
        have hd0 : dp ts n ≤ dp ts0 n := by rw [dp_ext hE hG0 hn]; exact Nat.le_refl _
        exact ⟨hG, Ext.refl _, hD.upd hn hnl hd0, hnl, hd0⟩
/-- What is above stays undone. -/
theorem allF_above (ts0 : List Term) (hG0 : Good ts0) : ∀ (f : Nat) (ts : List Term) (dn : Dn) (n : Nat), Good ts → Ext ts0 ts → DnOk ts0 ts dn → n < ts0.length → n < f → ∀ i, n < i → (allF f ts dn n).2.1 i = dn i
  | 0, _, _, _, _, _, _, _, h => by omega
  | f + 1, ts, dn, n, hG, hE, hD, hn, hf => by
    intro i hi
    have hnl : n < ts.length := Nat.lt_of_lt_of_le hn hE.len
    unfold allF
    cases hd : dn n with
    | some m => rfl
    | none =>
      dsimp only
      by_cases hk : (ts.getD n default).k = 2
      · rw [if_pos hk]
        have e0 : ts.getD n default = ts0.getD n default := hE.getD hn _
        obtain ⟨ho, ha, hb, _⟩ := hG.op_at hnl hk
        rw [e0] at hk ho ha hb ⊢
        obtain ⟨a1, a2, a3, a4, a5⟩ := allF_ok ts0 hG0 f ts dn _ hG hE hD (by omega) (by omega : (ts0.getD n default).a < f)
        have h1 := allF_above ts0 hG0 f ts dn (ts0.getD n default).a hG hE hD (by omega) (by omega) i (by omega)
        have h2 := allF_above ts0 hG0 f _ _ (ts0.getD n default).b a1 (hE.trans a2) a3 (by omega) (by omega) i (by omega)
        show updD _ n _ i = dn i
        rw [updD_ne (by omega), h2, h1]
      · rw [if_neg hk]
        show updD dn n n i = dn i
        rw [updD_ne (by omega)]
/-- How many are not done. -/
def cntD (dn : Dn) : Nat → Nat
  | 0 => 0
  | N + 1 => cntD dn N + (if (dn N).isNone = true then 1 else 0)
theorem cntD_upd_above (dn : Dn) (n m : Nat) : ∀ N, N ≤ n → cntD (updD dn n m) N = cntD dn N
  | 0, _ => rfl
  | N + 1, h => by
    unfold cntD
    rw [cntD_upd_above dn n m N (by omega), updD_ne (by omega)]
theorem cntD_upd (dn : Dn) (n m : Nat) (hd : dn n = none) : ∀ N, n < N → cntD (updD dn n m) N + 1 = cntD dn N
  | 0, h => by omega
  | N + 1, h => by
    unfold cntD
    by_cases e : N = n
    · subst e
      rw [cntD_upd_above dn N m N (Nat.le_refl _), updD_same, hd]
      rfl
    · have := cntD_upd dn n m hd N (by omega)
      rw [updD_ne e]
      omega
theorem cntD_le (dn : Dn) : ∀ N, cntD dn N ≤ N
  | 0 => Nat.le_refl _
  | N + 1 => by
    have := cntD_le dn N
    unfold cntD
    split <;> omega
theorem allF_len (ts0 : List Term) (hG0 : Good ts0) (D : Nat) (hDp : ∀ i, i < ts0.length → dp ts0 i ≤ D) : ∀ (f : Nat) (ts : List Term) (dn : Dn) (n : Nat), Good ts → Ext ts0 ts → DnOk ts0 ts dn → n < ts0.length → n < f →
    (allF f ts dn n).1.length + cntD (allF f ts dn n).2.1 ts0.length * (8 * D + 10) ≤ ts.length + cntD dn ts0.length * (8 * D + 10)
  | 0, _, _, _, _, _, _, _, h => by omega
  | f + 1, ts, dn, n, hG, hE, hD, hn, hf => by
    have hnl : n < ts.length := Nat.lt_of_lt_of_le hn hE.len
    unfold allF
    cases hd : dn n with
    | some m => exact Nat.le_refl _
    | none =>
      dsimp only
      by_cases hk : (ts.getD n default).k = 2
      · rw [if_pos hk]
        have e0 : ts.getD n default = ts0.getD n default := hE.getD hn _
        obtain ⟨ho, ha, hb, _⟩ := hG.op_at hnl hk
        rw [e0] at hk ho ha hb ⊢
        obtain ⟨a1, a2, a3, a4, a5⟩ := allF_ok ts0 hG0 f ts dn _ hG hE hD (by omega) (by omega : (ts0.getD n default).a < f)
        obtain ⟨b1, b2, b3, b4, b5⟩ := allF_ok ts0 hG0 f _ _ _ a1 (hE.trans a2) a3 (by omega) (by omega : (ts0.getD n default).b < f)
        have l1 := allF_len ts0 hG0 D hDp f ts dn (ts0.getD n default).a hG hE hD (by omega) (by omega)
        have l2 := allF_len ts0 hG0 D hDp f _ _ (ts0.getD n default).b a1 (hE.trans a2) a3 (by omega) (by omega)
        have u1 := allF_above ts0 hG0 f ts dn (ts0.getD n default).a hG hE hD (by omega) (by omega) n (by omega)
        have u2 := allF_above ts0 hG0 f _ _ (ts0.getD n default).b a1 (hE.trans a2) a3 (by omega) (by omega) n (by omega)
        have a4' := Nat.lt_of_lt_of_le a4 b2.len
        obtain ⟨d1, d2⟩ := made_dp b1 ho a4' b4
        rw [dp_ext b2 a1 a4] at d1
        have hA := hDp (ts0.getD n default).a (by omega)
        have hB := hDp (ts0.getD n default).b (by omega)
        generalize allF f ts dn (ts0.getD n default).a = R1 at *
        generalize allF f R1.1 R1.2.1 (ts0.getD n default).b = R2 at *
        dsimp only at *
        have hcn := cntD_upd R2.2.1 n (made R2.1 (ts0.getD n default).op R1.2.2 R2.2.2).2 (by rw [u2, u1]; exact hd) ts0.length hn
        generalize made R2.1 (ts0.getD n default).op R1.2.2 R2.2.2 = R3 at *
        have hm : (cntD (updD R2.2.1 n R3.2) ts0.length + 1) * (8 * D + 10) = cntD R2.2.1 ts0.length * (8 * D + 10) := by rw [hcn]
        rw [Nat.add_mul] at hm
        omega
      · rw [if_neg hk]
        have hcn := cntD_upd dn n n hd ts0.length hn
        have hm : (cntD (updD dn n n) ts0.length + 1) * (8 * D + 10) = cntD dn ts0.length * (8 * D + 10) := by rw [hcn]
        rw [Nat.add_mul] at hm
        dsimp only
        omega
def dn0 : Dn := fun _ => none
theorem dn0_ok (ts0 ts : List Term) : DnOk ts0 ts dn0 := fun i m h => by cases h
/-- A term, made simple from within: the terms behind it, its number. -/
def allT (ts : List Term) (n : Nat) : Made := ((allF (n + 1) ts dn0 n).1, (allF (n + 1) ts dn0 n).2.2)
theorem allT_ok {ts : List Term} {n : Nat} (hG : Good ts) (hn : n < ts.length) : Good (allT ts n).1 ∧ Ext ts (allT ts n).1 ∧ (allT ts n).2 < (allT ts n).1.length ∧ dp (allT ts n).1 (allT ts n).2 ≤ dp ts n ∧
    (∀ D, (∀ i, i < ts.length → dp ts i ≤ D) → (allT ts n).1.length ≤ ts.length + ts.length * (8 * D + 10)) := by
  obtain ⟨h1, h2, h3, h4, h5⟩ := allF_ok ts hG (n + 1) ts dn0 n hG (Ext.refl _) (dn0_ok ts ts) hn (by omega)
  refine ⟨h1, h2, h4, h5, fun D hD => ?_⟩
  have hl := allF_len ts hG D hD (n + 1) ts dn0 n hG (Ext.refl _) (dn0_ok ts ts) hn (by omega)
  have hc := Nat.mul_le_mul_right (8 * D + 10) (cntD_le dn0 ts.length)
  unfold allT
  dsimp only
  omega
end Go.Proofs.YtaiggfknighhgaaGreatDoor
