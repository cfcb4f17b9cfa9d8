/- simp.All: what is simple stays as it is. -/
import Derived.Test.YtekleoccdockhaaDoorSAgain
set_option linter.unusedVariables false
set_option linter.unusedSimpArgs false
namespace Go.Proofs.YtekleoccdockhaaDoor

/-- A simple term: each of its reckonings is the one that comes of itself. -/
inductive Smp (ts : List Term) : Nat → Prop where
  | leaf (n : Nat) : n < ts.length → (ts.getD n default).k ≠ 2 → Smp ts n
  | op (n : Nat) : n < ts.length → (ts.getD n default).k = 2 → next ts (ts.getD n default).op (ts.getD n default).a (ts.getD n default).b = .done ts n → Smp ts (ts.getD n default).a → Smp ts (ts.getD n default).b → Smp ts n
theorem Smp.lt {ts : List Term} {n : Nat} (h : Smp ts n) : n < ts.length := by cases h <;> assumption
theorem Smp.sub {ts : List Term} {n : Nat} (h : Smp ts n) (hk : (ts.getD n default).k = 2) : Smp ts (ts.getD n default).a ∧ Smp ts (ts.getD n default).b := by
  cases h with
  | leaf _ h1 h2 => exact absurd hk h2
  | op _ h1 h2 h3 h4 h5 => exact ⟨h4, h5⟩
theorem Smp.ext {ts ts' : List Term} {n : Nat} (h : Smp ts n) (hG : Good ts) (hE : Ext ts ts') : Smp ts' n := by
  induction h with
  | leaf n h1 h2 => exact .leaf n (Nat.lt_of_lt_of_le h1 hE.len) (by rw [hE.getD h1]; exact h2)
  | op n h1 h2 h3 h4 h5 i4 i5 =>
    refine .op n (Nat.lt_of_lt_of_le h1 hE.len) (by rw [hE.getD h1]; exact h2) ?_ (by rw [hE.getD h1]; exact i4) (by rw [hE.getD h1]; exact i5)
    rw [hE.getD h1, next_again hG h4.lt h5.lt hE (by rw [h3]; exact hE), h3]
    rfl
def Nx.smp : Nx → Prop
  | .done ts n => Smp ts n
  | .go ts _ a b => Smp ts a ∧ Smp ts b
theorem smp_const (ts : List Term) (w : Nat) : Smp (ins ts (constT w)) (pos ts (constT w)) := .leaf _ (pos_lt _ _) (by rw [ins_getD]; simp [constT])
theorem smp_cst {ts : List Term} {w : Nat} : (cst ts w).smp := smp_const ts w
theorem smp_goes {ts : List Term} {op a w : Nat} (hG : Good ts) (h : Smp ts a) : (goesN ts op a w).smp := ⟨h.ext hG (ext_ins _ _), smp_const ts w⟩
theorem smp_byN {ts : List Term} {op a b v : Nat} (hG : Good ts) (ha : Smp ts a) (hb : Smp ts b) : ∀ r, byN ts op a b v = some r → r.smp := by
  intro r hr
  unfold byN at hr
  rcases ite_some hr with ⟨hx, rfl⟩ | ⟨hk, hr⟩
  · exact ha
  rcases ite_some hr with ⟨hx, rfl⟩ | ⟨hk, hr⟩
  · exact smp_cst
  rcases ite_some hr with ⟨hx, rfl⟩ | ⟨hk, hr⟩
  · exact hb
  rcases ite_some hr with ⟨hx, rfl⟩ | ⟨hk, hr⟩
  · exact ha
  rcases ite_some hr with ⟨hx, rfl⟩ | ⟨hk, hr⟩
  · exact smp_goes hG ha
  rcases ite_some hr with ⟨hx, rfl⟩ | ⟨hk, hr⟩
  · exact smp_goes hG ha
  rcases ite_some hr with ⟨hx, rfl⟩ | ⟨hk, hr⟩
  · exact smp_goes hG ha
  rcases ite_some hr with ⟨hx, rfl⟩ | ⟨hk, hr⟩
  · exact smp_goes hG ha
  by_cases c9 : (ts.getD a default).k ≠ 2 ∨ (ts.getD a default).op ≠ op
  · rw [if_pos c9] at hr; cases hr
  rw [if_neg c9] at hr
  have hs := (ha.sub (Classical.byContradiction fun hn => c9 (Or.inl hn))).1
  by_cases c10 : isC ts (ts.getD a default).b = false
  · rw [if_pos c10] at hr; cases hr
  rw [if_neg c10] at hr
  rcases ite_some hr with ⟨hx, rfl⟩ | ⟨hk, hr⟩
  · exact smp_goes hG hs
  by_cases c12 : isShift op = false ∨ wd ts (ts.getD a default).b < 1 ∨ 32 ≤ wd ts (ts.getD a default).b
  · rw [if_pos c12] at hr; cases hr
  rw [if_neg c12] at hr
  rcases ite_some hr with ⟨hx, rfl⟩ | ⟨hk, hr⟩
  · exact smp_goes hG hs
  rcases ite_some hr with ⟨hx, rfl⟩ | ⟨hk, hr⟩
  · exact smp_goes hG hs
  injection hr with hr
  subst hr
  exact smp_cst
theorem smp_twiceN {ts : List Term} {op a : Nat} (hG : Good ts) (ha : Smp ts a) : ∀ r, twiceN ts op a = some r → r.smp := by
  intro r hr
  unfold twiceN at hr
  rcases ite_some hr with ⟨hx, rfl⟩ | ⟨hk, hr⟩
  · exact smp_cst
  rcases ite_some hr with ⟨hx, rfl⟩ | ⟨hk, hr⟩
  · exact ha
  rcases ite_some hr with ⟨hx, rfl⟩ | ⟨hk, hr⟩
  · exact smp_goes hG ha
  cases hr
/-- The step from simple terms. -/
theorem smp_next {ts : List Term} {op a b : Nat} (hG : Good ts) (ho : (doW op 0 0).isSome = true) (ha : Smp ts a) (hb : Smp ts b) : (next ts op a b).smp := by
  have key : next ts op a b = .done (ins ts (opT op a b)) (pos ts (opT op a b)) → (Nx.done (ins ts (opT op a b)) (pos ts (opT op a b))).smp := fun h => by
    have hE : Ext ts (ins ts (opT op a b)) := ext_ins _ _
    have e : (ins ts (opT op a b)).getD (pos ts (opT op a b)) default = opT op a b := ins_getD _ _ _
    refine .op _ (pos_lt _ _) (by rw [e]; rfl) ?_ (by rw [e]; exact ha.ext hG hE) (by rw [e]; exact hb.ext hG hE)
    rw [e]
    show next _ op a b = _
    rw [next_again hG ha.lt hb.lt hE (by rw [h]; exact Ext.refl _), h]
    rfl
  revert key
  unfold next
  by_cases c1 : isC ts a = true ∧ isC ts b = true
  · rw [if_pos c1]; exact fun _ => smp_cst
  rw [if_neg c1]
  by_cases c2 : turns op = true ∧ ((isC ts a = true ∧ isC ts b = false) ∨ (isC ts a = false ∧ isC ts b = false ∧ b < a))
  · rw [if_pos c2]; exact fun _ => ⟨hb, ha⟩
  rw [if_neg c2]
  by_cases c3 : op = 28 ∧ isC ts b = true
  · rw [if_pos c3]; exact fun _ => smp_goes hG ha
  rw [if_neg c3]
  have b1 := smp_byN (op := op) (v := wd ts b) hG ha hb
  have t1 := smp_twiceN (op := op) hG ha
  intro key
  revert key
  split
  · rename_i r hr
    intro _
    split at hr
    · exact b1 _ hr
    · cases hr
  · split
    · rename_i r hr
      intro _
      split at hr
      · exact t1 _ hr
      · cases hr
    · exact fun key => key rfl
theorem madeF_smp : ∀ (f : Nat) (ts : List Term) (op a b : Nat), Good ts → (doW op 0 0).isSome = true → Smp ts a → Smp ts b → mz ts op a b < f → Smp (madeF f ts op a b).1 (madeF f ts op a b).2
  | 0, _, _, _, _, _, _, _, _, h => by omega
  | f + 1, ts, op, a, b, hG, ho, ha, hb, hf => by
    have hn := next_ok hG ho ha.lt hb.lt
    have hs := smp_next hG ho ha hb
    unfold madeF
    revert hn hs
    cases next ts op a b with
    | done ts1 n => exact fun _ hs => hs
    | go ts1 op1 a1 b1 => exact fun hn hs => madeF_smp f ts1 op1 a1 b1 hn.good hn.ok hs.1 hs.2 (by have := hn.less; omega)
theorem made_smp {ts : List Term} {op a b : Nat} (hG : Good ts) (ho : (doW op 0 0).isSome = true) (ha : Smp ts a) (hb : Smp ts b) : Smp (made ts op a b).1 (made ts op a b).2 :=
  madeF_smp (8 * ts.length + 10) ts op a b hG ho ha hb (by have := mz_le (op := op) (b := b) ha.lt; omega)
def DnS (ts : List Term) (dn : Dn) : Prop := ∀ i m, dn i = some m → Smp ts m
theorem DnS.ext {ts ts' : List Term} {dn : Dn} (h : DnS ts dn) (hG : Good ts) (hE : Ext ts ts') : DnS ts' dn := fun i m hi => (h i m hi).ext hG hE
theorem DnS.upd {ts : List Term} {dn : Dn} (h : DnS ts dn) {n m : Nat} (hm : Smp ts m) : DnS ts (updD dn n m) := fun i q hi => by
  unfold updD at hi
  split at hi
  · injection hi with hi; subst hi; exact hm
  · exact h i q hi
theorem allF_smp (ts0 : List Term) (hG0 : Good ts0) : ∀ (f : Nat) (ts : List Term) (dn : Dn) (n : Nat), Good ts → Ext ts0 ts → DnOk ts0 ts dn → DnS ts dn → n < ts0.length → n < f →
    Smp (allF f ts dn n).1 (allF f ts dn n).2.2 ∧ DnS (allF f ts dn n).1 (allF f ts dn n).2.1
  | 0, _, _, _, _, _, _, _, _, h => by omega
  | f + 1, ts, dn, n, hG, hE, hD, hS, hn, hf => by
    have hnl : n < ts.length := Nat.lt_of_lt_of_le hn hE.len
    unfold allF
    cases hd : dn n with
    | some m => exact ⟨hS n m hd, hS⟩
    | none =>
      dsimp only
      by_cases hk : (ts.getD n default).k = 2
      · rw [if_pos hk]
        have e0 : ts.getD n default = ts0.getD n default := hE.getD hn _
        obtain ⟨ho, ha, hb, _⟩ := hG.op_at hnl hk
        rw [e0] at hk ho ha hb ⊢
        obtain ⟨a1, a2, a3, a4, a5⟩ := allF_ok ts0 hG0 f ts dn _ hG hE hD (by omega) (by omega : (ts0.getD n default).a < f)
        obtain ⟨s1, s2⟩ := allF_smp ts0 hG0 f ts dn _ hG hE hD hS (by omega) (by omega : (ts0.getD n default).a < f)
        obtain ⟨b1, b2, b3, b4, b5⟩ := allF_ok ts0 hG0 f _ _ _ a1 (hE.trans a2) a3 (by omega) (by omega : (ts0.getD n default).b < f)
        obtain ⟨s3, s4⟩ := allF_smp ts0 hG0 f _ _ _ a1 (hE.trans a2) a3 s2 (by omega) (by omega : (ts0.getD n default).b < f)
        have s1' := s1.ext a1 b2
        obtain ⟨m1, m2, m3⟩ := made_ok b1 ho s1'.lt s3.lt
        have s5 := made_smp b1 ho s1' s3
        exact ⟨s5, (s4.ext b1 m3).upd s5⟩
      · rw [if_neg hk]
        exact ⟨.leaf n hnl hk, hS.upd (.leaf n hnl hk)⟩
/-- What All makes is simple. -/
theorem allT_smp {ts : List Term} {n : Nat} (hG : Good ts) (hn : n < ts.length) : Smp (allT ts n).1 (allT ts n).2 :=
  (allF_smp ts hG (n + 1) ts dn0 n hG (Ext.refl _) (dn0_ok ts ts) (fun i m h => by cases h) hn (by omega)).1
def DnI (dn : Dn) : Prop := ∀ i m, dn i = some m → m = i
theorem DnI.upd {dn : Dn} (h : DnI dn) (n : Nat) : DnI (updD dn n n) := fun i q hi => by
  unfold updD at hi
  split at hi
  · rename_i e; injection hi with hi; omega
  · exact h i q hi
theorem allF_same {ts : List Term} (hG : Good ts) : ∀ (f : Nat) (dn : Dn) (n : Nat), DnI dn → Smp ts n → n < f → ∃ dn', allF f ts dn n = (ts, dn', n) ∧ DnI dn'
  | 0, _, _, _, _, h => by omega
  | f + 1, dn, n, hI, hS, hf => by
    unfold allF
    cases hd : dn n with
    | some m => rw [hI n m hd]; exact ⟨dn, rfl, hI⟩
    | none =>
      dsimp only
      cases hS with
      | leaf _ h1 h2 => rw [if_neg h2]; exact ⟨_, rfl, hI.upd n⟩
      | op _ h1 h2 h3 h4 h5 =>
        rw [if_pos h2]
        obtain ⟨ho, ha, hb, _⟩ := hG.op_at h1 h2
        obtain ⟨d1, e1, i1⟩ := allF_same hG f dn _ hI h4 (by omega)
        obtain ⟨d2, e2, i2⟩ := allF_same hG f d1 _ i1 h5 (by omega)
        rw [e1]
        dsimp only
        rw [e2]
        dsimp only
        rw [made_next hG ho h4.lt h5.lt, h3]
        simp only [Nx.fin]
        exact ⟨_, rfl, i2.upd n⟩
/-- A simple term stays. -/
theorem allT_same {ts : List Term} {n : Nat} (hG : Good ts) (hS : Smp ts n) : allT ts n = (ts, n) := by
  obtain ⟨d, e, _⟩ := allF_same hG (n + 1) dn0 n (fun i m h => by cases h) hS (by omega)
  unfold allT
  rw [e]
end Go.Proofs.YtekleoccdockhaaDoor
