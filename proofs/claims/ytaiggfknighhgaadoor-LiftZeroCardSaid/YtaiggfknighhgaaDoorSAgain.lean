/- simp: a reckoning made simple again is the same; turned round it is the same. -/
import Derived.Test.YtaiggfknighhgaaDoorTDepth
set_option linter.unusedVariables false
set_option linter.unusedSimpArgs false
namespace Go.Proofs.YtaiggfknighhgaaDoor

/-- The same step on more terms. -/
def Nx.again (ts' : List Term) : Nx → Nx
  | .done _ n => .done ts' n
  | .go _ op a b => .go ts' op a b
def Nx.terms : Nx → List Term
  | .done ts _ => ts
  | .go ts _ _ _ => ts
theorem cst_again {ts ts' : List Term} {w : Nat} (h : Ext (cst ts w).terms ts') : cst ts' w = (cst ts w).again ts' := by
  have hm : constT w ∈ ins ts (constT w) := mem_ins _ _
  have hp : pos (ins ts (constT w)) (constT w) = pos ts (constT w) := by
    by_cases hmem : constT w ∈ ts
    · rw [ins_of_mem hmem]
    · rw [pos_new hmem, ins, if_neg hmem]
      unfold pos
      rw [List.findIdx_append]
      have := pos_new hmem
      unfold pos at this
      rw [this, if_neg (by omega)]
      simp
  have h' : Ext (ins ts (constT w)) ts' := h
  show Nx.done (ins ts' (constT w)) (pos ts' (constT w)) = Nx.done ts' (pos ts (constT w))
  rw [ins_of_mem (h'.mem hm), h'.pos hm, hp]
theorem pos_ins (ts : List Term) (t : Term) : pos (ins ts t) t = pos ts t := by
  by_cases hmem : t ∈ ts
  · rw [ins_of_mem hmem]
  · rw [pos_new hmem, ins, if_neg hmem]
    unfold pos
    rw [List.findIdx_append]
    have := pos_new hmem
    unfold pos at this
    rw [this, if_neg (by omega)]
    simp
theorem goes_again {ts ts' : List Term} {op a w : Nat} (h : Ext (goesN ts op a w).terms ts') : goesN ts' op a w = (goesN ts op a w).again ts' := by
  have hm : constT w ∈ ins ts (constT w) := mem_ins _ _
  have h' : Ext (ins ts (constT w)) ts' := h
  show Nx.go (ins ts' (constT w)) op a (pos ts' (constT w)) = Nx.go ts' op a (pos ts (constT w))
  rw [ins_of_mem (h'.mem hm), h'.pos hm, pos_ins]
theorem op_again {ts ts' : List Term} {op a b : Nat} (h : Ext (ins ts (opT op a b)) ts') : Nx.done (ins ts' (opT op a b)) (pos ts' (opT op a b)) = Nx.done ts' (pos ts (opT op a b)) := by
  have hm : opT op a b ∈ ins ts (opT op a b) := mem_ins _ _
  rw [ins_of_mem (h.mem hm), h.pos hm, pos_ins]
theorem byN_again {ts ts' : List Term} {op a b v : Nat} (hG : Good ts) (ha : a < ts.length) (hE : Ext ts ts') :
    (∀ r, byN ts op a b v = some r → Ext r.terms ts' → byN ts' op a b v = some (r.again ts')) ∧ (byN ts op a b v = none → byN ts' op a b v = none) := by
  have e1 : ts'.getD a default = ts.getD a default := hE.getD ha _
  have e2 : (ts.getD a default).k = 2 → isC ts' (ts.getD a default).b = isC ts (ts.getD a default).b ∧ wd ts' (ts.getD a default).b = wd ts (ts.getD a default).b := fun hk => by
    obtain ⟨_, _, hb, _⟩ := hG.op_at ha hk
    exact ⟨hE.isC (by omega), hE.wd (by omega)⟩
  unfold byN
  rw [e1]
  by_cases c1 : (v = 0 ∧ (op = 27 ∨ op = 35 ∨ op = 32)) ∨ (v = 1 ∧ (op = 37 ∨ op = 41 ∨ op = 42)) ∨ (v = 4294967295 ∧ op = 36)
  · rw [if_pos c1, if_pos c1]; exact ⟨fun r hr _ => (by injection hr with hr; subst hr; rfl), fun h => by cases h⟩
  rw [if_neg c1, if_neg c1]
  by_cases c2 : (v = 0 ∧ (op = 36 ∨ op = 37 ∨ op = 31)) ∨ (v = 1 ∧ (op = 43 ∨ op = 44))
  · rw [if_pos c2, if_pos c2]; exact ⟨fun r hr he => (by injection hr with hr; subst hr; rw [cst_again he]), fun h => by cases h⟩
  rw [if_neg c2, if_neg c2]
  by_cases c3 : v = 4294967295 ∧ op = 35
  · rw [if_pos c3, if_pos c3]; exact ⟨fun r hr _ => (by injection hr with hr; subst hr; rfl), fun h => by cases h⟩
  rw [if_neg c3, if_neg c3]
  by_cases c4 : isShift op = true ∧ v % 32 = 0
  · rw [if_pos c4, if_pos c4]; exact ⟨fun r hr _ => (by injection hr with hr; subst hr; rfl), fun h => by cases h⟩
  rw [if_neg c4, if_neg c4]
  by_cases c5 : isShift op = true ∧ 32 ≤ v
  · rw [if_pos c5, if_pos c5]; exact ⟨fun r hr he => (by injection hr with hr; subst hr; rw [goes_again he]), fun h => by cases h⟩
  rw [if_neg c5, if_neg c5]
  by_cases c6 : isPow v = true ∧ op = 37
  · rw [if_pos c6, if_pos c6]; exact ⟨fun r hr he => (by injection hr with hr; subst hr; rw [goes_again he]), fun h => by cases h⟩
  rw [if_neg c6, if_neg c6]
  by_cases c7 : isPow v = true ∧ op = 42
  · rw [if_pos c7, if_pos c7]; exact ⟨fun r hr he => (by injection hr with hr; subst hr; rw [goes_again he]), fun h => by cases h⟩
  rw [if_neg c7, if_neg c7]
  by_cases c8 : isPow v = true ∧ op = 44
  · rw [if_pos c8, if_pos c8]; exact ⟨fun r hr he => (by injection hr with hr; subst hr; rw [goes_again he]), fun h => by cases h⟩
  rw [if_neg c8, if_neg c8]
  by_cases c9 : (ts.getD a default).k ≠ 2 ∨ (ts.getD a default).op ≠ op
  · rw [if_pos c9, if_pos c9]; exact ⟨fun r hr => (by cases hr), fun _ => rfl⟩
  rw [if_neg c9, if_neg c9]
  obtain ⟨e3, e4⟩ := e2 (Classical.byContradiction fun hn => c9 (Or.inl hn))
  rw [e3, e4]
  by_cases c10 : isC ts (ts.getD a default).b = false
  · rw [if_pos c10, if_pos c10]; exact ⟨fun r hr => (by cases hr), fun _ => rfl⟩
  rw [if_neg c10, if_neg c10]
  by_cases c11 : op = 27 ∨ op = 36 ∨ op = 35 ∨ op = 32
  · rw [if_pos c11, if_pos c11]; exact ⟨fun r hr he => (by injection hr with hr; subst hr; rw [goes_again he]), fun h => by cases h⟩
  rw [if_neg c11, if_neg c11]
  by_cases c12 : isShift op = false ∨ wd ts (ts.getD a default).b < 1 ∨ 32 ≤ wd ts (ts.getD a default).b
  · rw [if_pos c12, if_pos c12]; exact ⟨fun r hr => (by cases hr), fun _ => rfl⟩
  rw [if_neg c12, if_neg c12]
  by_cases c13 : wd ts (ts.getD a default).b + v < 32
  · rw [if_pos c13, if_pos c13]; exact ⟨fun r hr he => (by injection hr with hr; subst hr; rw [goes_again he]), fun h => by cases h⟩
  rw [if_neg c13, if_neg c13]
  by_cases c14 : op = 34
  · rw [if_pos c14, if_pos c14]; exact ⟨fun r hr he => (by injection hr with hr; subst hr; rw [goes_again he]), fun h => by cases h⟩
  rw [if_neg c14, if_neg c14]
  exact ⟨fun r hr he => (by injection hr with hr; subst hr; rw [cst_again he]), fun h => by cases h⟩
theorem twiceN_again {ts ts' : List Term} {op a : Nat} (hE : Ext ts ts') :
    (∀ r, twiceN ts op a = some r → Ext r.terms ts' → twiceN ts' op a = some (r.again ts')) ∧ (twiceN ts op a = none → twiceN ts' op a = none) := by
  unfold twiceN
  by_cases c1 : op = 28 ∨ op = 32 ∨ op = 30 ∨ op = 31
  · rw [if_pos c1, if_pos c1]; exact ⟨fun r hr he => (by injection hr with hr; subst hr; rw [cst_again he]), fun h => by cases h⟩
  rw [if_neg c1, if_neg c1]
  by_cases c2 : op = 36 ∨ op = 35
  · rw [if_pos c2, if_pos c2]; exact ⟨fun r hr _ => (by injection hr with hr; subst hr; rfl), fun h => by cases h⟩
  rw [if_neg c2, if_neg c2]
  by_cases c3 : op = 27
  · rw [if_pos c3, if_pos c3]; exact ⟨fun r hr he => (by injection hr with hr; subst hr; rw [goes_again he]), fun h => by cases h⟩
  rw [if_neg c3, if_neg c3]
  exact ⟨fun r hr => (by cases hr), fun _ => rfl⟩
theorem next_again {ts ts' : List Term} {op a b : Nat} (hG : Good ts) (ha : a < ts.length) (hb : b < ts.length) (hE : Ext ts ts') (hT : Ext (next ts op a b).terms ts') : next ts' op a b = (next ts op a b).again ts' := by
  have ea : isC ts' a = isC ts a := hE.isC ha
  have eb : isC ts' b = isC ts b := hE.isC hb
  have wa : wd ts' a = wd ts a := hE.wd ha
  have wb : wd ts' b = wd ts b := hE.wd hb
  revert hT
  unfold next
  rw [ea, eb, wa, wb]
  by_cases c1 : isC ts a = true ∧ isC ts b = true
  · rw [if_pos c1, if_pos c1]; exact fun he => cst_again he
  rw [if_neg c1, if_neg c1]
  by_cases c2 : turns op = true ∧ ((isC ts a = true ∧ isC ts b = false) ∨ (isC ts a = false ∧ isC ts b = false ∧ b < a))
  · rw [if_pos c2, if_pos c2]; exact fun _ => rfl
  rw [if_neg c2, if_neg c2]
  by_cases c3 : op = 28 ∧ isC ts b = true
  · rw [if_pos c3, if_pos c3]; exact fun he => goes_again he
  rw [if_neg c3, if_neg c3]
  obtain ⟨b1, b2⟩ := byN_again (op := op) (b := b) (v := wd ts b) hG ha hE
  obtain ⟨t1, t2⟩ := twiceN_again (op := op) (a := a) hE
  cases hcb : isC ts b with
  | true =>
    rw [if_pos rfl, if_pos rfl]
    cases hn : byN ts op a b (wd ts b) with
    | some r =>
      dsimp only
      intro he
      rw [b1 r hn he]
    | none =>
      rw [b2 hn]
      dsimp only
      by_cases hab : a = b
      · rw [if_pos hab, if_pos hab]
        cases ht : twiceN ts op a with
        | some r =>
          dsimp only
          intro he
          rw [t1 r ht he]
        | none =>
          rw [t2 ht]
          dsimp only
          exact fun he => op_again he
      · rw [if_neg hab, if_neg hab]
        dsimp only
        exact fun he => op_again he
  | false =>
    have hf : ¬ (false = true) := by decide
    rw [if_neg hf, if_neg hf]
    dsimp only
    by_cases hab : a = b
    · rw [if_pos hab, if_pos hab]
      cases ht : twiceN ts op a with
      | some r =>
        dsimp only
        intro he
        rw [t1 r ht he]
      | none =>
        rw [t2 ht]
        dsimp only
        exact fun he => op_again he
    · rw [if_neg hab, if_neg hab]
      dsimp only
      exact fun he => op_again he
theorem madeF_again : ∀ (f : Nat) (ts ts' : List Term) (op a b : Nat), Good ts → Good ts' → (doW op 0 0).isSome = true → a < ts.length → b < ts.length → mz ts op a b < f → Ext (madeF f ts op a b).1 ts' → made ts' op a b = (ts', (madeF f ts op a b).2)
  | 0, _, _, _, _, _, _, _, _, _, _, h, _ => by omega
  | f + 1, ts, ts', op, a, b, hG, hG', ho, ha, hb, hf, hE => by
    have hn := next_ok hG ho ha hb
    revert hE
    unfold madeF
    revert hn
    have hag := fun hE => next_again (ts' := ts') (op := op) hG ha hb hE
    cases hnx : next ts op a b with
    | done ts1 n =>
      intro hn hE
      have hE1 : Ext ts1 ts' := hE
      have hE0 := hn.ext.trans hE1
      rw [made_next hG' ho (Nat.lt_of_lt_of_le ha hE0.len) (Nat.lt_of_lt_of_le hb hE0.len), hag hE0 (by rw [hnx]; exact hE1), hnx]
      simp only [Nx.again, Nx.fin]
    | go ts1 op1 a1 b1 =>
      intro hn hE
      have hE1 : Ext (madeF f ts1 op1 a1 b1).1 ts' := hE
      obtain ⟨_, _, m3, _⟩ := madeF_ok f ts1 op1 a1 b1 hn.good hn.ok hn.ina hn.inb (by have := hn.less; omega)
      have hE2 := m3.trans hE1
      have hE0 := hn.ext.trans hE2
      rw [made_next hG' ho (Nat.lt_of_lt_of_le ha hE0.len) (Nat.lt_of_lt_of_le hb hE0.len), hag hE0 (by rw [hnx]; exact hE2), hnx]
      simp only [Nx.again, Nx.fin]
      exact madeF_again f ts1 ts' op1 a1 b1 hn.good hG' hn.ok hn.ina hn.inb (by have := hn.less; omega) hE1
/-- Made again, of more terms: the same number, no new terms. -/
theorem made_again {ts ts' : List Term} {op a b : Nat} (hG : Good ts) (hG' : Good ts') (ho : (doW op 0 0).isSome = true) (ha : a < ts.length) (hb : b < ts.length) (hE : Ext (made ts op a b).1 ts') : made ts' op a b = (ts', (made ts op a b).2) := by
  have hm := mz_le (op := op) (b := b) ha
  exact madeF_again (8 * ts.length + 10) ts ts' op a b hG hG' ho ha hb (by omega) hE
theorem doW_comm {op : Nat} (ht : turns op = true) (x y : Nat) : doW op x y = doW op y x := by
  have : op = 27 ∨ op = 36 ∨ op = 35 ∨ op = 32 ∨ op = 37 ∨ op = 38 ∨ op = 40 := by simpa [turns] using ht
  rcases this with rfl | rfl | rfl | rfl | rfl | rfl | rfl <;> simp only [doW, Option.some.injEq]
  · rw [Nat.add_comm]
  · exact Nat.and_comm x y
  · exact Nat.or_comm x y
  · exact Nat.xor_comm x y
  · rw [Nat.mul_comm]
  · rw [Int.mul_comm]
  · rw [Nat.mul_comm]
theorem turns_ok {op : Nat} (ht : turns op = true) : (doW op 0 0).isSome = true := by
  have : op = 27 ∨ op = 36 ∨ op = 35 ∨ op = 32 ∨ op = 37 ∨ op = 38 ∨ op = 40 := by simpa [turns] using ht
  rcases this with rfl | rfl | rfl | rfl | rfl | rfl | rfl <;> rfl
/-- Turned round: one of both ways is the other one's next step, or both are one word. -/
theorem next_turn {ts : List Term} {op a b : Nat} (ht : turns op = true) :
    next ts op a b = next ts op b a ∨ next ts op a b = .go ts op b a ∨ next ts op b a = .go ts op a b := by
  by_cases c1 : isC ts a = true ∧ isC ts b = true
  · refine Or.inl ?_
    unfold next
    rw [if_pos c1, if_pos ⟨c1.2, c1.1⟩, doW_comm ht]
  cases ha : isC ts a with
  | true =>
    cases hb : isC ts b with
    | true => exact absurd ⟨ha, hb⟩ c1
    | false =>
      refine Or.inr (Or.inl ?_)
      unfold next
      rw [ha, hb, if_neg (by decide), if_pos ⟨ht, Or.inl ⟨rfl, rfl⟩⟩]
  | false =>
    cases hb : isC ts b with
    | true =>
      refine Or.inr (Or.inr ?_)
      unfold next
      rw [ha, hb, if_neg (by decide), if_pos ⟨ht, Or.inl ⟨rfl, rfl⟩⟩]
    | false =>
      rcases Nat.lt_trichotomy a b with h | h | h
      · refine Or.inr (Or.inr ?_)
        unfold next
        rw [ha, hb, if_neg (by decide), if_pos ⟨ht, Or.inr ⟨rfl, rfl, h⟩⟩]
      · subst h; exact Or.inl rfl
      · refine Or.inr (Or.inl ?_)
        unfold next
        rw [ha, hb, if_neg (by decide), if_pos ⟨ht, Or.inr ⟨rfl, rfl, h⟩⟩]
/-- The number does not hang on which stands first. -/
theorem made_turn {ts : List Term} {op a b : Nat} (hG : Good ts) (ht : turns op = true) (ha : a < ts.length) (hb : b < ts.length) : (made ts op a b).2 = (made (made ts op a b).1 op b a).2 := by
  have ho := turns_ok ht
  obtain ⟨m1, m2, m3⟩ := made_ok hG ho ha hb
  have key : made ts op a b = made ts op b a := by
    rcases next_turn (ts := ts) (a := a) (b := b) ht with h | h | h
    · rw [made_next hG ho ha hb, made_next hG ho hb ha, h]
    · rw [made_next hG ho ha hb, h]; simp only [Nx.fin]
    · rw [made_next hG ho hb ha, h]; simp only [Nx.fin]
  rw [made_again hG m1 ho hb ha (by rw [key]; exact Ext.refl _), key]
end Go.Proofs.YtaiggfknighhgaaDoor
