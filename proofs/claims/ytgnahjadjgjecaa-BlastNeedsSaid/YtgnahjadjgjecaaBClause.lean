/- Gates: plain functions and laws (blast). -/
/- Clauses of gates: plain laws (blast). -/
import Derived.Test.YtgnahjadjgjecaaTPure
set_option linter.unusedVariables false
set_option linter.unusedSimpArgs false
namespace Go.Proofs.Ytgnahjadjgjecaa

/-- A gate: of a register's bit (0), of both of two literals (1), of just one of them (2). -/
structure Gate where
  kd : Nat
  a : Int
  b : Int
instance : DecidableEq Gate := fun x y =>
  if h : x.kd = y.kd ∧ x.a = y.a ∧ x.b = y.b then isTrue (by obtain ⟨k, a, b⟩ := x; obtain ⟨k', a', b'⟩ := y; simp only at h; obtain ⟨rfl, rfl, rfl⟩ := h; rfl)
  else isFalse (by rintro rfl; exact h ⟨rfl, rfl, rfl⟩)
instance : Inhabited Gate := ⟨⟨0, 0, 0⟩⟩
/-- A gate's number in a list, and the gates behind its making. -/
def gpos (gs : List Gate) (g : Gate) : Nat := gs.findIdx (fun x => decide (x = g))
def gins (gs : List Gate) (g : Gate) : List Gate := if g ∈ gs then gs else gs ++ [g]
theorem gpos_mem {gs : List Gate} {g : Gate} (h : g ∈ gs) : gs[gpos gs g]? = some g := by
  have hlt : gpos gs g < gs.length := List.findIdx_lt_length_of_exists ⟨g, h, by simp⟩
  have := List.findIdx_getElem (w := hlt) (xs := gs) (p := fun x => decide (x = g))
  simp only [decide_eq_true_eq] at this
  rw [List.getElem?_eq_getElem hlt]
  exact congrArg some this
theorem gpos_new {gs : List Gate} {g : Gate} (h : g ∉ gs) : gpos gs g = gs.length := by
  rw [gpos, List.findIdx_eq_length]
  intro x hx
  simp only [decide_eq_false_iff_not]
  rintro rfl
  exact h hx
theorem gins_pos (gs : List Gate) (g : Gate) : (gins gs g)[gpos gs g]? = some g := by
  unfold gins
  split
  · rename_i h; exact gpos_mem h
  · rename_i h; rw [gpos_new h]; simp
theorem gins_len (gs : List Gate) (g : Gate) : gs.length ≤ (gins gs g).length ∧ (gins gs g).length ≤ gs.length + 1 := by
  unfold gins
  split <;> simp
theorem gins_mem (gs : List Gate) (g : Gate) : g ∈ gins gs g := List.mem_of_getElem? (gins_pos gs g)
def GExt (gs hs : List Gate) : Prop := ∃ r, hs = gs ++ r
theorem GExt.refl (gs : List Gate) : GExt gs gs := ⟨[], by simp⟩
theorem GExt.trans {a b c : List Gate} (h : GExt a b) (k : GExt b c) : GExt a c := by
  obtain ⟨r, rfl⟩ := h
  obtain ⟨s, rfl⟩ := k
  exact ⟨r ++ s, by simp⟩
theorem GExt.len {a b : List Gate} (h : GExt a b) : a.length ≤ b.length := by obtain ⟨r, rfl⟩ := h; simp
theorem GExt.mem {a b : List Gate} (h : GExt a b) {g : Gate} (hg : g ∈ a) : g ∈ b := by obtain ⟨r, rfl⟩ := h; simp [hg]
theorem gext_ins (gs : List Gate) (g : Gate) : GExt gs (gins gs g) := by
  unfold gins
  split
  · exact GExt.refl _
  · exact ⟨[g], rfl⟩
/-- Is a literal so, of the variables' values? -/
def so (vs : List Bool) (l : Int) : Bool := if l < 0 then !(vs.getD (l.natAbs - 1) false) else vs.getD (l.natAbs - 1) false
/-- A literal of the first n variables. -/
def Lit (n : Nat) (l : Int) : Prop := 1 ≤ l.natAbs ∧ l.natAbs ≤ n
theorem Lit.mono {n m : Nat} {l : Int} (h : Lit n l) (hm : n ≤ m) : Lit m l := ⟨h.1, Nat.le_trans h.2 hm⟩
theorem Lit.neg {n : Nat} {l : Int} (h : Lit n l) : Lit n (-l) := by
  unfold Lit at *
  rw [Int.natAbs_neg]
  exact h
theorem Lit.ne {n : Nat} {l : Int} (h : Lit n l) : l ≠ 0 := by rintro rfl; have := h.1; simp at this
theorem so_neg {n : Nat} {vs : List Bool} {l : Int} (h : Lit n l) : so vs (-l) = !so vs l := by
  have hn := h.ne
  unfold so
  rw [Int.natAbs_neg]
  by_cases h0 : l < 0
  · rw [if_neg (by omega), if_pos h0, Bool.not_not]
  · rw [if_pos (by omega), if_neg h0]
theorem so_append {n : Nat} {vs r : List Bool} {l : Int} (h : Lit n l) (hn : n ≤ vs.length) : so (vs ++ r) l = so vs l := by
  have h1 : l.natAbs - 1 < vs.length := by have := h.1; have := h.2; omega
  have : (vs ++ r).getD (l.natAbs - 1) false = vs.getD (l.natAbs - 1) false := by simp [List.getD, List.getElem?_append_left h1]
  unfold so
  rw [this]
/-- A gate's value. -/
def gv (x : Nat → Nat) (vs : List Bool) (g : Gate) : Bool := if g.kd = 0 then (x g.a.toNat).testBit g.b.toNat else if g.kd = 1 then so vs g.a && so vs g.b else so vs g.a != so vs g.b
/-- The variables' values. -/
def vals (x : Nat → Nat) (gs : List Gate) : List Bool := gs.foldl (fun vs g => vs ++ [gv x vs g]) [true]
theorem vals_snoc (x : Nat → Nat) (gs : List Gate) (g : Gate) : vals x (gs ++ [g]) = vals x gs ++ [gv x (vals x gs) g] := by
  unfold vals
  rw [List.foldl_append]
  rfl
theorem snoc_cases {α : Type} (P : List α → Prop) (h0 : P []) (h1 : ∀ l a, P l → P (l ++ [a])) (l : List α) : P l := by
  have : ∀ n l, l.length = n → P l := by
    intro n
    induction n with
    | zero => intro l hl; rw [List.length_eq_zero_iff.1 hl]; exact h0
    | succ n ih =>
      intro l hl
      have hne : l ≠ [] := by rintro rfl; simp at hl
      rw [← List.dropLast_concat_getLast hne]
      exact h1 _ _ (ih _ (by simp [hl]))
  exact this _ l rfl
theorem vals_len (x : Nat → Nat) (gs : List Gate) : (vals x gs).length = gs.length + 1 := by
  refine snoc_cases (fun gs => (vals x gs).length = gs.length + 1) rfl (fun l a h => ?_) gs
  show (vals x (l ++ [a])).length = _
  rw [vals_snoc]
  simp [h]
theorem vals_append (x : Nat → Nat) (gs r : List Gate) : ∃ q, vals x (gs ++ r) = vals x gs ++ q := by
  refine snoc_cases (fun r => ∃ q, vals x (gs ++ r) = vals x gs ++ q) ⟨[], by simp⟩ (fun l a h => ?_) r
  obtain ⟨q, h⟩ := h
  refine ⟨q ++ [gv x (vals x (gs ++ l)) a], ?_⟩
  rw [← List.append_assoc, vals_snoc, h, List.append_assoc]
/-- A literal's value. -/
def lv (x : Nat → Nat) (gs : List Gate) (l : Int) : Bool := so (vals x gs) l
theorem lv_ext {x : Nat → Nat} {gs hs : List Gate} (h : GExt gs hs) {l : Int} (hl : Lit (gs.length + 1) l) : lv x hs l = lv x gs l := by
  obtain ⟨r, rfl⟩ := h
  obtain ⟨q, hq⟩ := vals_append x gs r
  unfold lv
  rw [hq]
  exact so_append hl (by rw [vals_len]; exact Nat.le_refl _)
theorem lv_neg {x : Nat → Nat} {gs : List Gate} {l : Int} (hl : Lit (gs.length + 1) l) : lv x gs (-l) = !lv x gs l := so_neg hl
theorem lv_one (x : Nat → Nat) (gs : List Gate) : lv x gs 1 = true := by
  rw [show lv x gs 1 = lv x [] 1 from lv_ext ⟨gs, by simp⟩ (by unfold Lit; decide)]
  rfl
theorem lit_one (n : Nat) : Lit (n + 1) 1 := ⟨by decide, by simp⟩
theorem lit_mone (n : Nat) : Lit (n + 1) (-1) := ⟨by decide, by simp⟩
theorem lv_mone (x : Nat → Nat) (gs : List Gate) : lv x gs (-1) = false := by rw [lv_neg (lit_one _), lv_one]; rfl
/-- A gate may stand at place i. -/
def GateOk (i : Nat) (g : Gate) : Prop := (g.kd = 0 ∧ 0 ≤ g.a ∧ g.a < 32 ∧ 0 ≤ g.b ∧ g.b < 32) ∨ ((g.kd = 1 ∨ g.kd = 2) ∧ Lit (i + 1) g.a ∧ Lit (i + 1) g.b)
theorem GateOk.mono {i j : Nat} {g : Gate} (h : GateOk i g) (hj : i ≤ j) : GateOk j g := by
  rcases h with h | ⟨h1, h2, h3⟩
  · exact Or.inl h
  · exact Or.inr ⟨h1, h2.mono (by omega), h3.mono (by omega)⟩
structure GGood (gs : List Gate) : Prop where mk_ ::
  all : ∀ (i : Nat) (g : Gate), gs[i]? = some g → GateOk i g
  nodup : gs.Nodup
theorem GGood.nil : GGood [] := ⟨fun i g h => by simp at h, by simp⟩
theorem GGood.ins {gs : List Gate} (h : GGood gs) {g : Gate} (hg : GateOk gs.length g) : GGood (gins gs g) := by
  unfold gins
  split
  · exact h
  · rename_i hn
    refine ⟨fun i t ht => ?_, List.nodup_append.2 ⟨h.nodup, by simp, ?_⟩⟩
    · rw [List.getElem?_append] at ht
      split at ht
      · exact h.all i t ht
      · rename_i hi
        have : i - gs.length = 0 := by
          have := (List.getElem?_eq_some_iff.1 ht).1
          simp at this
          omega
        rw [this] at ht
        simp at ht
        subst ht
        exact hg.mono (by omega)
    · intro a ha b hb
      rw [List.mem_singleton.1 hb]
      rintro rfl
      exact hn ha
/-- The variable of a gate. -/
def gvar (gs : List Gate) (g : Gate) : Int := (gpos gs g : Int) + 2
theorem gvar_lit (gs : List Gate) (g : Gate) : Lit ((gins gs g).length + 1) (gvar gs g) := by
  have := (List.getElem?_eq_some_iff.1 (gins_pos gs g)).1
  unfold gvar Lit
  omega
theorem lv_at {x : Nat → Nat} {gs : List Gate} {i : Nat} {g : Gate} (h : gs[i]? = some g) : lv x gs ((i : Int) + 2) = gv x (vals x (gs.take i)) g := by
  have hi := (List.getElem?_eq_some_iff.1 h).1
  have hs : gs = gs.take i ++ [g] ++ gs.drop (i + 1) := by
    rw [List.append_assoc]
    have : gs.drop i = [g] ++ gs.drop (i + 1) := by
      rw [List.drop_eq_getElem_cons hi]
      have := (List.getElem?_eq_some_iff.1 h).2
      rw [this]
      rfl
    rw [← this, List.take_append_drop]
  have hl : (gs.take i).length = i := by rw [List.length_take]; omega
  have hlit : Lit ((gs.take i ++ [g]).length + 1) ((i : Int) + 2) := by
    unfold Lit
    simp [hl]
    omega
  have e : lv x gs ((i : Int) + 2) = lv x (gs.take i ++ [g]) ((i : Int) + 2) := by
    conv => lhs; rw [hs]
    exact lv_ext ⟨gs.drop (i + 1), rfl⟩ hlit
  rw [e]
  unfold lv
  rw [vals_snoc]
  unfold so
  rw [if_neg (by omega), show ((i : Int) + 2).natAbs - 1 = i + 1 by omega]
  simp [List.getD, vals_len, hl]
theorem lv_gate {x : Nat → Nat} {gs : List Gate} (hG : GGood gs) {g : Gate} (hg : GateOk gs.length g) : lv x (gins gs g) (gvar gs g) = gv x (vals x (gins gs g)) g := by
  have hp := gins_pos gs g
  have hi := (List.getElem?_eq_some_iff.1 hp).1
  unfold gvar
  rw [lv_at hp]
  have hok := (hG.ins hg).all _ _ hp
  have hl : ((gins gs g).take (gpos gs g)).length = gpos gs g := by rw [List.length_take]; omega
  have hE : GExt ((gins gs g).take (gpos gs g)) (gins gs g) := ⟨(gins gs g).drop (gpos gs g), (List.take_append_drop _ _).symm⟩
  unfold gv
  rcases hok with ⟨h0, _⟩ | ⟨hk, ha, hb⟩
  · rw [if_pos h0, if_pos h0]
  · have h0 : g.kd ≠ 0 := by omega
    rw [if_neg h0, if_neg h0]
    have ea : so (vals x ((gins gs g).take (gpos gs g))) g.a = so (vals x (gins gs g)) g.a := (lv_ext hE (by rw [hl]; exact ha)).symm
    have eb : so (vals x ((gins gs g).take (gpos gs g))) g.b = so (vals x (gins gs g)) g.b := (lv_ext hE (by rw [hl]; exact hb)).symm
    rw [ea, eb]
end Go.Proofs.Ytgnahjadjgjecaa
set_option linter.unusedVariables false
set_option linter.unusedSimpArgs false
namespace Go.Proofs.Ytgnahjadjgjecaa

/-- A clause's value; all clauses'. -/
def clauseT (vs : List Bool) (c : List Int) : Bool := c.any (so vs)
def allT (vs : List Bool) (cs : List (List Int)) : Bool := cs.all (clauseT vs)
/-- The clauses of a gate whose variable is v. -/
def gcl (v : Int) (g : Gate) : List (List Int) :=
  if g.kd = 0 then [] else if g.kd = 1 then [[-v, g.a], [-v, g.b], [v, -g.a, -g.b]] else [[-v, g.a, g.b], [-v, -g.a, -g.b], [v, -g.a, g.b], [v, g.a, -g.b]]
def gclauses : List Gate → Int → List (List Int)
  | [], _ => []
  | g :: gs, v => gcl v g ++ gclauses gs (v + 1)
theorem gclauses_snoc : ∀ (gs : List Gate) (g : Gate) (v : Int), gclauses (gs ++ [g]) v = gclauses gs v ++ gcl (v + gs.length) g
  | [], g, v => by simp [gclauses]
  | h :: gs, g, v => by
    show gcl v h ++ gclauses (gs ++ [g]) (v + 1) = gcl v h ++ gclauses gs (v + 1) ++ _
    rw [gclauses_snoc gs g (v + 1), List.append_assoc]
    congr 3
    simp only [List.length_cons]
    omega
theorem gcl_len (v : Int) (g : Gate) : (gcl v g).length ≤ 4 := by unfold gcl; split; simp; split <;> simp
theorem gclauses_len : ∀ (gs : List Gate) (v : Int), (gclauses gs v).length ≤ 4 * gs.length
  | [], v => Nat.le_refl _
  | g :: gs, v => by
    have := gclauses_len gs (v + 1)
    have := gcl_len v g
    show (gcl v g ++ gclauses gs (v + 1)).length ≤ _
    rw [List.length_append, List.length_cons]
    omega
theorem gclauses_mem : ∀ (gs : List Gate) (v : Int) (c : List Int), c ∈ gclauses gs v ↔ ∃ (i : Nat) (g : Gate), gs[i]? = some g ∧ c ∈ gcl (v + (i : Int)) g
  | [], v, c => by simp [gclauses]
  | h :: gs, v, c => by
    show c ∈ gcl v h ++ gclauses gs (v + 1) ↔ _
    rw [List.mem_append, gclauses_mem gs (v + 1) c]
    constructor
    · rintro (h1 | ⟨i, g, h1, h2⟩)
      · exact ⟨0, h, rfl, by simpa using h1⟩
      · exact ⟨i + 1, g, h1, by rw [show v + ((i + 1 : Nat) : Int) = v + 1 + (i : Int) by omega]; exact h2⟩
    · rintro ⟨i, g, h1, h2⟩
      cases i with
      | zero =>
        simp only [List.getElem?_cons_zero, Option.some.injEq] at h1
        subst h1
        exact Or.inl (by simpa using h2)
      | succ i => exact Or.inr ⟨i, g, h1, by rw [show v + 1 + (i : Int) = v + ((i + 1 : Nat) : Int) by omega]; exact h2⟩
/-- What a gate's clauses say of its variable. -/
theorem gcl_iff {vs : List Bool} {n : Nat} {v : Int} {g : Gate} (hv : Lit n v) (hk : g.kd = 1 ∨ g.kd = 2) (ha : Lit n g.a) (hb : Lit n g.b) : allT vs (gcl v g) = true ↔ so vs v = (if g.kd = 1 then so vs g.a && so vs g.b else so vs g.a != so vs g.b) := by
  have nv := so_neg (vs := vs) hv
  have na := so_neg (vs := vs) ha
  have nb := so_neg (vs := vs) hb
  unfold allT gcl
  rcases hk with h | h
  · rw [if_neg (by omega), if_pos h, if_pos h]
    simp only [clauseT, List.all_cons, List.all_nil, List.any_cons, List.any_nil, nv, na, nb]
    cases so vs v <;> cases so vs g.a <;> cases so vs g.b <;> decide
  · rw [if_neg (by omega), if_neg (by omega), if_neg (by omega)]
    simp only [clauseT, List.all_cons, List.all_nil, List.any_cons, List.any_nil, nv, na, nb]
    cases so vs v <;> cases so vs g.a <;> cases so vs g.b <;> decide
/-- The variables' values hold all gates' clauses. -/
theorem vals_holds {gs : List Gate} (hG : GGood gs) (x : Nat → Nat) : allT (vals x gs) (gclauses gs 2) = true := by
  unfold allT
  rw [List.all_eq_true]
  intro c hc
  obtain ⟨i, g, hi, hcg⟩ := (gclauses_mem _ _ _).1 hc
  have hlt := (List.getElem?_eq_some_iff.1 hi).1
  rcases hG.all i g hi with ⟨h0, _⟩ | ⟨hk, ha, hb⟩
  · unfold gcl at hcg
    rw [if_pos h0] at hcg
    simp at hcg
  · have hv : Lit (gs.length + 1) (2 + (i : Int)) := by unfold Lit; omega
    have ha' := ha.mono (m := gs.length + 1) (by omega)
    have hb' := hb.mono (m := gs.length + 1) (by omega)
    have hl := lv_at (x := x) hi
    have hE : GExt (gs.take i) gs := ⟨gs.drop i, (List.take_append_drop _ _).symm⟩
    have htl : (gs.take i).length = i := by rw [List.length_take]; omega
    have ea : so (vals x (gs.take i)) g.a = so (vals x gs) g.a := (lv_ext hE (by rw [htl]; exact ha)).symm
    have eb : so (vals x (gs.take i)) g.b = so (vals x gs) g.b := (lv_ext hE (by rw [htl]; exact hb)).symm
    unfold gv at hl
    rw [if_neg (by omega), ea, eb] at hl
    have := (gcl_iff (vs := vals x gs) hv hk ha' hb').2 (by rw [show (2 : Int) + i = i + 2 by omega]; exact hl)
    unfold allT at this
    rw [List.all_eq_true] at this
    exact this c hcg
/-- The registers that values tell. -/
def regsF (vs : List Bool) : List Gate → Nat → (Nat → Nat)
  | [], _ => fun _ => 0
  | g :: gs, v => fun r => (regsF vs gs (v + 1) r) ||| (if g.kd = 0 ∧ g.a = (r : Int) ∧ so vs (v : Int) = true then 2 ^ g.b.toNat else 0)
theorem regsF_bit (vs : List Bool) : ∀ (gs : List Gate) (v r b : Nat), (regsF vs gs v r).testBit b = true ↔ ∃ i g, gs[i]? = some g ∧ g.kd = 0 ∧ g.a = (r : Int) ∧ g.b.toNat = b ∧ so vs ((v + i : Nat) : Int) = true
  | [], v, r, b => by
    show (0 : Nat).testBit b = true ↔ _
    simp
  | h :: gs, v, r, b => by
    show ((regsF vs gs (v + 1) r) ||| _).testBit b = true ↔ _
    rw [Nat.testBit_or, Bool.or_eq_true, regsF_bit vs gs (v + 1) r b]
    constructor
    · rintro (⟨i, g, h1, h2, h3, h4, h5⟩ | h1)
      · exact ⟨i + 1, g, h1, h2, h3, h4, by rw [show v + (i + 1) = v + 1 + i by omega]; exact h5⟩
      · split at h1
        · rename_i hc
          refine ⟨0, h, rfl, hc.1, hc.2.1, ?_, hc.2.2⟩
          by_cases e : h.b.toNat = b
          · exact e
          · rw [Nat.testBit_two_pow_of_ne e] at h1; cases h1
        · rw [Nat.zero_testBit] at h1; cases h1
    · rintro ⟨i, g, h1, h2, h3, h4, h5⟩
      cases i with
      | zero =>
        simp only [List.getElem?_cons_zero, Option.some.injEq] at h1
        subst h1
        refine Or.inr ?_
        rw [if_pos ⟨h2, h3, by simpa using h5⟩, ← h4]
        exact Nat.testBit_two_pow_self
      | succ i => exact Or.inl ⟨i, g, h1, h2, h3, h4, by rw [show v + 1 + i = v + (i + 1) by omega]; exact h5⟩
def regsOf (vs : List Bool) (gs : List Gate) : Nat → Nat := regsF vs gs 2
theorem regsOf_gate {gs : List Gate} (hG : GGood gs) {vs : List Bool} {i : Nat} {g : Gate} (hi : gs[i]? = some g) (h0 : g.kd = 0) : (regsOf vs gs g.a.toNat).testBit g.b.toNat = so vs ((i : Int) + 2) := by
  have hlt := (List.getElem?_eq_some_iff.1 hi).1
  have hok : 0 ≤ g.a ∧ 0 ≤ g.b := by
    rcases hG.all i g hi with ⟨_, h1, _, h2, _⟩ | ⟨h, _⟩
    · exact ⟨h1, h2⟩
    · omega
  rw [Bool.eq_iff_iff]
  unfold regsOf
  rw [regsF_bit]
  constructor
  · rintro ⟨j, q, h1, h2, h3, h4, h5⟩
    have hj := (List.getElem?_eq_some_iff.1 h1).1
    have hqb : 0 ≤ q.b := by
      rcases hG.all j q h1 with ⟨_, _, _, h2', _⟩ | ⟨h, _⟩
      · exact h2'
      · omega
    have hq : q = g := by
      obtain ⟨k, a, b⟩ := q
      obtain ⟨k', a', b'⟩ := g
      dsimp only at *
      have e1 : k = k' := by omega
      have e2 : a = a' := by omega
      have e3 : b = b' := by omega
      subst e1 e2 e3
      rfl
    have hij : j = i := by
      have e1 : gs[j] = g := (List.getElem?_eq_some_iff.1 h1).2.trans hq
      have e2 : gs[i] = g := (List.getElem?_eq_some_iff.1 hi).2
      have hp := List.pairwise_iff_getElem.1 hG.nodup
      rcases Nat.lt_trichotomy i j with h | h | h
      · exact absurd (e2.trans e1.symm) (hp i j hlt hj h)
      · exact h.symm
      · exact absurd (e1.trans e2.symm) (hp j i hj hlt h)
    rw [hij] at h5
    rw [show ((i : Int) + 2) = ((2 + i : Nat) : Int) by omega]
    exact h5
  · intro h
    exact ⟨i, g, hi, h0, by omega, rfl, by rw [show ((2 + i : Nat) : Int) = (i : Int) + 2 by omega]; exact h⟩
/-- Values that hold all clauses are those of their own registers. -/
theorem holds_vals {gs : List Gate} (hG : GGood gs) {vs : List Bool} (hl : vs.length = gs.length + 1) (h1 : so vs 1 = true) (hc : allT vs (gclauses gs 2) = true) : vs = vals (regsOf vs gs) gs := by
  have key : ∀ i, i ≤ gs.length → vs.take (i + 1) = vals (regsOf vs gs) (gs.take i) := by
    intro i
    induction i with
    | zero =>
      intro _
      match vs, hl with
      | v :: r, _ =>
        have : v = true := by simpa [so] using h1
        subst this
        rfl
    | succ i ih =>
      intro hi
      have hi' : i < gs.length := by omega
      have ih' := ih (by omega)
      have hg : gs[i]? = some gs[i] := List.getElem?_eq_getElem hi'
      have hvl : i + 1 < vs.length := by omega
      rw [List.take_succ_eq_append_getElem hvl, List.take_succ_eq_append_getElem hi', vals_snoc, ← ih']
      congr 2
      have hso : so vs ((i : Int) + 2) = vs[i + 1] := by
        unfold so
        rw [if_neg (by omega), show ((i : Int) + 2).natAbs - 1 = i + 1 by omega]
        simp [List.getD, List.getElem?_eq_getElem hvl]
      rw [← hso]
      have htl : (vs.take (i + 1)).length = i + 1 := by rw [List.length_take]; omega
      have hsot : ∀ l, Lit (i + 1) l → so (vs.take (i + 1)) l = so vs l := fun l hl => by
        have := so_append (vs := vs.take (i + 1)) (r := vs.drop (i + 1)) hl (by omega)
        rw [List.take_append_drop] at this
        exact this.symm
      have hr := regsOf_gate hG (vs := vs) hg
      rcases hG.all i gs[i] hg with ⟨h0, _⟩ | ⟨hk, ha, hb⟩
      · unfold gv
        rw [if_pos h0]
        exact (hr h0).symm
      · have hv : Lit (gs.length + 1) (2 + (i : Int)) := by unfold Lit; omega
        have hcg : allT vs (gcl (2 + (i : Int)) gs[i]) = true := by
          unfold allT at hc ⊢
          rw [List.all_eq_true] at hc ⊢
          exact fun c h => hc c ((gclauses_mem _ _ _).2 ⟨i, gs[i], hg, h⟩)
        have := (gcl_iff (vs := vs) hv hk (ha.mono (m := gs.length + 1) (by omega)) (hb.mono (m := gs.length + 1) (by omega))).1 hcg
        unfold gv
        rw [if_neg (by omega), hsot _ ha, hsot _ hb, show ((i : Int) + 2) = 2 + (i : Int) by omega]
        exact this
  have := key gs.length (Nat.le_refl _)
  rw [List.take_length, List.take_of_length_le (by omega)] at this
  exact this
end Go.Proofs.Ytgnahjadjgjecaa
