/- Instructions, and their terms: plain laws. -/
/- What terms come to, and which registers they need: plain laws. -/
/- What is made simple comes to what it was: plain laws. -/
/- What instructions' terms come to. -/
/- How many terms instructions make. -/
import Derived.Test.YtaiggfknighhgaaGreatDoorTPure
import Derived.Test.YtaiggfknighhgaaGreatDoorTDepth
set_option linter.unusedVariables false
set_option linter.unusedSimpArgs false
namespace Go.Proofs.YtaiggfknighhgaaGreatDoor

structure Ins where
  op : Int
  rd : Int
  rs1 : Int
  rs2 : Int
  imm : Int
instance : Inhabited Ins := ⟨⟨0, 0, 0, 0, 0⟩⟩
def formL : List Nat := [85, 85, 74, 73, 66, 66, 66, 66, 66, 66, 73, 73, 73, 73, 73, 83, 83, 83, 73, 73, 73, 73, 73, 73, 72, 72, 72, 82, 82, 82, 82, 82, 82, 82, 82, 82, 82, 82, 82, 82, 82, 82, 82, 82, 82, 69, 69]
/-- An instruction's form, a letter; 0: there is none. -/
def formI (op : Int) : Nat := if op < 0 ∨ 47 ≤ op then 0 else formL.getD op.toNat 0
def rdB (f : Nat) : Bool := decide (f = 85 ∨ f = 74 ∨ f = 73 ∨ f = 72 ∨ f = 82)
def rs1B (f : Nat) : Bool := decide (f = 73 ∨ f = 72 ∨ f = 66 ∨ f = 83 ∨ f = 82)
def rs2B (f : Nat) : Bool := decide (f = 66 ∨ f = 83 ∨ f = 82)
def regB (is : Bool) (n : Int) : Bool := (is && (decide (0 ≤ n) && decide (n ≤ 31))) || decide (n = 0)
def numB (f : Nat) (n : Int) : Bool :=
  if f = 85 then decide (0 ≤ n ∧ n ≤ 1048575)
  else if f = 74 then decide (-1048576 ≤ n ∧ n ≤ 1048574 ∧ n % 2 = 0)
  else if f = 73 ∨ f = 83 then decide (-2048 ≤ n ∧ n ≤ 2047)
  else if f = 66 then decide (-4096 ≤ n ∧ n ≤ 4094 ∧ n % 2 = 0)
  else if f = 72 then decide (0 ≤ n ∧ n ≤ 31)
  else decide (n = 0)
/-- May an instruction be? -/
def rightI (x : Ins) : Bool := decide (formI x.op ≠ 0) && regB (rdB (formI x.op)) x.rd && regB (rs1B (formI x.op)) x.rs1 && regB (rs2B (formI x.op)) x.rs2 && numB (formI x.op) x.imm
/-- What a reckoning with a number is of one with two registers. -/
def immOp (op : Int) : Option Nat :=
  if op = 18 then some 27 else if op = 19 then some 30 else if op = 20 then some 31 else if op = 21 then some 32 else if op = 22 then some 35 else if op = 23 then some 36
  else if op = 24 then some 29 else if op = 25 then some 33 else if op = 26 then some 34 else none
/-- Can an instruction be lifted? -/
def plainI (x : Ins) : Bool := rightI x && ((immOp x.op).isSome || decide (x.op = 0) || decide (x.op = 1) || decide (formI x.op = 82))
theorem formI_82 {op : Int} (h : formI op = 82) : 27 ≤ op ∧ op ≤ 44 := by
  unfold formI at h
  split at h
  · cases h
  · rename_i hn
    obtain ⟨k, rfl⟩ : ∃ k : Nat, op = k := ⟨op.toNat, by omega⟩
    have hk : k < 47 := by omega
    have : ∀ k, k < 47 → formL.getD k 0 = 82 → 27 ≤ k ∧ k ≤ 44 := by decide
    have := this k hk h
    omega
theorem formI_range {op : Int} (h : 27 ≤ op ∧ op ≤ 44) : formI op = 82 := by
  obtain ⟨k, rfl⟩ : ∃ k : Nat, op = k := ⟨op.toNat, by omega⟩
  unfold formI
  rw [if_neg (by omega)]
  have : ∀ k, k < 45 → 27 ≤ k → formL.getD k 0 = 82 := by decide
  exact this k (by omega) (by omega)
theorem immOp_some {op : Int} {o : Nat} (h : immOp op = some o) : 18 ≤ op ∧ op ≤ 26 ∧ (doW o 0 0).isSome = true := by
  unfold immOp at h
  repeat' split at h
  all_goals first
    | (cases h; done)
    | (cases h; exact ⟨by omega, by omega, rfl⟩)
theorem immOp_none {op : Int} (h : ¬ (18 ≤ op ∧ op ≤ 26)) : immOp op = none := by
  unfold immOp
  repeat' rw [if_neg (by omega)]
theorem regB_in {b : Bool} {n : Int} (h : regB b n = true) : 0 ≤ n ∧ n ≤ 31 := by
  unfold regB at h
  simp only [Bool.or_eq_true, Bool.and_eq_true, decide_eq_true_eq] at h
  omega
theorem rightI_regs {x : Ins} (h : rightI x = true) : (0 ≤ x.rd ∧ x.rd ≤ 31) ∧ (0 ≤ x.rs1 ∧ x.rs1 ≤ 31) ∧ (0 ≤ x.rs2 ∧ x.rs2 ≤ 31) := by
  unfold rightI at h
  simp only [Bool.and_eq_true] at h
  exact ⟨regB_in h.1.1.1.2, regB_in h.1.1.2, regB_in h.1.2⟩
/-- What a lifted instruction is. -/
inductive Kind (x : Ins) : Prop where
  | lui : x.op = 0 → Kind x
  | auipc : x.op = 1 → Kind x
  | imm (o : Nat) : immOp x.op = some o → (doW o 0 0).isSome = true → x.op ≠ 0 → x.op ≠ 1 → Kind x
  | reg (o : Nat) : x.op = o → immOp x.op = none → (doW o 0 0).isSome = true → x.op ≠ 0 → x.op ≠ 1 → Kind x
theorem doW_range {k : Nat} (h : 27 ≤ k) (h2 : k ≤ 44) : (doW k 0 0).isSome = true := by
  have : ∀ k, k < 45 → 27 ≤ k → (doW k 0 0).isSome = true := by decide
  exact this k (by omega) h
theorem plainI_kind {x : Ins} (h : plainI x = true) : Kind x := by
  unfold plainI at h
  simp only [Bool.and_eq_true, Bool.or_eq_true, decide_eq_true_eq, Option.isSome_iff_exists] at h
  obtain ⟨_, ((⟨o, ho⟩ | h0) | h1) | hf⟩ := h
  · have := immOp_some ho
    exact .imm o ho this.2.2 (by omega) (by omega)
  · exact .lui h0
  · exact .auipc h1
  · have := formI_82 hf
    obtain ⟨k, hk⟩ : ∃ k : Nat, x.op = k := ⟨x.op.toNat, by omega⟩
    exact .reg k hk (immOp_none (by omega)) (doW_range (by omega) (by omega)) (by omega) (by omega)
def up (imm : Int) : Nat := us imm * 4096 % 4294967296
theorem up_lt (imm : Int) : up imm < 4294967296 := Nat.mod_lt _ (by omega)
/-- An instruction's term: what is made for it, its number. -/
def oneT (ts : List Term) (x : Nat → Nat) (i : Ins) (pc : Nat) : Made :=
  if i.op = 0 then (ins ts (constT (up i.imm)), pos ts (constT (up i.imm)))
  else if i.op = 1 then (ins ts (constT ((up i.imm + pc) % 4294967296)), pos ts (constT ((up i.imm + pc) % 4294967296)))
  else match immOp i.op with
    | some o => made (ins ts (constT (us i.imm))) o (x i.rs1.toNat) (pos ts (constT (us i.imm)))
    | none => made ts i.op.toNat (x i.rs1.toNat) (x i.rs2.toNat)
def setR (x : Nat → Nat) (rd : Int) (n : Nat) : Nat → Nat := if rd = 0 then x else fun r => if r = rd.toNat then n else x r
/-- The registers' terms behind instructions. -/
def fromT : List Term → (Nat → Nat) → List Ins → Nat → List Term × (Nat → Nat)
  | ts, x, [], _ => (ts, x)
  | ts, x, i :: l, pc => fromT (oneT ts x i pc).1 (setR x i.rd (oneT ts x i pc).2) l ((pc + 4) % 4294967296)
/-- Terms that there are. -/
def InT (ts : List Term) (x : Nat → Nat) : Prop := ∀ r, r < 32 → x r < ts.length
theorem InT.ext {ts us : List Term} {x : Nat → Nat} (h : InT ts x) (he : Ext ts us) : InT us x := fun r hr => Nat.lt_of_lt_of_le (h r hr) he.len
theorem InT.set {ts : List Term} {x : Nat → Nat} (h : InT ts x) {n : Nat} (hn : n < ts.length) (rd : Int) : InT ts (setR x rd n) := fun r hr => by
  unfold setR
  split
  · exact h r hr
  · show (if r = rd.toNat then n else x r) < _
    split
    · exact hn
    · exact h r hr
theorem oneT_ok {ts : List Term} {x : Nat → Nat} {i : Ins} {pc : Nat} (hG : Good ts) (hx : InT ts x) (hi : plainI i = true) : Good (oneT ts x i pc).1 ∧ (oneT ts x i pc).2 < (oneT ts x i pc).1.length ∧ Ext ts (oneT ts x i pc).1 := by
  have hr : rightI i = true := by unfold plainI at hi; rw [Bool.and_eq_true] at hi; exact hi.1
  obtain ⟨_, h1, h2⟩ := rightI_regs hr
  unfold oneT
  rcases plainI_kind hi with h | h | ⟨o, ho, hd, h0, h1'⟩ | ⟨o, ho, hn, hd, h0, h1'⟩
  · rw [if_pos h]
    exact ⟨hG.const (up_lt _), pos_lt _ _, ext_ins _ _⟩
  · rw [if_neg (by omega), if_pos h]
    exact ⟨hG.const (Nat.mod_lt _ (by omega)), pos_lt _ _, ext_ins _ _⟩
  · rw [if_neg h0, if_neg h1', ho]
    have hG2 := hG.const (us_lt i.imm)
    have hE := ext_ins ts (constT (us i.imm))
    have := madeF_ok (8 * (ins ts (constT (us i.imm))).length + 10) _ o (x i.rs1.toNat) (pos ts (constT (us i.imm))) hG2 hd (Nat.lt_of_lt_of_le (hx _ (by omega)) hE.len) (pos_lt _ _) (by have := mz_le (op := o) (b := pos ts (constT (us i.imm))) (Nat.lt_of_lt_of_le (hx i.rs1.toNat (by omega)) hE.len); omega)
    exact ⟨this.1, this.2.1, hE.trans this.2.2.1⟩
  · rw [if_neg h0, if_neg h1', hn, show i.op.toNat = o by omega]
    have := madeF_ok (8 * ts.length + 10) ts o (x i.rs1.toNat) (x i.rs2.toNat) hG hd (hx _ (by omega)) (hx _ (by omega)) (by have := mz_le (op := o) (b := x i.rs2.toNat) (hx i.rs1.toNat (by omega)); omega)
    exact ⟨this.1, this.2.1, this.2.2.1⟩
theorem fromT_ok : ∀ (l : List Ins) (ts : List Term) (x : Nat → Nat) (pc : Nat), Good ts → InT ts x → (∀ i, i ∈ l → plainI i = true) → Good (fromT ts x l pc).1 ∧ InT (fromT ts x l pc).1 (fromT ts x l pc).2 ∧ Ext ts (fromT ts x l pc).1
  | [], ts, x, pc, hG, hx, _ => ⟨hG, hx, Ext.refl _⟩
  | i :: l, ts, x, pc, hG, hx, hl => by
    obtain ⟨h1, h2, h3⟩ := oneT_ok (pc := pc) hG hx (hl i List.mem_cons_self)
    obtain ⟨g1, g2, g3⟩ := fromT_ok l _ (setR x i.rd (oneT ts x i pc).2) ((pc + 4) % 4294967296) h1 ((hx.ext h3).set h2 i.rd) fun j hj => hl j (List.mem_cons_of_mem _ hj)
    exact ⟨g1, g2, h3.trans g3⟩
theorem fromT_append : ∀ (a b : List Ins) (ts : List Term) (x : Nat → Nat) (pc : Nat), pc < 4294967296 → fromT ts x (a ++ b) pc = fromT (fromT ts x a pc).1 (fromT ts x a pc).2 b ((pc + 4 * a.length) % 4294967296)
  | [], b, ts, x, pc, h => by
    show fromT ts x b pc = fromT ts x b ((pc + 4 * 0) % 4294967296)
    rw [Nat.mul_zero, Nat.add_zero, Nat.mod_eq_of_lt h]
  | i :: a, b, ts, x, pc, h => by
    show fromT _ _ (a ++ b) _ = _
    rw [fromT_append a b _ _ _ (Nat.mod_lt _ (by omega)), show ((pc + 4) % 4294967296 + 4 * a.length) % 4294967296 = (pc + 4 * (i :: a).length) % 4294967296 by simp only [List.length_cons]; omega]
    rfl
end Go.Proofs.YtaiggfknighhgaaGreatDoor
set_option linter.unusedVariables false
set_option linter.unusedSimpArgs false
namespace Go.Proofs.YtaiggfknighhgaaGreatDoor

/-- What a term comes to, of what those ahead of it do; the registers that it needs. -/
def evT (x : Nat → Nat) (vs : List Nat) (t : Term) : Nat := if t.k = 0 then t.v else if t.k = 1 then x t.v else (doW t.op (vs.getD t.a 0) (vs.getD t.b 0)).getD 0
def vrT (vs : List Nat) (t : Term) : Nat := if t.k = 0 then 0 else if t.k = 1 then 2 ^ t.v else vs.getD t.a 0 ||| vs.getD t.b 0
def upTo (g : List Nat → Term → Nat) : List Term → List Nat → List Nat
  | [], acc => acc
  | t :: ts, acc => upTo g ts (acc ++ [g acc t])
theorem upTo_len (g : List Nat → Term → Nat) : ∀ (ts : List Term) (acc : List Nat), (upTo g ts acc).length = acc.length + ts.length
  | [], acc => by simp [upTo]
  | t :: ts, acc => by
    unfold upTo
    rw [upTo_len g ts]
    simp
    omega
theorem upTo_append (g : List Nat → Term → Nat) : ∀ (ts r : List Term) (acc : List Nat), upTo g (ts ++ r) acc = upTo g r (upTo g ts acc)
  | [], r, acc => rfl
  | t :: ts, r, acc => by
    show upTo g (ts ++ r) (acc ++ [g acc t]) = upTo g r (upTo g ts (acc ++ [g acc t]))
    exact upTo_append g ts r _
theorem upTo_pre (g : List Nat → Term → Nat) : ∀ (ts : List Term) (acc : List Nat), ∃ r, upTo g ts acc = acc ++ r
  | [], acc => ⟨[], by simp [upTo]⟩
  | t :: ts, acc => by
    obtain ⟨r, hr⟩ := upTo_pre g ts (acc ++ [g acc t])
    exact ⟨g acc t :: r, by unfold upTo; rw [hr]; simp⟩
theorem upTo_getD {g : List Nat → Term → Nat} {ts r : List Term} {i : Nat} (hi : i < ts.length) (d : Nat) : (upTo g (ts ++ r) []).getD i d = (upTo g ts []).getD i d := by
  rw [upTo_append]
  obtain ⟨q, hq⟩ := upTo_pre g r (upTo g ts [])
  rw [hq, List.getD_eq_getElem?_getD, List.getD_eq_getElem?_getD, List.getElem?_append_left (by rw [upTo_len]; simpa using hi)]
theorem upTo_snoc (g : List Nat → Term → Nat) (ts : List Term) (t : Term) : upTo g (ts ++ [t]) [] = upTo g ts [] ++ [g (upTo g ts []) t] := by
  rw [upTo_append]; rfl
theorem upTo_last (g : List Nat → Term → Nat) (ts : List Term) (t : Term) (d : Nat) : (upTo g (ts ++ [t]) []).getD ts.length d = g (upTo g ts []) t := by
  rw [upTo_snoc, List.getD_eq_getElem?_getD, List.getElem?_append_right (by rw [upTo_len]; simp), upTo_len]
  simp
def evs (x : Nat → Nat) (ts : List Term) : List Nat := upTo (evT x) ts []
def vrs (ts : List Term) : List Nat := upTo vrT ts []
/-- What term n comes to; the registers that it needs. -/
def ev (ts : List Term) (x : Nat → Nat) (n : Nat) : Nat := (evs x ts).getD n 0
def vr (ts : List Term) (n : Nat) : Nat := (vrs ts).getD n 0
theorem evs_len (x : Nat → Nat) (ts : List Term) : (evs x ts).length = ts.length := by unfold evs; rw [upTo_len]; simp
theorem vrs_len (ts : List Term) : (vrs ts).length = ts.length := by unfold vrs; rw [upTo_len]; simp
theorem takeT_snoc {ts : List Term} {i : Nat} (hi : i < ts.length) : ts.take (i + 1) = ts.take i ++ [ts.getD i default] := by
  rw [List.take_add_one, List.getElem?_eq_getElem hi, List.getD_eq_getElem?_getD, List.getElem?_eq_getElem hi]
  rfl
theorem ev_take {ts : List Term} {x : Nat → Nat} {n i : Nat} (hi : i < n) (hn : n ≤ ts.length) : (evs x (ts.take n)).getD i 0 = ev ts x i := by
  unfold ev evs
  have h1 : ts = ts.take n ++ ts.drop n := (List.take_append_drop n ts).symm
  have h2 : i < (ts.take n).length := by rw [List.length_take]; omega
  rw [← upTo_getD (r := ts.drop n) h2, ← h1]
theorem vr_take {ts : List Term} {n i : Nat} (hi : i < n) (hn : n ≤ ts.length) : (vrs (ts.take n)).getD i 0 = vr ts i := by
  unfold vr vrs
  have h1 : ts = ts.take n ++ ts.drop n := (List.take_append_drop n ts).symm
  have h2 : i < (ts.take n).length := by rw [List.length_take]; omega
  rw [← upTo_getD (r := ts.drop n) h2, ← h1]
theorem ev_ext {a b : List Term} (h : Ext a b) {x : Nat → Nat} {i : Nat} (hi : i < a.length) : ev b x i = ev a x i := by
  obtain ⟨r, rfl⟩ := h
  exact upTo_getD hi 0
theorem vr_ext {a b : List Term} (h : Ext a b) {i : Nat} (hi : i < a.length) : vr b i = vr a i := by
  obtain ⟨r, rfl⟩ := h
  exact upTo_getD hi 0
theorem ev_step {ts : List Term} {x : Nat → Nat} {n : Nat} (hn : n < ts.length) : ev ts x n = evT x (evs x (ts.take n)) (ts.getD n default) := by
  have h0 : (ts.take n).length = n := by rw [List.length_take]; omega
  have h1 := upTo_last (evT x) (ts.take n) (ts.getD n default) 0
  rw [← takeT_snoc hn, h0] at h1
  rw [← ev_take (n := n + 1) (by omega) (by omega)]
  exact h1
theorem vr_step {ts : List Term} {n : Nat} (hn : n < ts.length) : vr ts n = vrT (vrs (ts.take n)) (ts.getD n default) := by
  have h0 : (ts.take n).length = n := by rw [List.length_take]; omega
  have h1 := upTo_last vrT (ts.take n) (ts.getD n default) 0
  rw [← takeT_snoc hn, h0] at h1
  rw [← vr_take (n := n + 1) (by omega) (by omega)]
  exact h1
/-- The three kinds. -/
theorem ev_const {ts : List Term} {x : Nat → Nat} {n v : Nat} (hn : n < ts.length) (h : ts.getD n default = constT v) : ev ts x n = v := by
  rw [ev_step hn, h]; rfl
theorem ev_var {ts : List Term} {x : Nat → Nat} {n r : Nat} (hn : n < ts.length) (h : ts.getD n default = varT r) : ev ts x n = x r := by
  rw [ev_step hn, h]; rfl
theorem ev_op {ts : List Term} {x : Nat → Nat} {n o a b : Nat} (hn : n < ts.length) (h : ts.getD n default = opT o a b) (ha : a < n) (hb : b < n) : ev ts x n = (doW o (ev ts x a) (ev ts x b)).getD 0 := by
  rw [ev_step hn, h]
  show (doW o ((evs x (ts.take n)).getD a 0) ((evs x (ts.take n)).getD b 0)).getD 0 = _
  rw [ev_take ha (by omega), ev_take hb (by omega)]
theorem vr_const {ts : List Term} {n v : Nat} (hn : n < ts.length) (h : ts.getD n default = constT v) : vr ts n = 0 := by
  rw [vr_step hn, h]; rfl
theorem vr_var {ts : List Term} {n r : Nat} (hn : n < ts.length) (h : ts.getD n default = varT r) : vr ts n = 2 ^ r := by
  rw [vr_step hn, h]; rfl
theorem vr_op {ts : List Term} {n o a b : Nat} (hn : n < ts.length) (h : ts.getD n default = opT o a b) (ha : a < n) (hb : b < n) : vr ts n = vr ts a ||| vr ts b := by
  rw [vr_step hn, h]
  show (vrs (ts.take n)).getD a 0 ||| (vrs (ts.take n)).getD b 0 = _
  rw [vr_take ha (by omega), vr_take hb (by omega)]
theorem ev_lt {ts : List Term} (h : Good ts) {x : Nat → Nat} (hx : ∀ r, x r < 4294967296) : ∀ n, n < ts.length → ev ts x n < 4294967296 := by
  intro n
  induction n using Nat.strongRecOn with
  | ind n ih =>
    intro hn
    rcases h.at_ hn default with ⟨v, hv, e⟩ | ⟨r, _, hr, e⟩ | ⟨op, a, b, ho, ha, hb, e⟩
    · rw [ev_const hn e]; exact hv
    · rw [ev_var hn e]; exact hx r
    · rw [ev_op hn e ha hb]
      exact doW_lt ho (ih a ha (by omega)) (ih b hb (by omega))
theorem vr_lt {ts : List Term} (h : Good ts) : ∀ n, n < ts.length → vr ts n < 4294967296 := by
  intro n
  induction n using Nat.strongRecOn with
  | ind n ih =>
    intro hn
    rcases h.at_ hn default with ⟨v, hv, e⟩ | ⟨r, _, hr, e⟩ | ⟨op, a, b, ho, ha, hb, e⟩
    · rw [vr_const hn e]; omega
    · rw [vr_var hn e]
      have := Nat.pow_le_pow_right (n := 2) (by omega) (by omega : r ≤ 31)
      omega
    · rw [vr_op hn e ha hb]
      exact or_lt32 (ih a ha (by omega)) (ih b hb (by omega))
/-- Only the registers that it needs make a difference. -/
theorem ev_regs {ts : List Term} (h : Good ts) {x y : Nat → Nat} : ∀ n, n < ts.length → (∀ r, r < 32 → (vr ts n).testBit r = true → x r = y r) → ev ts x n = ev ts y n := by
  intro n
  induction n using Nat.strongRecOn with
  | ind n ih =>
    intro hn hr
    rcases h.at_ hn default with ⟨v, hv, e⟩ | ⟨r, _, hr2, e⟩ | ⟨op, a, b, ho, ha, hb, e⟩
    · rw [ev_const hn e, ev_const hn e]
    · rw [ev_var hn e, ev_var hn e]
      exact hr r hr2 (by rw [vr_var hn e, Nat.testBit_two_pow_self])
    · rw [ev_op hn e ha hb, ev_op hn e ha hb]
      rw [vr_op hn e ha hb] at hr
      rw [ih a ha (by omega) fun r h1 h2 => hr r h1 (by rw [Nat.testBit_or, h2]; rfl), ih b hb (by omega) fun r h1 h2 => hr r h1 (by rw [Nat.testBit_or, h2]; simp)]
/-- A term and all that it has. -/
inductive Reach (ts : List Term) (n : Nat) : Nat → Prop where
  | self : Reach ts n n
  | left {i : Nat} : Reach ts n i → (ts.getD i default).k = 2 → Reach ts n (ts.getD i default).a
  | right {i : Nat} : Reach ts n i → (ts.getD i default).k = 2 → Reach ts n (ts.getD i default).b
theorem Reach.le {ts : List Term} (h : Good ts) {n i : Nat} (hr : Reach ts n i) (hn : n < ts.length) : i ≤ n := by
  induction hr with
  | self => exact Nat.le_refl _
  | left _ hk ih =>
    have := (h.op_at (by omega) hk).2.1
    omega
  | right _ hk ih =>
    have := (h.op_at (by omega) hk).2.2.1
    omega
theorem Reach.trans {ts : List Term} {n m i : Nat} (h : Reach ts n m) (k : Reach ts m i) : Reach ts n i := by
  induction k with
  | self => exact h
  | left _ hk ih => exact ih.left hk
  | right _ hk ih => exact ih.right hk
/-- The registers needed are those of the terms that it has. -/
theorem vr_reach {ts : List Term} (h : Good ts) : ∀ n, n < ts.length → ∀ r, (vr ts n).testBit r = true ↔ ∃ i, Reach ts n i ∧ ts.getD i default = varT r := by
  intro n
  induction n using Nat.strongRecOn with
  | ind n ih =>
    intro hn r
    rcases h.at_ hn default with ⟨v, hv, e⟩ | ⟨r2, _, hr2, e⟩ | ⟨op, a, b, ho, ha, hb, e⟩
    · rw [vr_const hn e]
      refine ⟨fun hh => by simp at hh, fun ⟨i, hi, ei⟩ => ?_⟩
      have : i = n := by
        clear ei
        induction hi with
        | self => rfl
        | left hp hk ih2 => rw [ih2, e] at hk; cases hk
        | right hp hk ih2 => rw [ih2, e] at hk; cases hk
      subst this
      rw [e] at ei; cases ei
    · rw [vr_var hn e, Nat.testBit_two_pow]
      have hone : ∀ i, Reach ts n i → i = n := fun i hi => by
        induction hi with
        | self => rfl
        | left hp hk ih2 => rw [ih2, e] at hk; cases hk
        | right hp hk ih2 => rw [ih2, e] at hk; cases hk
      constructor
      · intro hh
        have : r2 = r := by simpa using hh
        subst this
        exact ⟨n, .self, e⟩
      · rintro ⟨i, hi, ei⟩
        rw [hone i hi, e] at ei
        injection ei with _ ei
        simp [ei]
    · rw [vr_op hn e ha hb, Nat.testBit_or, Bool.or_eq_true, ih a ha (by omega) r, ih b hb (by omega) r]
      have hk : (ts.getD n default).k = 2 := by rw [e]; rfl
      have la : Reach ts n a := by have := (Reach.self (ts := ts) (n := n)).left hk; rw [e] at this; exact this
      have lb : Reach ts n b := by have := (Reach.self (ts := ts) (n := n)).right hk; rw [e] at this; exact this
      constructor
      · rintro (⟨i, hi, ei⟩ | ⟨i, hi, ei⟩)
        · exact ⟨i, la.trans hi, ei⟩
        · exact ⟨i, lb.trans hi, ei⟩
      · rintro ⟨i, hi, ei⟩
        have key : i = n ∨ Reach ts a i ∨ Reach ts b i := by
          clear ei
          induction hi with
          | self => exact Or.inl rfl
          | left hp hk2 ih2 =>
            rcases ih2 with rfl | h1 | h1
            · rw [e]; exact Or.inr (Or.inl .self)
            · exact Or.inr (Or.inl (h1.left hk2))
            · exact Or.inr (Or.inr (h1.left hk2))
          | right hp hk2 ih2 =>
            rcases ih2 with rfl | h1 | h1
            · rw [e]; exact Or.inr (Or.inr .self)
            · exact Or.inr (Or.inl (h1.right hk2))
            · exact Or.inr (Or.inr (h1.right hk2))
        rcases key with rfl | h1 | h1
        · rw [e] at ei; cases ei
        · exact Or.inl ⟨i, h1, ei⟩
        · exact Or.inr ⟨i, h1, ei⟩
def putS (S : Nat → Bool) (x : Nat) : Nat → Bool := fun y => if y = x then true else S y
theorem putS_same (S : Nat → Bool) (x : Nat) : putS S x x = true := if_pos rfl
theorem putS_of {S : Nat → Bool} {x y : Nat} (h : S y = true) : putS S x y = true := by unfold putS; split <;> first | rfl | exact h
theorem putS_ne {S : Nat → Bool} {x y : Nat} (h : y ≠ x) : putS S x y = S y := if_neg h
/-- Which terms are seen, when those above k were looked at. -/
structure SeenInv (ts : List Term) (n : Nat) (k : Int) (S : Nat → Bool) : Prop where mk_ ::
  top : S n = true
  ok : ∀ i, S i = true → Reach ts n i
  clo : ∀ i, S i = true → k < i → (ts.getD i default).k = 2 → S (ts.getD i default).a = true ∧ S (ts.getD i default).b = true
theorem SeenInv.start {ts : List Term} (h : Good ts) {n : Nat} (hn : n < ts.length) : SeenInv ts n n (putS (fun _ => false) n) :=
  ⟨putS_same _ _, fun i hi => (by
    unfold putS at hi
    split at hi
    · rename_i e; subst e; exact .self
    · cases hi), fun i hi hk => (by
    unfold putS at hi
    split at hi
    · omega
    · cases hi)⟩
theorem SeenInv.skip {ts : List Term} {n k : Nat} {S : Nat → Bool} (h : SeenInv ts n k S) (hk : ¬ (S k = true ∧ (ts.getD k default).k = 2)) : SeenInv ts n ((k : Int) - 1) S :=
  ⟨h.top, h.ok, fun i hi hki h2 => by
    by_cases e : i = k
    · subst e; exact absurd ⟨hi, h2⟩ hk
    · exact h.clo i hi (by omega) h2⟩
theorem SeenInv.put {ts : List Term} (hG : Good ts) {n k a b : Nat} (hn : n < ts.length) {S : Nat → Bool} (h : SeenInv ts n k S) (hS : S k = true) (h2 : (ts.getD k default).k = 2) (ha : (ts.getD k default).a = a) (hb : (ts.getD k default).b = b) : SeenInv ts n ((k : Int) - 1) (putS (putS S a) b) := by
  subst ha hb
  have hr := h.ok k hS
  have hkn := hr.le hG hn
  obtain ⟨_, la, lb, _⟩ := hG.op_at (by omega) h2
  refine ⟨putS_of (putS_of h.top), fun i hi => ?_, fun i hi hki hi2 => ?_⟩
  · by_cases e1 : i = (ts.getD k default).b
    · rw [e1]; exact hr.right h2
    · rw [putS_ne e1] at hi
      by_cases e2 : i = (ts.getD k default).a
      · rw [e2]; exact hr.left h2
      · rw [putS_ne e2] at hi
        exact h.ok i hi
  · by_cases e : i = k
    · subst e
      exact ⟨putS_of (putS_same _ _), putS_same _ _⟩
    · rw [putS_ne (by omega), putS_ne (by omega)] at hi
      obtain ⟨q1, q2⟩ := h.clo i hi (by omega) hi2
      exact ⟨putS_of (putS_of q1), putS_of (putS_of q2)⟩
theorem SeenInv.done {ts : List Term} {n : Nat} {S : Nat → Bool} (h : SeenInv ts n (-1) S) (i : Nat) : S i = true ↔ Reach ts n i := by
  refine ⟨h.ok i, fun hr => ?_⟩
  induction hr with
  | self => exact h.top
  | left _ hk ih => exact (h.clo _ ih (by omega) hk).1
  | right _ hk ih => exact (h.clo _ ih (by omega) hk).2
/-- The numbers of a term, and of all that it has, rising. -/
structure Needs (ts : List Term) (n : Nat) (l : List Nat) : Prop where mk_ ::
  rise : l.Pairwise (· < ·)
  mem : ∀ i, i ∈ l ↔ Reach ts n i
theorem Needs.self {ts : List Term} {n : Nat} {l : List Nat} (h : Needs ts n l) : n ∈ l := (h.mem n).2 .self
theorem Needs.lt {ts : List Term} {n : Nat} {l : List Nat} (h : Needs ts n l) (hG : Good ts) (hn : n < ts.length) {i : Nat} (hi : i ∈ l) : i < ts.length := by
  have := ((h.mem i).1 hi).le hG hn
  omega
theorem Needs.len {ts : List Term} {n : Nat} {l : List Nat} (h : Needs ts n l) (hG : Good ts) (hn : n < ts.length) : l.length ≤ ts.length := by
  have hsub : l ⊆ List.range ts.length := fun i hi => List.mem_range.2 (h.lt hG hn hi)
  have hnd : l.Nodup := h.rise.imp (fun hab => Nat.ne_of_lt hab)
  have := List.Nodup.length_le_of_subset hnd hsub
  simpa using this
/-- A reckoning's parts stand ahead of it. -/
theorem Needs.ahead {ts : List Term} (hG : Good ts) {n : Nat} (hn : n < ts.length) {l : List Nat} (h : Needs ts n l) {j : Nat} (hj : j < l.length) (h2 : (ts.getD (l.getD j 0) default).k = 2) :
    (ts.getD (l.getD j 0) default).a ∈ l.take j ∧ (ts.getD (l.getD j 0) default).b ∈ l.take j := by
  have e : l.getD j 0 = l[j] := by rw [List.getD_eq_getElem?_getD, List.getElem?_eq_getElem hj]; rfl
  have hm : l.getD j 0 ∈ l := by rw [e]; exact List.getElem_mem hj
  have hr := (h.mem _).1 hm
  have hlt := h.lt hG hn hm
  obtain ⟨_, la, lb, _⟩ := hG.op_at hlt h2
  have key : ∀ q, q ∈ l → q < l.getD j 0 → q ∈ l.take j := fun q hq hlt => by
    obtain ⟨m, hm, rfl⟩ := List.mem_iff_getElem.1 hq
    have hmj : m < j := by
      refine Nat.lt_of_not_le fun hle => ?_
      rcases Nat.eq_or_lt_of_le hle with e2 | hlt2
      · subst e2; rw [e] at hlt; omega
      · have := List.pairwise_iff_getElem.1 h.rise j m hj hm hlt2
        rw [e] at hlt; omega
    exact List.mem_take_iff_getElem.2 ⟨m, by omega, rfl⟩
  exact ⟨key _ ((h.mem _).2 (hr.left h2)) la, key _ ((h.mem _).2 (hr.right h2)) lb⟩
/-- The registers of some terms. -/
def orL (ts : List Term) : List Nat → Nat
  | [] => 0
  | i :: l => (if (ts.getD i default).k = 1 then 2 ^ (ts.getD i default).v else 0) ||| orL ts l
theorem orL_test (ts : List Term) (r : Nat) : ∀ l, (orL ts l).testBit r = true ↔ ∃ i, i ∈ l ∧ (ts.getD i default).k = 1 ∧ (ts.getD i default).v = r
  | [] => by simp [orL]
  | i :: l => by
    unfold orL
    rw [Nat.testBit_or, Bool.or_eq_true, orL_test ts r l]
    constructor
    · rintro (h | ⟨j, hj, h⟩)
      · split at h
        · rename_i hk
          rw [Nat.testBit_two_pow, decide_eq_true_eq] at h
          exact ⟨i, List.mem_cons_self, hk, h⟩
        · simp at h
      · exact ⟨j, List.mem_cons_of_mem _ hj, h⟩
    · rintro ⟨j, hj, hk, hv⟩
      rcases List.mem_cons.1 hj with rfl | hj
      · left; rw [if_pos hk, hv, Nat.testBit_two_pow_self]
      · exact Or.inr ⟨j, hj, hk, hv⟩
theorem orL_append (ts : List Term) : ∀ l r, orL ts (l ++ r) = orL ts l ||| orL ts r
  | [], r => by simp [orL]
  | i :: l, r => by
    show _ ||| orL ts (l ++ r) = (_ ||| orL ts l) ||| orL ts r
    rw [orL_append ts l r, Nat.or_assoc]
theorem Needs.vr_eq {ts : List Term} (hG : Good ts) {n : Nat} (hn : n < ts.length) {l : List Nat} (h : Needs ts n l) : orL ts l = vr ts n := by
  refine Nat.eq_of_testBit_eq fun r => ?_
  rw [Bool.eq_iff_iff, orL_test, vr_reach hG n hn r]
  constructor
  · rintro ⟨i, hi, hk, hv⟩
    have hi2 := h.lt hG hn hi
    refine ⟨i, (h.mem i).1 hi, ?_⟩
    rcases hG.at_ hi2 default with ⟨v, _, e⟩ | ⟨q, _, _, e⟩ | ⟨o, a, b, _, _, _, e⟩ <;> rw [e] at hk hv
    · cases hk
    · rw [e]; rw [show q = r from hv]
    · cases hk
  · rintro ⟨i, hi, e⟩
    exact ⟨i, (h.mem i).2 hi, by rw [e]; rfl, by rw [e]; rfl⟩
end Go.Proofs.YtaiggfknighhgaaGreatDoor
set_option linter.unusedVariables false
set_option linter.unusedSimpArgs false
namespace Go.Proofs.YtaiggfknighhgaaGreatDoor

abbrev dw (op a b : Nat) : Nat := (doW op a b).getD 0
theorem sg_us {y : Int} (h1 : -2147483648 ≤ y) (h2 : y < 2147483648) : sg (us y) = y := by
  unfold sg us
  split <;> omega
theorem us_sg {a : Nat} (ha : a < 4294967296) : us (sg a) = a := by
  unfold sg us
  split <;> omega
theorem sg_bounds {a : Nat} (ha : a < 4294967296) : -2147483648 ≤ sg a ∧ sg a < 2147483648 := by
  unfold sg
  split <;> omega
theorem us_mod (x : Int) : us x = us (x % 4294967296) := by unfold us; omega
theorem us_nat {a : Nat} (ha : a < 4294967296) : us (a : Int) = a := by unfold us; omega
theorem us_cong {x y : Int} (h : x % 4294967296 = y % 4294967296) : us x = us y := by unfold us; rw [h]
theorem and_ones {a : Nat} (ha : a < 4294967296) : a &&& 4294967295 = a := by
  rw [show (4294967295 : Nat) = 2 ^ 32 - 1 from rfl, Nat.and_two_pow_sub_one_eq_mod]
  exact Nat.mod_eq_of_lt ha
theorem or_ones {a : Nat} (ha : a < 4294967296) : a ||| 4294967295 = 4294967295 := by
  refine Nat.eq_of_testBit_eq fun i => ?_
  rw [Nat.testBit_or, show (4294967295 : Nat) = 2 ^ 32 - 1 from rfl, Nat.testBit_two_pow_sub_one]
  by_cases h : i < 32
  · simp [h]
  · have : a.testBit i = false := Nat.testBit_lt_two_pow (Nat.lt_of_lt_of_le ha (by have := Nat.pow_le_pow_right (n := 2) (by omega) (by omega : 32 ≤ i); omega))
    simp [h, this]
/-- Turned round. -/
theorem dw_turns {op : Nat} (h : turns op = true) (a b : Nat) : dw op a b = dw op b a := by
  simp only [turns, decide_eq_true_eq] at h
  rcases h with rfl | rfl | rfl | rfl | rfl | rfl | rfl <;> simp only [dw, doW, Option.getD_some]
  · rw [Nat.add_comm]
  · rw [Nat.and_comm]
  · rw [Nat.or_comm]
  · rw [Nat.xor_comm]
  · rw [Nat.mul_comm]
  · rw [Int.mul_comm]
  · rw [Nat.mul_comm]
theorem dw_sub {a v : Nat} (ha : a < 4294967296) (hv : v < 4294967296) : dw 27 a (us (-(v : Int))) = dw 28 a v := by
  show (a + us (-(v : Int))) % 4294967296 = us ((a : Int) - v)
  unfold us
  omega
/-- By a word that leaves it as it is. -/
theorem dw_same {op a v : Nat} (ha : a < 4294967296) (h : (v = 0 ∧ (op = 27 ∨ op = 35 ∨ op = 32)) ∨ (v = 1 ∧ (op = 37 ∨ op = 41 ∨ op = 42)) ∨ (v = 4294967295 ∧ op = 36)) : dw op a v = a := by
  rcases h with ⟨rfl, rfl | rfl | rfl⟩ | ⟨rfl, rfl | rfl | rfl⟩ | ⟨rfl, rfl⟩ <;> simp only [dw, doW, Option.getD_some]
  · omega
  · simp
  · simp
  · omega
  · rw [if_neg (by omega), if_neg (by omega), show sg 1 = 1 from rfl, Int.tdiv_one]
    exact us_sg ha
  · simp
  · exact and_ones ha
theorem dw_zero {op a v : Nat} (h : (v = 0 ∧ (op = 36 ∨ op = 37 ∨ op = 31)) ∨ (v = 1 ∧ (op = 43 ∨ op = 44))) : dw op a v = 0 := by
  rcases h with ⟨rfl, rfl | rfl | rfl⟩ | ⟨rfl, rfl | rfl⟩ <;> simp only [dw, doW, Option.getD_some]
  · simp
  · simp
  · simp
  · rw [if_neg (by omega), if_neg (by omega), show sg 1 = 1 from rfl, Int.tmod_one]
    rfl
  · rw [if_neg (by omega)]; omega
theorem shift_cases {op : Nat} (h : isShift op = true) : op = 29 ∨ op = 33 ∨ op = 34 := by simpa [isShift] using h
theorem dw_sh0 {op a v : Nat} (ha : a < 4294967296) (h : isShift op = true) (hv : v % 32 = 0) : dw op a v = a := by
  rcases shift_cases h with rfl | rfl | rfl <;> simp only [dw, doW, Option.getD_some, hv, Nat.pow_zero, Int.pow_zero]
  · omega
  · simp
  · rw [Int.ediv_one]; exact us_sg ha
theorem dw_shm {op a v : Nat} (h : isShift op = true) : dw op a (v % 32) = dw op a v := by
  rcases shift_cases h with rfl | rfl | rfl <;> simp only [dw, doW, Option.getD_some, Nat.mod_mod]
theorem pow_parts {v : Nat} (hv : v < 4294967296) (h : isPow v = true) : v = 2 ^ lg v ∧ 1 ≤ lg v ∧ lg v < 32 ∧ 1 < v := by
  simp only [isPow, decide_eq_true_eq] at h
  have := lg_lt hv h.2
  exact ⟨h.1, this.1, this.2, h.2⟩
theorem dw_mul_pow {a v : Nat} (hv : v < 4294967296) (h : isPow v = true) : dw 29 a (lg v) = dw 37 a v := by
  obtain ⟨e, h1, h2, _⟩ := pow_parts hv h
  show a * 2 ^ (lg v % 32) % 4294967296 = a * v % 4294967296
  rw [Nat.mod_eq_of_lt h2, ← e]
theorem dw_div_pow {a v : Nat} (hv : v < 4294967296) (h : isPow v = true) : dw 33 a (lg v) = dw 42 a v := by
  obtain ⟨e, h1, h2, h3⟩ := pow_parts hv h
  show a / 2 ^ (lg v % 32) = if v = 0 then 4294967295 else a / v
  rw [Nat.mod_eq_of_lt h2, ← e, if_neg (by omega)]
theorem dw_rem_pow {a v : Nat} (hv : v < 4294967296) (h : isPow v = true) : dw 36 a (v - 1) = dw 44 a v := by
  obtain ⟨e, h1, h2, h3⟩ := pow_parts hv h
  show a &&& (v - 1) = if v = 0 then a else a % v
  rw [if_neg (by omega)]
  conv => lhs; rw [e]
  rw [Nat.and_two_pow_sub_one_eq_mod, ← e]
/-- Two words put together. -/
theorem dw_assoc {op : Nat} (h : op = 27 ∨ op = 36 ∨ op = 35 ∨ op = 32) (a w v : Nat) : dw op (dw op a w) v = dw op a (dw op w v) := by
  rcases h with rfl | rfl | rfl | rfl <;> simp only [dw, doW, Option.getD_some]
  · omega
  · rw [Nat.and_assoc]
  · rw [Nat.or_assoc]
  · rw [Nat.xor_assoc]
theorem two_pow_pos' (n : Nat) : (0 : Int) < 2 ^ n := Int.pow_pos (by omega)
theorem sar_bounds {a : Nat} (ha : a < 4294967296) (n : Nat) : -2147483648 ≤ sg a / 2 ^ n ∧ sg a / 2 ^ n < 2147483648 := by
  obtain ⟨h1, h2⟩ := sg_bounds ha
  have hp := two_pow_pos' n
  have hp1 : (1 : Int) ≤ 2 ^ n := hp
  constructor
  · rw [Int.le_ediv_iff_mul_le hp]
    have : (2147483648 : Int) * 1 ≤ 2147483648 * 2 ^ n := Int.mul_le_mul_of_nonneg_left hp1 (by omega)
    omega
  · rw [Int.ediv_lt_iff_lt_mul hp]
    have : (2147483648 : Int) * 1 ≤ 2147483648 * 2 ^ n := Int.mul_le_mul_of_nonneg_left hp1 (by omega)
    omega
theorem sar_sar {a : Nat} (ha : a < 4294967296) (w v : Nat) : us (sg (us (sg a / 2 ^ w)) / 2 ^ v) = us (sg a / 2 ^ (w + v)) := by
  obtain ⟨h1, h2⟩ := sar_bounds ha w
  have hp := two_pow_pos' w
  rw [sg_us h1 h2, Int.ediv_ediv, if_neg (by rintro ⟨h, _⟩; omega), Int.sub_zero, ← Int.pow_add]
theorem sar_far {a : Nat} (ha : a < 4294967296) {n : Nat} (hn : 31 ≤ n) : sg a / 2 ^ n = sg a / 2 ^ 31 := by
  obtain ⟨h1, h2⟩ := sg_bounds ha
  have hp : (2 : Int) ^ 31 ≤ 2 ^ n := by
    have := Nat.pow_le_pow_right (n := 2) (by omega) hn
    exact_mod_cast this
  have e31 : (2 : Int) ^ 31 = 2147483648 := by decide
  rw [e31] at hp ⊢
  generalize (2 : Int) ^ n = q at hp
  rcases Int.lt_or_le (sg a) 0 with h | h
  · rw [show sg a / q = -1 from ?_, show sg a / 2147483648 = -1 by omega]
    rw [Int.ediv_eq_iff_of_pos (by omega)]
    constructor <;> omega
  · rw [Int.ediv_eq_zero_of_lt h (by omega), Int.ediv_eq_zero_of_lt h h2]
theorem dw_shsh {op a w v : Nat} (ha : a < 4294967296) (h : isShift op = true) (hw : w < 32) (hv : v < 32) (hs : w + v < 32) : dw op (dw op a w) v = dw op a (w + v) := by
  rcases shift_cases h with rfl | rfl | rfl <;> simp only [dw, doW, Option.getD_some, Nat.mod_eq_of_lt hw, Nat.mod_eq_of_lt hv, Nat.mod_eq_of_lt hs]
  · rw [Nat.pow_add, ← Nat.mul_assoc, Nat.mod_mul_mod]
  · rw [Nat.pow_add, Nat.div_div_eq_div_mul]
  · exact sar_sar ha w v
theorem dw_sar31 {a w v : Nat} (ha : a < 4294967296) (hw : w < 32) (hv : v < 32) (hs : ¬ w + v < 32) : dw 34 (dw 34 a w) v = dw 34 a 31 := by
  simp only [dw, doW, Option.getD_some, Nat.mod_eq_of_lt hw, Nat.mod_eq_of_lt hv]
  rw [sar_sar ha w v, sar_far ha (by omega)]
theorem dw_sh_none {op a w v : Nat} (ha : a < 4294967296) (h : isShift op = true) (h34 : op ≠ 34) (hw : w < 32) (hv : v < 32) (hs : ¬ w + v < 32) : dw op (dw op a w) v = 0 := by
  have hp : (4294967296 : Nat) ∣ 2 ^ (w + v) := ⟨2 ^ (w + v - 32), by rw [show (4294967296 : Nat) = 2 ^ 32 from rfl, ← Nat.pow_add]; congr 1; omega⟩
  rcases shift_cases h with rfl | rfl | rfl
  · simp only [dw, doW, Option.getD_some, Nat.mod_eq_of_lt hw, Nat.mod_eq_of_lt hv]
    rw [Nat.mod_mul_mod, Nat.mul_assoc, ← Nat.pow_add]
    exact Nat.mod_eq_zero_of_dvd (Nat.dvd_mul_left_of_dvd hp a)
  · simp only [dw, doW, Option.getD_some, Nat.mod_eq_of_lt hw, Nat.mod_eq_of_lt hv]
    rw [Nat.div_div_eq_div_mul, ← Nat.pow_add]
    refine Nat.div_eq_of_lt (Nat.lt_of_lt_of_le ha ?_)
    exact Nat.le_of_dvd (Nat.two_pow_pos _) hp
  · exact absurd rfl h34
theorem dw_twice0 {op a : Nat} (h : op = 28 ∨ op = 32 ∨ op = 30 ∨ op = 31) : dw op a a = 0 := by
  rcases h with rfl | rfl | rfl | rfl <;> simp only [dw, doW, Option.getD_some]
  · rw [Int.sub_self]; rfl
  · simp
  · simp
  · simp
theorem dw_twice1 {op a : Nat} (h : op = 36 ∨ op = 35) : dw op a a = a := by
  rcases h with rfl | rfl <;> simp only [dw, doW, Option.getD_some]
  · simp
  · simp
theorem dw_twice2 (a : Nat) : dw 29 a 1 = dw 27 a a := by
  show a * 2 ^ (1 % 32) % 4294967296 = (a + a) % 4294967296
  rw [show 2 ^ (1 % 32) = 2 from rfl, Nat.mul_two]
/-- What a reckoning of two terms comes to, and the registers that it needs: of whatever comes of it. -/
structure Mean (ts : List Term) (x : Nat → Nat) (op a b : Nat) (ts' : List Term) (n : Nat) : Prop where mk_ ::
  ev_ : ev ts' x n = dw op (ev ts x a) (ev ts x b)
  vr_ : ∀ r, (vr ts' n).testBit r = true → (vr ts a).testBit r = true ∨ (vr ts b).testBit r = true
structure MeanGo (ts : List Term) (x : Nat → Nat) (op a b : Nat) (ts' : List Term) (op' a' b' : Nat) : Prop where mk_ ::
  ev_ : dw op' (ev ts' x a') (ev ts' x b') = dw op (ev ts x a) (ev ts x b)
  va_ : ∀ r, (vr ts' a').testBit r = true → (vr ts a).testBit r = true ∨ (vr ts b).testBit r = true
  vb_ : ∀ r, (vr ts' b').testBit r = true → (vr ts a).testBit r = true ∨ (vr ts b).testBit r = true
def Nx.mean (ts : List Term) (x : Nat → Nat) (op a b : Nat) : Nx → Prop
  | .done ts' n => Mean ts x op a b ts' n
  | .go ts' op' a' b' => MeanGo ts x op a b ts' op' a' b'
theorem ev_ins_const (ts : List Term) (x : Nat → Nat) (w : Nat) : ev (ins ts (constT w)) x (pos ts (constT w)) = w := ev_const (pos_lt _ _) (ins_getD _ _ _)
theorem vr_ins_const (ts : List Term) (w : Nat) : vr (ins ts (constT w)) (pos ts (constT w)) = 0 := vr_const (pos_lt _ _) (ins_getD _ _ _)
theorem no_bit {r : Nat} {p : Prop} (h : (0 : Nat).testBit r = true) : p := by simp at h
theorem mean_cst {ts : List Term} {x : Nat → Nat} {op a b w : Nat} (h : w = dw op (ev ts x a) (ev ts x b)) : (cst ts w).mean ts x op a b :=
  ⟨(ev_ins_const ts x w).trans h, fun r hr => by rw [vr_ins_const] at hr; exact no_bit hr⟩
theorem mean_goes {ts : List Term} {x : Nat → Nat} {op a b op' a' w : Nat} (ha' : a' < ts.length) (h : dw op' (ev ts x a') w = dw op (ev ts x a) (ev ts x b)) (hv : ∀ r, (vr ts a').testBit r = true → (vr ts a).testBit r = true ∨ (vr ts b).testBit r = true) : (goesN ts op' a' w).mean ts x op a b :=
  ⟨by rw [ev_ins_const, ev_ext (ext_ins ts _) ha']; exact h, fun r hr => by rw [vr_ext (ext_ins ts _) ha'] at hr; exact hv r hr, fun r hr => by rw [vr_ins_const] at hr; exact no_bit hr⟩
theorem ev_isC {ts : List Term} (h : Good ts) {x : Nat → Nat} {i : Nat} (hi : i < ts.length) (hc : isC ts i = true) : ev ts x i = wd ts i := ev_const hi (h.isC_eq hi hc)
theorem byN_mean {ts : List Term} {x : Nat → Nat} (hx : ∀ r, x r < 4294967296) {op a b : Nat} (h : Good ts) (ho : (doW op 0 0).isSome = true) (ha : a < ts.length) (hb : b < ts.length) (hcb : isC ts b = true) :
    ∀ r, byN ts op a b (wd ts b) = some r → r.mean ts x op a b := by
  have hv := h.wd_lt hb
  have eb := ev_isC h (x := x) hb hcb
  have el := ev_lt h hx a ha
  generalize wd ts b = v at hv eb
  intro r hr
  unfold byN at hr
  rcases ite_some hr with ⟨hq, rfl⟩ | ⟨hk, hr⟩
  · exact ⟨by rw [eb]; exact (dw_same el hq).symm, fun r hr => Or.inl hr⟩
  rcases ite_some hr with ⟨hq, rfl⟩ | ⟨hk, hr⟩
  · exact mean_cst (by rw [eb]; exact (dw_zero hq).symm)
  rcases ite_some hr with ⟨hq, rfl⟩ | ⟨hk, hr⟩
  · obtain ⟨rfl, rfl⟩ := hq
    exact ⟨by rw [eb]; exact (or_ones el).symm, fun r hr => Or.inr hr⟩
  rcases ite_some hr with ⟨hq, rfl⟩ | ⟨hk, hr⟩
  · exact ⟨by rw [eb]; exact (dw_sh0 el hq.1 hq.2).symm, fun r hr => Or.inl hr⟩
  rcases ite_some hr with ⟨hq, rfl⟩ | ⟨hk32, hr⟩
  · exact mean_goes ha (by rw [eb]; exact dw_shm hq.1) fun r hr => Or.inl hr
  rcases ite_some hr with ⟨hq, rfl⟩ | ⟨hk, hr⟩
  · obtain ⟨hq, rfl⟩ := hq
    exact mean_goes ha (by rw [eb]; exact dw_mul_pow hv hq) fun r hr => Or.inl hr
  rcases ite_some hr with ⟨hq, rfl⟩ | ⟨hk, hr⟩
  · obtain ⟨hq, rfl⟩ := hq
    exact mean_goes ha (by rw [eb]; exact dw_div_pow hv hq) fun r hr => Or.inl hr
  rcases ite_some hr with ⟨hq, rfl⟩ | ⟨hk, hr⟩
  · obtain ⟨hq, rfl⟩ := hq
    exact mean_goes ha (by rw [eb]; exact dw_rem_pow hv hq) fun r hr => Or.inl hr
  obtain ⟨hk, hr⟩ := ite_none hr
  have hk2 : (ts.getD a default).k = 2 := Classical.byContradiction fun hn => hk (Or.inl hn)
  have hko : (ts.getD a default).op = op := Classical.byContradiction fun hn => hk (Or.inr hn)
  obtain ⟨g1, g2, g3, g4⟩ := h.op_at ha hk2
  have hta : (ts.getD a default).a < ts.length := by omega
  have htb : (ts.getD a default).b < ts.length := by omega
  have eva := ev_op (x := x) ha g4 g2 g3
  have vra := vr_op ha g4 g2 g3
  rw [hko] at eva
  have eta := ev_lt h hx _ hta
  have hvb := h.wd_lt htb
  have hva : ∀ r, (vr ts (ts.getD a default).a).testBit r = true → (vr ts a).testBit r = true ∨ (vr ts b).testBit r = true := fun r hr => Or.inl (by rw [vra, Nat.testBit_or, hr]; rfl)
  obtain ⟨hcw, hr⟩ := ite_none hr
  have hcw' : isC ts (ts.getD a default).b = true := by cases e : isC ts (ts.getD a default).b with | true => rfl | false => exact absurd e hcw
  rw [ev_isC h htb hcw'] at eva
  generalize wd ts (ts.getD a default).b = w at eva hvb hr
  rcases ite_some hr with ⟨hq, rfl⟩ | ⟨hk, hr⟩
  · exact mean_goes hta (by rw [eb, eva]; exact (dw_assoc hq _ _ _).symm) hva
  obtain ⟨hk, hr⟩ := ite_none hr
  have hs : isShift op = true := by cases e : isShift op with | true => rfl | false => exact absurd (Or.inl e) hk
  have w1 : ¬ w < 1 := fun e => hk (Or.inr (Or.inl e))
  have w2 : w < 32 := Nat.lt_of_not_le fun e => hk (Or.inr (Or.inr e))
  have v2 : v < 32 := Nat.lt_of_not_le fun e => hk32 ⟨hs, e⟩
  rcases ite_some hr with ⟨hq, rfl⟩ | ⟨hwv, hr⟩
  · exact mean_goes hta (by rw [eb, eva]; exact (dw_shsh eta hs w2 v2 hq).symm) hva
  rcases ite_some hr with ⟨hq, rfl⟩ | ⟨hk34, hr⟩
  · subst hq
    exact mean_goes hta (by rw [eb, eva]; exact (dw_sar31 eta w2 v2 hwv).symm) hva
  · injection hr with hr; subst hr
    exact mean_cst (by rw [eb, eva]; exact (dw_sh_none eta hs hk34 w2 v2 hwv).symm)
theorem next_mean {ts : List Term} {x : Nat → Nat} (hx : ∀ r, x r < 4294967296) {op a b : Nat} (h : Good ts) (ho : (doW op 0 0).isSome = true) (ha : a < ts.length) (hb : b < ts.length) : (next ts op a b).mean ts x op a b := by
  have la := ev_lt h hx a ha
  have lb := ev_lt h hx b hb
  unfold next
  split
  · rename_i hc
    exact mean_cst (by rw [ev_isC h ha hc.1, ev_isC h hb hc.2])
  split
  · rename_i hq
    exact ⟨dw_turns hq.1 _ _, fun r hr => Or.inr hr, fun r hr => Or.inl hr⟩
  split
  · rename_i hq
    obtain ⟨rfl, hc⟩ := hq
    refine mean_goes ha ?_ fun r hr => Or.inl hr
    rw [ev_isC h hb hc]
    exact dw_sub la (h.wd_lt hb)
  split
  · rename_i r hr
    split at hr
    · rename_i hcb
      exact byN_mean hx h ho ha hb hcb r hr
    · cases hr
  · split
    · rename_i r hr
      split at hr
      · rename_i hab
        subst hab
        unfold twiceN at hr
        rcases ite_some hr with ⟨hq, rfl⟩ | ⟨hk, hr⟩
        · exact mean_cst (dw_twice0 hq).symm
        rcases ite_some hr with ⟨hq, rfl⟩ | ⟨hk, hr⟩
        · exact ⟨(dw_twice1 hq).symm, fun r hr => Or.inl hr⟩
        rcases ite_some hr with ⟨hq, rfl⟩ | ⟨hk, hr⟩
        · subst hq
          exact mean_goes ha (dw_twice2 _) fun r hr => Or.inl hr
        · cases hr
      · cases hr
    · have ea := ext_ins ts (opT op a b)
      have hp := pos_lt ts (opT op a b)
      have hg : (ins ts (opT op a b)).getD (pos ts (opT op a b)) default = opT op a b := ins_getD _ _ _
      have hlt := ((h.op ho ha hb).op_at hp (by rw [hg]; rfl)).2
      rw [hg] at hlt
      refine ⟨?_, fun r hr => ?_⟩
      · rw [ev_op hp hg hlt.1 hlt.2.1, ev_ext ea ha, ev_ext ea hb]
      · rw [vr_op hp hg hlt.1 hlt.2.1, vr_ext ea ha, vr_ext ea hb, Nat.testBit_or, Bool.or_eq_true] at hr
        exact hr
theorem madeF_mean {x : Nat → Nat} (hx : ∀ r, x r < 4294967296) : ∀ (f : Nat) (ts : List Term) (op a b : Nat), Good ts → (doW op 0 0).isSome = true → a < ts.length → b < ts.length → mz ts op a b < f → Mean ts x op a b (madeF f ts op a b).1 (madeF f ts op a b).2
  | 0, _, _, _, _, _, _, _, _, h => by omega
  | f + 1, ts, op, a, b, h, ho, ha, hb, hf => by
    have hn := next_ok h ho ha hb
    have hm := next_mean hx h ho ha hb
    unfold madeF
    revert hn hm
    cases next ts op a b with
    | done ts' n => exact fun _ hm => hm
    | go ts' op' a' b' =>
      intro hn hm
      have q : Mean ts' x op' a' b' (madeF f ts' op' a' b').1 (madeF f ts' op' a' b').2 := madeF_mean hx f ts' op' a' b' hn.good hn.ok hn.ina hn.inb (by have := hn.less; omega)
      refine ⟨q.ev_.trans hm.ev_, fun r hr => ?_⟩
      rcases q.vr_ r hr with hr | hr
      · exact hm.va_ r hr
      · exact hm.vb_ r hr
/-- THE STAGE's THEOREM, for a reckoning. -/
theorem made_mean {ts : List Term} {x : Nat → Nat} (hx : ∀ r, x r < 4294967296) {op a b : Nat} (h : Good ts) (ho : (doW op 0 0).isSome = true) (ha : a < ts.length) (hb : b < ts.length) : Mean ts x op a b (made ts op a b).1 (made ts op a b).2 :=
  madeF_mean hx _ ts op a b h ho ha hb (by have := mz_le (op := op) (b := b) ha; omega)
/-- What was made of some terms comes to what they do. -/
structure DnMean (ts0 : List Term) (x : Nat → Nat) (ts : List Term) (n m : Nat) : Prop where mk_ ::
  ev_ : ev ts x m = ev ts0 x n
  vr_ : ∀ r, (vr ts m).testBit r = true → (vr ts0 n).testBit r = true
theorem DnMean.ext {ts0 ts ts' : List Term} {x : Nat → Nat} {n m : Nat} (h : DnMean ts0 x ts n m) (he : Ext ts ts') (hm : m < ts.length) : DnMean ts0 x ts' n m :=
  ⟨by rw [ev_ext he hm]; exact h.ev_, fun r hr => by rw [vr_ext he hm] at hr; exact h.vr_ r hr⟩
theorem allF_mean {x : Nat → Nat} (hx : ∀ r, x r < 4294967296) (ts0 : List Term) (hG0 : Good ts0) : ∀ (f : Nat) (ts : List Term) (dn : Dn) (n : Nat), Good ts → Ext ts0 ts → DnOk ts0 ts dn → (∀ i q, dn i = some q → DnMean ts0 x ts i q) → n < ts0.length → n < f →
    DnMean ts0 x (allF f ts dn n).1 n (allF f ts dn n).2.2 ∧ ∀ i q, (allF f ts dn n).2.1 i = some q → DnMean ts0 x (allF f ts dn n).1 i q
  | 0, _, _, _, _, _, _, _, _, h => by omega
  | f + 1, ts, dn, n, hG, hE, hD, hM, hn, hf => by
    have hnl := Nat.lt_of_lt_of_le hn hE.len
    unfold allF
    cases hd : dn n with
    | some q => exact ⟨hM n q hd, hM⟩
    | none =>
      dsimp only
      have upd : ∀ (us : List Term) (d : Dn) (m : Nat), (∀ i q, d i = some q → DnMean ts0 x us i q) → DnMean ts0 x us n m → DnMean ts0 x us n m ∧ ∀ i q, updD d n m i = some q → DnMean ts0 x us i q := fun us d m hd hm => ⟨hm, fun i q hi => by
        unfold updD at hi
        split at hi
        · rename_i e
          injection hi with hi
          rw [e, ← hi]
          exact hm
        · exact hd i q hi⟩
      by_cases hk : (ts.getD n default).k = 2
      · rw [if_pos hk]
        rw [hE.getD hn] at hk ⊢
        obtain ⟨ho, ha, hb, he⟩ := hG0.op_at hn hk
        have oka := allF_ok ts0 hG0 f ts dn _ hG hE hD (by omega) (by omega : (ts0.getD n default).a < f)
        obtain ⟨ma, mda⟩ := allF_mean hx ts0 hG0 f ts dn _ hG hE hD hM (by omega) (by omega : (ts0.getD n default).a < f)
        have okb := allF_ok ts0 hG0 f _ _ _ oka.good (hE.trans oka.ext) oka.dn (by omega) (by omega : (ts0.getD n default).b < f)
        obtain ⟨mb, mdb⟩ := allF_mean hx ts0 hG0 f _ _ _ oka.good (hE.trans oka.ext) oka.dn mda (by omega) (by omega : (ts0.getD n default).b < f)
        generalize allF f ts dn (ts0.getD n default).a = R1 at *
        generalize allF f R1.1 R1.2.1 (ts0.getD n default).b = R2 at *
        have hxa := Nat.lt_of_lt_of_le oka.num okb.ext.len
        have hmm := made_mean hx okb.good ho hxa okb.num
        obtain ⟨k1, k2, k3⟩ := made_ok okb.good ho hxa okb.num
        have ma2 := ma.ext okb.ext oka.num
        refine upd _ _ _ (fun i q hi => (mdb i q hi).ext k3 (okb.dn i q hi).2.1) ⟨?_, fun r hr => ?_⟩
        · rw [hmm.ev_, ma2.ev_, mb.ev_, ev_op hn he ha hb]
        · rw [vr_op hn he ha hb, Nat.testBit_or, Bool.or_eq_true]
          rcases hmm.vr_ r hr with hr | hr
          · exact Or.inl (ma2.vr_ r hr)
          · exact Or.inr (mb.vr_ r hr)
      · rw [if_neg hk]
        exact upd _ _ _ hM ⟨ev_ext hE hn, fun r hr => by rw [vr_ext hE hn] at hr; exact hr⟩
/-- .. and for a term made simple from within. -/
theorem allT_mean {ts : List Term} {x : Nat → Nat} (hx : ∀ r, x r < 4294967296) {n : Nat} (hG : Good ts) (hn : n < ts.length) : ev (allT ts n).1 x (allT ts n).2 = ev ts x n ∧ ∀ r, (vr (allT ts n).1 (allT ts n).2).testBit r = true → (vr ts n).testBit r = true := by
  have h := (allF_mean hx ts hG (n + 1) ts dn0 n hG (Ext.refl _) (dn0_ok ts ts) (fun i q hi => by cases hi) hn (by omega)).1
  exact ⟨h.ev_, h.vr_⟩
end Go.Proofs.YtaiggfknighhgaaGreatDoor
set_option linter.unusedVariables false
set_option linter.unusedSimpArgs false
namespace Go.Proofs.YtaiggfknighhgaaGreatDoor

def varTm' (r : Nat) : Term := if r = 0 then constT 0 else varT r
/-- The registers' terms, the first n ones. -/
def startT (ts : List Term) : Nat → List Term × (Nat → Nat)
  | 0 => (ts, fun _ => 0)
  | n + 1 => (ins (startT ts n).1 (varTm' n), fun r => if r = n then pos (startT ts n).1 (varTm' n) else (startT ts n).2 r)
theorem Good.varTm {ts : List Term} (h : Good ts) {r : Nat} (hr : r < 32) : Good (Go.Proofs.YtaiggfknighhgaaGreatDoor.ins ts (varTm' r)) := by
  unfold varTm'
  split
  · exact h.const (by omega)
  · exact h.var (by omega) hr
theorem startT_ext (ts : List Term) : ∀ n, Ext ts (startT ts n).1
  | 0 => Ext.refl _
  | n + 1 => (startT_ext ts n).trans (ext_ins _ _)
theorem startT_good {ts : List Term} (h : Good ts) : ∀ n, n ≤ 32 → Good (startT ts n).1
  | 0, _ => h
  | n + 1, hn => (startT_good h n (by omega)).varTm (r := n) (by omega)
theorem startT_at (ts : List Term) : ∀ n r, r < n → (startT ts n).2 r < (startT ts n).1.length ∧ (startT ts n).1.getD ((startT ts n).2 r) default = varTm' r
  | 0, r, h => by omega
  | n + 1, r, h => by
    show (if r = n then _ else _) < _ ∧ _
    by_cases hr : r = n
    · subst hr
      have e : (startT ts (r + 1)).2 r = pos (startT ts r).1 (varTm' r) := if_pos rfl
      rw [if_pos rfl, e]
      exact ⟨pos_lt _ _, ins_getD _ _ _⟩
    · have e : (startT ts (n + 1)).2 r = (startT ts n).2 r := if_neg hr
      obtain ⟨h1, h2⟩ := startT_at ts n r (by omega)
      have he := ext_ins (startT ts n).1 (varTm' n)
      rw [if_neg hr, e]
      exact ⟨Nat.lt_of_lt_of_le h1 he.len, (he.getD h1 _).trans h2⟩
theorem startT_in (ts : List Term) : InT (startT ts 32).1 (startT ts 32).2 := fun r hr => (startT_at ts 32 r hr).1
def zero1 (g : Nat → Nat) : Nat → Nat := fun r => if r = 0 then 0 else g r
theorem startT_mean (ts : List Term) (g : Nat → Nat) {r : Nat} (hr : r < 32) : ev (startT ts 32).1 g ((startT ts 32).2 r) = zero1 g r := by
  obtain ⟨h1, h2⟩ := startT_at ts 32 r hr
  unfold varTm' at h2
  unfold zero1
  by_cases h0 : r = 0
  · rw [if_pos h0] at h2 ⊢
    exact ev_const h1 h2
  · rw [if_neg h0] at h2 ⊢
    exact ev_var h1 h2
/-- What an instruction reckons. -/
def valI (g : Nat → Nat) (i : Ins) (pc : Nat) : Nat :=
  if i.op = 0 then up i.imm else if i.op = 1 then (up i.imm + pc) % 4294967296
  else match immOp i.op with
    | some o => (doW o (g i.rs1.toNat) (us i.imm)).getD 0
    | none => (doW i.op.toNat (g i.rs1.toNat) (g i.rs2.toNat)).getD 0
/-- The registers behind instructions. -/
def runI : (Nat → Nat) → List Ins → Nat → (Nat → Nat)
  | g, [], _ => g
  | g, i :: l, pc => runI (setR g i.rd (valI g i pc)) l ((pc + 4) % 4294967296)
theorem oneT_mean {ts : List Term} {x g e : Nat → Nat} {i : Ins} {pc : Nat} (he : ∀ r, e r < 4294967296) (hG : Good ts) (hx : InT ts x) (hi : plainI i = true) (hg : ∀ r, r < 32 → ev ts e (x r) = g r) :
    ev (oneT ts x i pc).1 e (oneT ts x i pc).2 = valI g i pc := by
  have hr : rightI i = true := by unfold plainI at hi; rw [Bool.and_eq_true] at hi; exact hi.1
  obtain ⟨_, h1, h2⟩ := rightI_regs hr
  unfold oneT valI
  rcases plainI_kind hi with h | h | ⟨o, ho, hd, h0, h1'⟩ | ⟨o, ho, hn, hd, h0, h1'⟩
  · rw [if_pos h, if_pos h]
    exact ev_const (pos_lt _ _) (ins_getD _ _ _)
  · rw [if_neg (by omega), if_pos h, if_neg (by omega), if_pos h]
    exact ev_const (pos_lt _ _) (ins_getD _ _ _)
  · rw [if_neg h0, if_neg h1', ho, if_neg h0, if_neg h1']
    have hE := ext_ins ts (constT (us i.imm))
    have ha : x i.rs1.toNat < ts.length := hx _ (by omega)
    have := (made_mean he (hG.const (us_lt i.imm)) hd (Nat.lt_of_lt_of_le ha hE.len) (pos_lt ts (constT (us i.imm)))).ev_
    rw [ev_ins_const, ev_ext hE ha, hg _ (by omega)] at this
    exact this
  · rw [if_neg h0, if_neg h1', hn, if_neg h0, if_neg h1', show i.op.toNat = o by omega]
    have := (made_mean he hG hd (hx i.rs1.toNat (by omega)) (hx i.rs2.toNat (by omega))).ev_
    rw [hg _ (by omega), hg _ (by omega)] at this
    exact this
theorem fromT_mean {e : Nat → Nat} (he : ∀ r, e r < 4294967296) : ∀ (l : List Ins) (ts : List Term) (x g : Nat → Nat) (pc : Nat), Good ts → InT ts x → (∀ i, i ∈ l → plainI i = true) → (∀ r, r < 32 → ev ts e (x r) = g r) →
    ∀ r, r < 32 → ev (fromT ts x l pc).1 e ((fromT ts x l pc).2 r) = runI g l pc r
  | [], ts, x, g, pc, hG, hx, _, hg, r, hr => hg r hr
  | i :: l, ts, x, g, pc, hG, hx, hl, hg, r, hr => by
    have hi := hl i List.mem_cons_self
    obtain ⟨h1, h2, h3⟩ := oneT_ok (pc := pc) hG hx hi
    have hm := oneT_mean (pc := pc) he hG hx hi hg
    refine fromT_mean he l _ _ _ _ h1 ((hx.ext h3).set h2 i.rd) (fun j hj => hl j (List.mem_cons_of_mem _ hj)) (fun q hq => ?_) r hr
    unfold setR
    split
    · rw [ev_ext h3 (hx q hq)]
      exact hg q hq
    · show ev _ _ (if q = _ then _ else _) = if q = _ then _ else _
      split
      · exact hm
      · rw [ev_ext h3 (hx q hq)]
        exact hg q hq
end Go.Proofs.YtaiggfknighhgaaGreatDoor
set_option linter.unusedVariables false
set_option linter.unusedSimpArgs false
namespace Go.Proofs.YtaiggfknighhgaaGreatDoor

theorem oneT_len {ts : List Term} {x : Nat → Nat} {i : Ins} {pc D : Nat} (hG : Good ts) (hx : InT ts x) (hi : plainI i = true) (hD : ∀ r, r < 32 → dp ts (x r) ≤ D) : (oneT ts x i pc).1.length ≤ ts.length + 8 * D + 11 ∧ dp (oneT ts x i pc).1 (oneT ts x i pc).2 ≤ D + 1 := by
  have hr : rightI i = true := by unfold plainI at hi; rw [Bool.and_eq_true] at hi; exact hi.1
  obtain ⟨_, h1, h2⟩ := rightI_regs hr
  unfold oneT
  rcases plainI_kind hi with h | h | ⟨o, ho, hd, h0, h1'⟩ | ⟨o, ho, hn, hd, h0, h1'⟩
  · rw [if_pos h]
    have := (ins_len ts (constT (up i.imm))).2
    exact ⟨by dsimp only; omega, by rw [dp_const]; omega⟩
  · rw [if_neg (by omega), if_pos h]
    generalize (up i.imm + pc) % 4294967296 = v
    have := (ins_len ts (constT v)).2
    exact ⟨by dsimp only; omega, by rw [dp_const]; omega⟩
  · rw [if_neg h0, if_neg h1', ho]
    have hE := ext_ins ts (constT (us i.imm))
    have ha : x i.rs1.toNat < ts.length := hx _ (by omega)
    have hl := (ins_len ts (constT (us i.imm))).2
    have hm := made_dp (hG.const (us_lt i.imm)) hd (Nat.lt_of_lt_of_le ha hE.len) (pos_lt ts (constT (us i.imm)))
    rw [dp_ext hE hG ha, dp_const] at hm
    have := hD i.rs1.toNat (by omega)
    dsimp only
    omega
  · rw [if_neg h0, if_neg h1', hn, show i.op.toNat = o by omega]
    have hm := made_dp hG hd (hx i.rs1.toNat (by omega)) (hx i.rs2.toNat (by omega))
    have := hD i.rs1.toNat (by omega)
    have := hD i.rs2.toNat (by omega)
    dsimp only
    omega
theorem fromT_len : ∀ (l : List Ins) (ts : List Term) (x : Nat → Nat) (pc D : Nat), Good ts → InT ts x → (∀ i, i ∈ l → plainI i = true) → (∀ r, r < 32 → dp ts (x r) ≤ D) → (fromT ts x l pc).1.length ≤ ts.length + l.length * (8 * (D + l.length) + 11)
  | [], ts, x, pc, D, hG, hx, hl, hD => by show ts.length ≤ _; omega
  | i :: l, ts, x, pc, D, hG, hx, hl, hD => by
    have hi := hl i List.mem_cons_self
    obtain ⟨h1, h2, h3⟩ := oneT_ok (pc := pc) hG hx hi
    obtain ⟨l1, l2⟩ := oneT_len (pc := pc) hG hx hi hD
    have := fromT_len l (oneT ts x i pc).1 (setR x i.rd (oneT ts x i pc).2) ((pc + 4) % 4294967296) (D + 1) h1 ((hx.ext h3).set h2 i.rd) (fun j hj => hl j (List.mem_cons_of_mem _ hj)) (fun r hr => by
      unfold setR
      split
      · rw [dp_ext h3 hG (hx r hr)]
        have := hD r hr
        omega
      · show dp _ (if r = _ then _ else _) ≤ _
        split
        · exact l2
        · rw [dp_ext h3 hG (hx r hr)]
          have := hD r hr
          omega)
    show (fromT _ _ l _).1.length ≤ _
    simp only [List.length_cons]
    rw [Nat.succ_mul, show D + (l.length + 1) = D + 1 + l.length by omega]
    generalize hc : 8 * (D + 1 + l.length) + 11 = c at this ⊢
    generalize l.length * c = q at this ⊢
    omega
theorem startT_dp (ts : List Term) {r : Nat} (hr : r < 32) : dp (startT ts 32).1 ((startT ts 32).2 r) = 0 := by
  obtain ⟨h1, h2⟩ := startT_at ts 32 r hr
  apply dp_leaf
  rw [h2]
  unfold varTm'
  split <;> simp [constT, varT]
theorem fromT_small {ts : List Term} {x : Nat → Nat} {pc : Nat} {l : List Ins} {D : Nat} (hG : Good ts) (hx : InT ts x) (hl : ∀ i, i ∈ l → plainI i = true) (hD : ∀ r, r < 32 → dp ts (x r) ≤ D) (h1 : D ≤ 10000) (h2 : l.length ≤ 100) (h3 : ts.length ≤ 100000) :
    ∀ j, j ≤ l.length → (fromT ts x (l.take j) pc).1.length < 100000000 := fun j hj => by
  have h := fromT_len (l.take j) ts x pc D hG hx (fun i hi => hl i (List.mem_of_mem_take hi)) hD
  have hjl : (l.take j).length = j := by rw [List.length_take, Nat.min_eq_left hj]
  rw [hjl] at h
  have : j * (8 * (D + j) + 11) ≤ 100 * (8 * (10000 + 100) + 11) := Nat.mul_le_mul (by omega) (by omega)
  omega
end Go.Proofs.YtaiggfknighhgaaGreatDoor
