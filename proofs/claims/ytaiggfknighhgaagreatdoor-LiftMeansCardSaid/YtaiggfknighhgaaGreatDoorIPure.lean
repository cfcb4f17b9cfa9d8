/- Instructions, and their terms: plain laws. -/
import Derived.Test.YtaiggfknighhgaaGreatDoorTPure
set_option linter.unusedVariables false
set_option linter.unusedSimpArgs false
namespace Go.Proofs.YtaiggfknighhgaaGreatDoor

structure Ins where
  op : Int
  rd : Int
  rs1 : Int
  rs2 : Int
  imm : Int
instance : Inhabited Ins := ⟨⟨0, 0, 0, 0, 0⟩⟩
def formL : List Nat := [85, 85, 74, 73, 66, 66, 66, 66, 66, 66, 73, 73, 73, 73, 73, 83, 83, 83, 73, 73, 73, 73, 73, 73, 72, 72, 72, 82, 82, 82, 82, 82, 82, 82, 82, 82, 82, 82, 82, 82, 82, 82, 82, 82, 82, 69, 69]
/-- An instruction's form, a letter; 0: there is none. -/
def formI (op : Int) : Nat := if op < 0 ∨ 47 ≤ op then 0 else formL.getD op.toNat 0
def rdB (f : Nat) : Bool := decide (f = 85 ∨ f = 74 ∨ f = 73 ∨ f = 72 ∨ f = 82)
def rs1B (f : Nat) : Bool := decide (f = 73 ∨ f = 72 ∨ f = 66 ∨ f = 83 ∨ f = 82)
def rs2B (f : Nat) : Bool := decide (f = 66 ∨ f = 83 ∨ f = 82)
def regB (is : Bool) (n : Int) : Bool := (is && (decide (0 ≤ n) && decide (n ≤ 31))) || decide (n = 0)
def numB (f : Nat) (n : Int) : Bool :=
  if f = 85 then decide (0 ≤ n ∧ n ≤ 1048575)
  else if f = 74 then decide (-1048576 ≤ n ∧ n ≤ 1048574 ∧ n % 2 = 0)
  else if f = 73 ∨ f = 83 then decide (-2048 ≤ n ∧ n ≤ 2047)
  else if f = 66 then decide (-4096 ≤ n ∧ n ≤ 4094 ∧ n % 2 = 0)
  else if f = 72 then decide (0 ≤ n ∧ n ≤ 31)
  else decide (n = 0)
/-- May an instruction be? -/
def rightI (x : Ins) : Bool := decide (formI x.op ≠ 0) && regB (rdB (formI x.op)) x.rd && regB (rs1B (formI x.op)) x.rs1 && regB (rs2B (formI x.op)) x.rs2 && numB (formI x.op) x.imm
/-- What a reckoning with a number is of one with two registers. -/
def immOp (op : Int) : Option Nat :=
  if op = 18 then some 27 else if op = 19 then some 30 else if op = 20 then some 31 else if op = 21 then some 32 else if op = 22 then some 35 else if op = 23 then some 36
  else if op = 24 then some 29 else if op = 25 then some 33 else if op = 26 then some 34 else none
/-- Can an instruction be lifted? -/
def plainI (x : Ins) : Bool := rightI x && ((immOp x.op).isSome || decide (x.op = 0) || decide (x.op = 1) || decide (formI x.op = 82))
theorem formI_82 {op : Int} (h : formI op = 82) : 27 ≤ op ∧ op ≤ 44 := by
  unfold formI at h
  split at h
  · cases h
  · rename_i hn
    obtain ⟨k, rfl⟩ : ∃ k : Nat, op = k := ⟨op.toNat, by omega⟩
    have hk : k < 47 := by omega
    have : ∀ k, k < 47 → formL.getD k 0 = 82 → 27 ≤ k ∧ k ≤ 44 := by decide
    have := this k hk h
    omega
theorem formI_range {op : Int} (h : 27 ≤ op ∧ op ≤ 44) : formI op = 82 := by
  obtain ⟨k, rfl⟩ : ∃ k : Nat, op = k := ⟨op.toNat, by omega⟩
  unfold formI
  rw [if_neg (by omega)]
  have : ∀ k, k < 45 → 27 ≤ k → formL.getD k 0 = 82 := by decide
  exact this k (by omega) (by omega)
theorem immOp_some {op : Int} {o : Nat} (h : immOp op = some o) : 18 ≤ op ∧ op ≤ 26 ∧ (doW o 0 0).isSome = true := by
  unfold immOp at h
  repeat' split at h
  all_goals first
    | (cases h; done)
    | (cases h; exact ⟨by omega, by omega, rfl⟩)
theorem immOp_none {op : Int} (h : ¬ (18 ≤ op ∧ op ≤ 26)) : immOp op = none := by
  unfold immOp
  repeat' rw [if_neg (by omega)]
theorem regB_in {b : Bool} {n : Int} (h : regB b n = true) : 0 ≤ n ∧ n ≤ 31 := by
  unfold regB at h
  simp only [Bool.or_eq_true, Bool.and_eq_true, decide_eq_true_eq] at h
  omega
theorem rightI_regs {x : Ins} (h : rightI x = true) : (0 ≤ x.rd ∧ x.rd ≤ 31) ∧ (0 ≤ x.rs1 ∧ x.rs1 ≤ 31) ∧ (0 ≤ x.rs2 ∧ x.rs2 ≤ 31) := by
  unfold rightI at h
  simp only [Bool.and_eq_true] at h
  exact ⟨regB_in h.1.1.1.2, regB_in h.1.1.2, regB_in h.1.2⟩
/-- What a lifted instruction is. -/
inductive Kind (x : Ins) : Prop where
  | lui : x.op = 0 → Kind x
  | auipc : x.op = 1 → Kind x
  | imm (o : Nat) : immOp x.op = some o → (doW o 0 0).isSome = true → x.op ≠ 0 → x.op ≠ 1 → Kind x
  | reg (o : Nat) : x.op = o → immOp x.op = none → (doW o 0 0).isSome = true → x.op ≠ 0 → x.op ≠ 1 → Kind x
theorem doW_range {k : Nat} (h : 27 ≤ k) (h2 : k ≤ 44) : (doW k 0 0).isSome = true := by
  have : ∀ k, k < 45 → 27 ≤ k → (doW k 0 0).isSome = true := by decide
  exact this k (by omega) h
theorem plainI_kind {x : Ins} (h : plainI x = true) : Kind x := by
  unfold plainI at h
  simp only [Bool.and_eq_true, Bool.or_eq_true, decide_eq_true_eq, Option.isSome_iff_exists] at h
  obtain ⟨_, ((⟨o, ho⟩ | h0) | h1) | hf⟩ := h
  · have := immOp_some ho
    exact .imm o ho this.2.2 (by omega) (by omega)
  · exact .lui h0
  · exact .auipc h1
  · have := formI_82 hf
    obtain ⟨k, hk⟩ : ∃ k : Nat, x.op = k := ⟨x.op.toNat, by omega⟩
    exact .reg k hk (immOp_none (by omega)) (doW_range (by omega) (by omega)) (by omega) (by omega)
def up (imm : Int) : Nat := us imm * 4096 % 4294967296
theorem up_lt (imm : Int) : up imm < 4294967296 := Nat.mod_lt _ (by omega)
/-- An instruction's term: what is made for it, its number. -/
def oneT (ts : List Term) (x : Nat → Nat) (i : Ins) (pc : Nat) : Made :=
  if i.op = 0 then (ins ts (constT (up i.imm)), pos ts (constT (up i.imm)))
  else if i.op = 1 then (ins ts (constT ((up i.imm + pc) % 4294967296)), pos ts (constT ((up i.imm + pc) % 4294967296)))
  else match immOp i.op with
    | some o => made (ins ts (constT (us i.imm))) o (x i.rs1.toNat) (pos ts (constT (us i.imm)))
    | none => made ts i.op.toNat (x i.rs1.toNat) (x i.rs2.toNat)
def setR (x : Nat → Nat) (rd : Int) (n : Nat) : Nat → Nat := if rd = 0 then x else fun r => if r = rd.toNat then n else x r
/-- The registers' terms behind instructions. -/
def fromT : List Term → (Nat → Nat) → List Ins → Nat → List Term × (Nat → Nat)
  | ts, x, [], _ => (ts, x)
  | ts, x, i :: l, pc => fromT (oneT ts x i pc).1 (setR x i.rd (oneT ts x i pc).2) l ((pc + 4) % 4294967296)
/-- Terms that there are. -/
def InT (ts : List Term) (x : Nat → Nat) : Prop := ∀ r, r < 32 → x r < ts.length
theorem InT.ext {ts us : List Term} {x : Nat → Nat} (h : InT ts x) (he : Ext ts us) : InT us x := fun r hr => Nat.lt_of_lt_of_le (h r hr) he.len
theorem InT.set {ts : List Term} {x : Nat → Nat} (h : InT ts x) {n : Nat} (hn : n < ts.length) (rd : Int) : InT ts (setR x rd n) := fun r hr => by
  unfold setR
  split
  · exact h r hr
  · show (if r = rd.toNat then n else x r) < _
    split
    · exact hn
    · exact h r hr
theorem oneT_ok {ts : List Term} {x : Nat → Nat} {i : Ins} {pc : Nat} (hG : Good ts) (hx : InT ts x) (hi : plainI i = true) : Good (oneT ts x i pc).1 ∧ (oneT ts x i pc).2 < (oneT ts x i pc).1.length ∧ Ext ts (oneT ts x i pc).1 := by
  have hr : rightI i = true := by unfold plainI at hi; rw [Bool.and_eq_true] at hi; exact hi.1
  obtain ⟨_, h1, h2⟩ := rightI_regs hr
  unfold oneT
  rcases plainI_kind hi with h | h | ⟨o, ho, hd, h0, h1'⟩ | ⟨o, ho, hn, hd, h0, h1'⟩
  · rw [if_pos h]
    exact ⟨hG.const (up_lt _), pos_lt _ _, ext_ins _ _⟩
  · rw [if_neg (by omega), if_pos h]
    exact ⟨hG.const (Nat.mod_lt _ (by omega)), pos_lt _ _, ext_ins _ _⟩
  · rw [if_neg h0, if_neg h1', ho]
    have hG2 := hG.const (us_lt i.imm)
    have hE := ext_ins ts (constT (us i.imm))
    have := madeF_ok (8 * (ins ts (constT (us i.imm))).length + 10) _ o (x i.rs1.toNat) (pos ts (constT (us i.imm))) hG2 hd (Nat.lt_of_lt_of_le (hx _ (by omega)) hE.len) (pos_lt _ _) (by have := mz_le (op := o) (b := pos ts (constT (us i.imm))) (Nat.lt_of_lt_of_le (hx i.rs1.toNat (by omega)) hE.len); omega)
    exact ⟨this.1, this.2.1, hE.trans this.2.2.1⟩
  · rw [if_neg h0, if_neg h1', hn, show i.op.toNat = o by omega]
    have := madeF_ok (8 * ts.length + 10) ts o (x i.rs1.toNat) (x i.rs2.toNat) hG hd (hx _ (by omega)) (hx _ (by omega)) (by have := mz_le (op := o) (b := x i.rs2.toNat) (hx i.rs1.toNat (by omega)); omega)
    exact ⟨this.1, this.2.1, this.2.2.1⟩
theorem fromT_ok : ∀ (l : List Ins) (ts : List Term) (x : Nat → Nat) (pc : Nat), Good ts → InT ts x → (∀ i, i ∈ l → plainI i = true) → Good (fromT ts x l pc).1 ∧ InT (fromT ts x l pc).1 (fromT ts x l pc).2 ∧ Ext ts (fromT ts x l pc).1
  | [], ts, x, pc, hG, hx, _ => ⟨hG, hx, Ext.refl _⟩
  | i :: l, ts, x, pc, hG, hx, hl => by
    obtain ⟨h1, h2, h3⟩ := oneT_ok (pc := pc) hG hx (hl i List.mem_cons_self)
    obtain ⟨g1, g2, g3⟩ := fromT_ok l _ (setR x i.rd (oneT ts x i pc).2) ((pc + 4) % 4294967296) h1 ((hx.ext h3).set h2 i.rd) fun j hj => hl j (List.mem_cons_of_mem _ hj)
    exact ⟨g1, g2, h3.trans g3⟩
theorem fromT_append : ∀ (a b : List Ins) (ts : List Term) (x : Nat → Nat) (pc : Nat), pc < 4294967296 → fromT ts x (a ++ b) pc = fromT (fromT ts x a pc).1 (fromT ts x a pc).2 b ((pc + 4 * a.length) % 4294967296)
  | [], b, ts, x, pc, h => by
    show fromT ts x b pc = fromT ts x b ((pc + 4 * 0) % 4294967296)
    rw [Nat.mul_zero, Nat.add_zero, Nat.mod_eq_of_lt h]
  | i :: a, b, ts, x, pc, h => by
    show fromT _ _ (a ++ b) _ = _
    rw [fromT_append a b _ _ _ (Nat.mod_lt _ (by omega)), show ((pc + 4) % 4294967296 + 4 * a.length) % 4294967296 = (pc + 4 * (i :: a).length) % 4294967296 by simp only [List.length_cons]; omega]
    rfl
end Go.Proofs.YtaiggfknighhgaaGreatDoor
