/- Terms, and terms made simple: plain functions on lists of terms. -/
/- Terms made simple: plain laws. -/
import Derived.Lib.Hide
set_option linter.unusedVariables false
namespace Go.Proofs.Ytgnahjadjgjecaa

structure Term where
  k : Nat
  v : Nat
  op : Nat
  a : Nat
  b : Nat
instance : DecidableEq Term := fun x y =>
  if h : x.k = y.k ∧ x.v = y.v ∧ x.op = y.op ∧ x.a = y.a ∧ x.b = y.b then
    isTrue (by obtain ⟨k, v, o, a, b⟩ := x; obtain ⟨k', v', o', a', b'⟩ := y; simp only at h; obtain ⟨rfl, rfl, rfl, rfl, rfl⟩ := h; rfl)
  else isFalse (by rintro rfl; exact h ⟨rfl, rfl, rfl, rfl, rfl⟩)
instance : Inhabited Term := ⟨⟨0, 0, 0, 0, 0⟩⟩
/-- A term's number, and the terms behind its making. -/
def pos (ts : List Term) (t : Term) : Nat := ts.findIdx (fun x => decide (x = t))
def ins (ts : List Term) (t : Term) : List Term := if t ∈ ts then ts else ts ++ [t]
theorem pos_mem {ts : List Term} {t : Term} (h : t ∈ ts) : ts[pos ts t]? = some t := by
  have hlt : pos ts t < ts.length := List.findIdx_lt_length_of_exists ⟨t, h, by simp⟩
  have := List.findIdx_getElem (w := hlt) (xs := ts) (p := fun x => decide (x = t))
  simp only [decide_eq_true_eq] at this
  rw [List.getElem?_eq_getElem hlt]
  exact congrArg some this
theorem pos_new {ts : List Term} {t : Term} (h : t ∉ ts) : pos ts t = ts.length := by
  rw [pos, List.findIdx_eq_length]
  intro x hx
  simp only [decide_eq_false_iff_not]
  rintro rfl
  exact h hx
theorem ins_pos (ts : List Term) (t : Term) : (ins ts t)[pos ts t]? = some t := by
  unfold ins
  split
  · rename_i h; exact pos_mem h
  · rename_i h; rw [pos_new h]; simp
theorem ins_get {ts : List Term} {t x : Term} {n : Nat} (h : ts[n]? = some x) : (ins ts t)[n]? = some x := by
  unfold ins
  split
  · exact h
  · rw [List.getElem?_append_left (List.getElem?_eq_some_iff.1 h).1]; exact h
theorem ins_len (ts : List Term) (t : Term) : ts.length ≤ (ins ts t).length ∧ (ins ts t).length ≤ ts.length + 1 := by
  unfold ins
  split <;> simp
theorem ins_nodup {ts : List Term} {t : Term} (h : ts.Nodup) : (ins ts t).Nodup := by
  unfold ins
  split
  · exact h
  · rename_i hn
    refine List.nodup_append.2 ⟨h, by simp, ?_⟩
    intro a ha b hb
    rw [List.mem_singleton.1 hb]
    rintro rfl
    exact hn ha
def sg (a : Nat) : Int := if a < 2147483648 then (a : Int) else (a : Int) - 4294967296
def us (x : Int) : Nat := (x % 4294967296).toNat
/-- An instruction's reckoning on two words. -/
def doW (op a b : Nat) : Option Nat := match op with
  | 27 => some ((a + b) % 4294967296)
  | 28 => some (us ((a : Int) - b))
  | 36 => some (a &&& b)
  | 35 => some (a ||| b)
  | 32 => some (a ^^^ b)
  | 29 => some ((a * 2 ^ (b % 32)) % 4294967296)
  | 33 => some (a / 2 ^ (b % 32))
  | 34 => some (us (sg a / 2 ^ (b % 32)))
  | 30 => some (if sg a < sg b then 1 else 0)
  | 31 => some (if a < b then 1 else 0)
  | 37 => some ((a * b) % 4294967296)
  | 38 => some (us (sg a * sg b / 4294967296))
  | 39 => some (us (sg a * (b : Int) / 4294967296))
  | 40 => some (a * b / 4294967296)
  | 41 => some (if b = 0 then 4294967295 else if a = 2147483648 ∧ b = 4294967295 then a else us ((sg a).tdiv (sg b)))
  | 42 => some (if b = 0 then 4294967295 else a / b)
  | 43 => some (if b = 0 then a else if a = 2147483648 ∧ b = 4294967295 then 0 else us ((sg a).tmod (sg b)))
  | 44 => some (if b = 0 then a else a % b)
  | _ => none
def constT (v : Nat) : Term := ⟨0, v, 0, 0, 0⟩
def varT (r : Nat) : Term := ⟨1, r, 0, 0, 0⟩
def opT (op a b : Nat) : Term := ⟨2, 0, op, a, b⟩
def isC (ts : List Term) (n : Nat) : Bool := decide ((ts.getD n default).k = 0)
def wd (ts : List Term) (n : Nat) : Nat := (ts.getD n default).v
def turns (op : Nat) : Bool := decide (op = 27 ∨ op = 36 ∨ op = 35 ∨ op = 32 ∨ op = 37 ∨ op = 38 ∨ op = 40)
def isShift (op : Nat) : Bool := decide (op = 29 ∨ op = 33 ∨ op = 34)
/-- The k with 2^k a word. -/
def lg (v : Nat) : Nat := Nat.log2 v
def isPow (v : Nat) : Bool := decide (v = 2 ^ lg v ∧ 1 < v)
abbrev Made := List Term × Nat
/-- What comes next of a reckoning that is made simple: its term, or another reckoning. -/
inductive Nx where
  | done (ts : List Term) (n : Nat)
  | go (ts : List Term) (op a b : Nat)
def cst (ts : List Term) (w : Nat) : Nx := .done (ins ts (constT w)) (pos ts (constT w))
def goesN (ts : List Term) (op a w : Nat) : Nx := .go (ins ts (constT w)) op a (pos ts (constT w))
def byN (ts : List Term) (op a b v : Nat) : Option Nx :=
  if (v = 0 ∧ (op = 27 ∨ op = 35 ∨ op = 32)) ∨ (v = 1 ∧ (op = 37 ∨ op = 41 ∨ op = 42)) ∨ (v = 4294967295 ∧ op = 36) then some (.done ts a)
  else if (v = 0 ∧ (op = 36 ∨ op = 37 ∨ op = 31)) ∨ (v = 1 ∧ (op = 43 ∨ op = 44)) then some (cst ts 0)
  else if v = 4294967295 ∧ op = 35 then some (.done ts b)
  else if isShift op = true ∧ v % 32 = 0 then some (.done ts a)
  else if isShift op = true ∧ 32 ≤ v then some (goesN ts op a (v % 32))
  else if isPow v = true ∧ op = 37 then some (goesN ts 29 a (lg v))
  else if isPow v = true ∧ op = 42 then some (goesN ts 33 a (lg v))
  else if isPow v = true ∧ op = 44 then some (goesN ts 36 a (v - 1))
  else if (ts.getD a default).k ≠ 2 ∨ (ts.getD a default).op ≠ op then none
  else if isC ts (ts.getD a default).b = false then none
  else if op = 27 ∨ op = 36 ∨ op = 35 ∨ op = 32 then some (goesN ts op (ts.getD a default).a ((doW op (wd ts (ts.getD a default).b) v).getD 0))
  else if isShift op = false ∨ wd ts (ts.getD a default).b < 1 ∨ 32 ≤ wd ts (ts.getD a default).b then none
  else if wd ts (ts.getD a default).b + v < 32 then some (goesN ts op (ts.getD a default).a (wd ts (ts.getD a default).b + v))
  else if op = 34 then some (goesN ts op (ts.getD a default).a 31)
  else some (cst ts 0)
def twiceN (ts : List Term) (op a : Nat) : Option Nx :=
  if op = 28 ∨ op = 32 ∨ op = 30 ∨ op = 31 then some (cst ts 0)
  else if op = 36 ∨ op = 35 then some (.done ts a)
  else if op = 27 then some (goesN ts 29 a 1)
  else none
def next (ts : List Term) (op a b : Nat) : Nx :=
  if isC ts a = true ∧ isC ts b = true then cst ts ((doW op (wd ts a) (wd ts b)).getD 0)
  else if turns op = true ∧ ((isC ts a = true ∧ isC ts b = false) ∨ (isC ts a = false ∧ isC ts b = false ∧ b < a)) then .go ts op b a
  else if op = 28 ∧ isC ts b = true then goesN ts 27 a (us (-(wd ts b : Int)))
  else match (if isC ts b = true then byN ts op a b (wd ts b) else none) with
    | some r => r
    | none => match (if a = b then twiceN ts op a else none) with
      | some r => r
      | none => .done (ins ts (opT op a b)) (pos ts (opT op a b))
def Nx.fin (rec : List Term → Nat → Nat → Nat → Made) : Nx → Made
  | .done ts n => (ts, n)
  | .go ts op a b => rec ts op a b
/-- A reckoning's term, made simple (f: how often it may go on). -/
def madeF : Nat → List Term → Nat → Nat → Nat → Made
  | 0, ts, _, _, _ => (ts, 0)
  | f + 1, ts, op, a, b => (next ts op a b).fin (madeF f)
end Go.Proofs.Ytgnahjadjgjecaa
set_option linter.unusedVariables false
set_option linter.unusedSimpArgs false
namespace Go.Proofs.Ytgnahjadjgjecaa

def Ext (ts ts' : List Term) : Prop := ∃ r, ts' = ts ++ r
theorem Ext.refl (ts : List Term) : Ext ts ts := ⟨[], by simp⟩
theorem Ext.trans {a b c : List Term} (h : Ext a b) (k : Ext b c) : Ext a c := by
  obtain ⟨r, rfl⟩ := h
  obtain ⟨s, rfl⟩ := k
  exact ⟨r ++ s, by simp⟩
theorem Ext.len {a b : List Term} (h : Ext a b) : a.length ≤ b.length := by obtain ⟨r, rfl⟩ := h; simp
theorem Ext.get {a b : List Term} (h : Ext a b) {i : Nat} (hi : i < a.length) : b[i]? = a[i]? := by
  obtain ⟨r, rfl⟩ := h
  rw [List.getElem?_append_left hi]
theorem Ext.getD {a b : List Term} (h : Ext a b) {i : Nat} (hi : i < a.length) (d : Term) : b.getD i d = a.getD i d := by
  rw [List.getD_eq_getElem?_getD, List.getD_eq_getElem?_getD, h.get hi]
theorem Ext.isC {a b : List Term} (h : Ext a b) {i : Nat} (hi : i < a.length) : isC b i = isC a i := by unfold Go.Proofs.Ytgnahjadjgjecaa.isC; rw [h.getD hi]
theorem Ext.wd {a b : List Term} (h : Ext a b) {i : Nat} (hi : i < a.length) : wd b i = wd a i := by unfold Go.Proofs.Ytgnahjadjgjecaa.wd; rw [h.getD hi]
theorem ext_ins (ts : List Term) (t : Term) : Ext ts (ins ts t) := by
  unfold ins
  split
  · exact Ext.refl ts
  · exact ⟨[t], rfl⟩
theorem pos_lt (ts : List Term) (t : Term) : pos ts t < (ins ts t).length := (List.getElem?_eq_some_iff.1 (ins_pos ts t)).1
theorem ins_getD (ts : List Term) (t d : Term) : (ins ts t).getD (pos ts t) d = t := by rw [List.getD_eq_getElem?_getD, ins_pos]; rfl
theorem ins_const_isC (ts : List Term) (w : Nat) : isC (ins ts (constT w)) (pos ts (constT w)) = true := by unfold isC; rw [ins_getD]; rfl
theorem ins_const_wd (ts : List Term) (w : Nat) : wd (ins ts (constT w)) (pos ts (constT w)) = w := by unfold wd; rw [ins_getD]; rfl

/-- What the terms of a Dag are. -/
def GoodT (i : Nat) (t : Term) : Prop := (∃ v, v < 4294967296 ∧ t = constT v) ∨ (∃ r, 1 ≤ r ∧ r < 32 ∧ t = varT r) ∨ (∃ op a b, (doW op 0 0).isSome = true ∧ a < i ∧ b < i ∧ t = opT op a b)
structure Good (ts : List Term) : Prop where mk_ ::
  all : ∀ i t, ts[i]? = some t → GoodT i t
theorem Good.nil : Good [] := ⟨fun i t h => by simp at h⟩
theorem Good.ins {ts : List Term} (h : Good ts) {t : Term} (ht : GoodT ts.length t) : Good (ins ts t) := by
  unfold Go.Proofs.Ytgnahjadjgjecaa.ins
  split
  · exact h
  · refine ⟨fun i x hx => ?_⟩
    rw [List.getElem?_append] at hx
    split at hx
    · exact h.all i x hx
    · rename_i hn
      have h0 : i - ts.length = 0 := by
        rcases Nat.eq_zero_or_pos (i - ts.length) with h0 | h0
        · exact h0
        · rw [List.getElem?_eq_none (by simp; omega)] at hx; cases hx
      rw [h0] at hx
      simp only [List.getElem?_cons_zero, Option.some.injEq] at hx
      subst hx
      rw [show i = ts.length by omega]
      exact ht
theorem Good.const {ts : List Term} (h : Good ts) {v : Nat} (hv : v < 4294967296) : Good (Go.Proofs.Ytgnahjadjgjecaa.ins ts (constT v)) := h.ins (Or.inl ⟨v, hv, rfl⟩)
theorem Good.var {ts : List Term} (h : Good ts) {r : Nat} (h1 : 1 ≤ r) (h2 : r < 32) : Good (Go.Proofs.Ytgnahjadjgjecaa.ins ts (varT r)) := h.ins (Or.inr (Or.inl ⟨r, h1, h2, rfl⟩))
theorem Good.op {ts : List Term} (h : Good ts) {op a b : Nat} (ho : (doW op 0 0).isSome = true) (ha : a < ts.length) (hb : b < ts.length) : Good (Go.Proofs.Ytgnahjadjgjecaa.ins ts (opT op a b)) := h.ins (Or.inr (Or.inr ⟨op, a, b, ho, ha, hb, rfl⟩))
theorem Good.at_ {ts : List Term} (h : Good ts) {i : Nat} (hi : i < ts.length) (d : Term) : GoodT i (ts.getD i d) := h.all i _ (by rw [List.getD_eq_getElem?_getD, List.getElem?_eq_getElem hi]; rfl)
theorem Good.wd_lt {ts : List Term} (h : Good ts) {i : Nat} (hi : i < ts.length) : wd ts i < 4294967296 := by
  unfold wd
  rcases h.at_ hi default with ⟨v, hv, e⟩ | ⟨r, _, hr, e⟩ | ⟨op, a, b, _, _, _, e⟩ <;> rw [e]
  · exact hv
  · show r < _; omega
  · show 0 < _; omega
theorem Good.isC_eq {ts : List Term} (h : Good ts) {i : Nat} (hi : i < ts.length) (hc : isC ts i = true) : ts.getD i default = constT (wd ts i) := by
  unfold isC at hc
  unfold wd
  rcases h.at_ hi default with ⟨v, hv, e⟩ | ⟨r, _, hr, e⟩ | ⟨op, a, b, _, _, _, e⟩ <;> rw [e] at hc ⊢
  · rfl
  · exact absurd hc (by simp [varT])
  · exact absurd hc (by simp [opT])
/-- A reckoning's parts. -/
theorem Good.op_at {ts : List Term} (h : Good ts) {i : Nat} (hi : i < ts.length) (hk : (ts.getD i default).k = 2) :
    (doW (ts.getD i default).op 0 0).isSome = true ∧ (ts.getD i default).a < i ∧ (ts.getD i default).b < i ∧ ts.getD i default = opT (ts.getD i default).op (ts.getD i default).a (ts.getD i default).b := by
  rcases h.at_ hi default with ⟨v, hv, e⟩ | ⟨r, _, hr, e⟩ | ⟨op, a, b, h1, h2, h3, e⟩ <;> rw [e] at hk ⊢
  · exact absurd hk (by simp [constT])
  · exact absurd hk (by simp [varT])
  · exact ⟨h1, h2, h3, rfl⟩
theorem Good.k_le {ts : List Term} (h : Good ts) {i : Nat} (hi : i < ts.length) : (ts.getD i default).k ≤ 2 := by
  rcases h.at_ hi default with ⟨v, hv, e⟩ | ⟨r, _, hr, e⟩ | ⟨op, a, b, h1, h2, h3, e⟩ <;> rw [e] <;> simp [constT, varT, opT]

theorem op_cases {op : Nat} (h : (doW op 0 0).isSome = true) : op = 27 ∨ op = 28 ∨ op = 29 ∨ op = 30 ∨ op = 31 ∨ op = 32 ∨ op = 33 ∨ op = 34 ∨ op = 35 ∨ op = 36 ∨ op = 37 ∨ op = 38 ∨ op = 39 ∨ op = 40 ∨ op = 41 ∨ op = 42 ∨ op = 43 ∨ op = 44 := by
  by_cases h1 : op < 27
  · exfalso
    revert h
    exact (by decide : ∀ o, o < 27 → ¬ (doW o 0 0).isSome = true) op h1
  · by_cases h2 : 44 < op
    · exfalso
      revert h
      obtain ⟨k, rfl⟩ : ∃ k, op = k + 45 := ⟨op - 45, by omega⟩
      simp [doW]
    · omega
theorem op_lt {op : Nat} (h : (doW op 0 0).isSome = true) : op < 45 := by rcases op_cases h with h | h | h | h | h | h | h | h | h | h | h | h | h | h | h | h | h | h <;> omega
theorem us_lt (x : Int) : us x < 4294967296 := by unfold us; omega
theorem mulhu_lt {a b : Nat} (ha : a < 4294967296) (hb : b < 4294967296) : a * b / 4294967296 < 4294967296 := by
  refine Nat.div_lt_of_lt_mul (Nat.lt_of_le_of_lt (Nat.mul_le_mul_left a (Nat.le_of_lt hb)) ?_)
  exact Nat.mul_lt_mul_of_pos_right ha (by omega)
theorem or_lt32 {a b : Nat} (ha : a < 4294967296) (hb : b < 4294967296) : a ||| b < 4294967296 := Nat.or_lt_two_pow (n := 32) ha hb
theorem xor_lt32 {a b : Nat} (ha : a < 4294967296) (hb : b < 4294967296) : a ^^^ b < 4294967296 := Nat.xor_lt_two_pow (n := 32) ha hb
theorem div_lt32 {a : Nat} (ha : a < 4294967296) (k : Nat) : a / k < 4294967296 := Nat.lt_of_le_of_lt (Nat.div_le_self a k) ha
theorem mod_lt32 (a : Nat) : a % 4294967296 < 4294967296 := Nat.mod_lt _ (by omega)
theorem ite_lt32 {p : Prop} [Decidable p] {a b : Nat} (ha : a < 4294967296) (hb : b < 4294967296) : (if p then a else b) < 4294967296 := by split <;> assumption
theorem doW_lt {op a b : Nat} (h : (doW op 0 0).isSome = true) (ha : a < 4294967296) (hb : b < 4294967296) : (doW op a b).getD 0 < 4294967296 := by
  rcases op_cases h with rfl | rfl | rfl | rfl | rfl | rfl | rfl | rfl | rfl | rfl | rfl | rfl | rfl | rfl | rfl | rfl | rfl | rfl <;> simp only [doW, Option.getD_some]
  · exact mod_lt32 (a + b)
  · exact us_lt _
  · exact mod_lt32 (a * 2 ^ (b % 32))
  · exact ite_lt32 (by omega) (by omega)
  · exact ite_lt32 (by omega) (by omega)
  · exact xor_lt32 ha hb
  · exact div_lt32 ha _
  · exact us_lt _
  · exact or_lt32 ha hb
  · exact Nat.lt_of_le_of_lt Nat.and_le_left ha
  · exact mod_lt32 (a * b)
  · exact us_lt _
  · exact us_lt _
  · exact mulhu_lt ha hb
  · exact ite_lt32 (by omega) (ite_lt32 ha (us_lt _))
  · exact ite_lt32 (by omega) (div_lt32 ha _)
  · exact ite_lt32 ha (ite_lt32 (by omega) (us_lt _))
  · exact ite_lt32 ha (Nat.lt_of_le_of_lt (Nat.mod_le _ _) ha)
theorem doW_some {op : Nat} (h : (doW op 0 0).isSome = true) (a b : Nat) : (doW op a b).isSome = true := by
  rcases op_cases h with rfl | rfl | rfl | rfl | rfl | rfl | rfl | rfl | rfl | rfl | rfl | rfl | rfl | rfl | rfl | rfl | rfl | rfl <;> rfl

/-- How far a reckoning may still go. -/
def rank (op v : Nat) : Nat := if op = 28 then 6 else if op = 44 then 4 else if op = 27 ∨ op = 37 ∨ op = 42 then 3 else if op = 36 then 2 else if isShift op = true then (if 32 ≤ v then 2 else 1) else 0
theorem rank_le (op v : Nat) : rank op v ≤ 6 := by unfold rank; repeat' split
                                                   all_goals omega
def mz (ts : List Term) (op a b : Nat) : Nat :=
  if isC ts b = true then (if isC ts a = true then 0 else 8 * a + rank op (wd ts b)) else if isC ts a = true ∨ b < a then 8 * ts.length + 9 else 8 * ts.length + 8
theorem mz_goes {ts : List Term} {a : Nat} (ha : a < ts.length) (op w : Nat) : mz (ins ts (constT w)) op a (pos ts (constT w)) = if isC ts a = true then 0 else 8 * a + rank op w := by
  unfold mz
  rw [if_pos (ins_const_isC ts w), (ext_ins ts _).isC ha, ins_const_wd]
theorem mz_le {ts : List Term} {op a b : Nat} (ha : a < ts.length) : mz ts op a b ≤ 8 * ts.length + 9 := by
  have := rank_le op (wd ts b)
  unfold mz
  repeat' split
  all_goals omega

structure Went (ts : List Term) (op a b : Nat) (ts' : List Term) (op' a' b' : Nat) : Prop where
  good : Good ts'
  ok : (doW op' 0 0).isSome = true
  ina : a' < ts'.length
  inb : b' < ts'.length
  less : mz ts' op' a' b' < mz ts op a b
  ext : Ext ts ts'
  len : ts'.length ≤ ts.length + 1
structure Done (ts ts' : List Term) (n : Nat) : Prop where
  good : Good ts'
  n : n < ts'.length
  ext : Ext ts ts'
  len : ts'.length ≤ ts.length + 1
theorem went_goes {ts : List Term} {op a b op' a' w : Nat} (h : Good ts) (ho : (doW op' 0 0).isSome = true) (ha : a' < ts.length) (hw : w < 4294967296)
    (hl : (if isC ts a' = true then 0 else 8 * a' + rank op' w) < mz ts op a b) : Went ts op a b (ins ts (constT w)) op' a' (pos ts (constT w)) :=
  ⟨h.const hw, ho, Nat.lt_of_lt_of_le ha (ext_ins _ _).len, pos_lt _ _, by rw [mz_goes ha]; exact hl, ext_ins _ _, (ins_len _ _).2⟩
theorem done_cst {ts : List Term} {w : Nat} (h : Good ts) (hw : w < 4294967296) : Done ts (ins ts (constT w)) (pos ts (constT w)) := ⟨h.const hw, pos_lt _ _, ext_ins _ _, (ins_len _ _).2⟩
theorem done_same {ts : List Term} {n : Nat} (h : Good ts) (hn : n < ts.length) : Done ts ts n := ⟨h, hn, Ext.refl _, by omega⟩
theorem done_op {ts : List Term} {op a b : Nat} (h : Good ts) (ho : (doW op 0 0).isSome = true) (ha : a < ts.length) (hb : b < ts.length) : Done ts (ins ts (opT op a b)) (pos ts (opT op a b)) := ⟨h.op ho ha hb, pos_lt _ _, ext_ins _ _, (ins_len _ _).2⟩
/-- What becomes of a Nx. -/
def Nx.ok (ts : List Term) (op a b : Nat) : Nx → Prop
  | .done ts' n => Done ts ts' n
  | .go ts' op' a' b' => Went ts op a b ts' op' a' b'
theorem lg_lt {v : Nat} (h : v < 4294967296) (h0 : 1 < v) : 1 ≤ lg v ∧ lg v < 32 := by
  unfold lg
  constructor
  · exact (Nat.le_log2 (by omega)).2 (by omega)
  · exact (Nat.log2_lt (by omega)).2 (by omega)
theorem ite_some {p : Prop} [Decidable p] {x r : Nx} {rest : Option Nx} (h : (if p then some x else rest) = some r) : (p ∧ r = x) ∨ (¬ p ∧ rest = some r) := by
  split at h
  · rename_i hp; injection h with h; exact Or.inl ⟨hp, h.symm⟩
  · rename_i hp; exact Or.inr ⟨hp, h⟩
theorem ite_none {p : Prop} [Decidable p] {r : Nx} {rest : Option Nx} (h : (if p then none else rest) = some r) : ¬ p ∧ rest = some r := by
  split at h
  · cases h
  · rename_i hp; exact ⟨hp, h⟩
theorem byN_ok {ts : List Term} {op a b : Nat} (h : Good ts) (ho : (doW op 0 0).isSome = true) (ha : a < ts.length) (hb : b < ts.length) (hca : isC ts a = false) (hcb : isC ts b = true) :
    ∀ r, byN ts op a b (wd ts b) = some r → r.ok ts op a b := by
  have hmz : mz ts op a b = 8 * a + rank op (wd ts b) := by unfold mz; rw [if_pos hcb, if_neg (by rw [hca]; decide)]
  have hv := h.wd_lt hb
  have hna : ∀ k, (if isC ts a = true then 0 else k) = k := fun k => by rw [if_neg (by rw [hca]; decide)]
  generalize wd ts b = v at hmz hv
  intro r hr
  unfold byN at hr
  rcases ite_some hr with ⟨hx, rfl⟩ | ⟨hk, hr⟩
  · exact done_same h ha
  rcases ite_some hr with ⟨hx, rfl⟩ | ⟨hk, hr⟩
  · exact done_cst h (by omega)
  rcases ite_some hr with ⟨hx, rfl⟩ | ⟨hk, hr⟩
  · exact done_same h hb
  rcases ite_some hr with ⟨hx, rfl⟩ | ⟨hk, hr⟩
  · exact done_same h ha
  rcases ite_some hr with ⟨hx, rfl⟩ | ⟨hk, hr⟩
  · show Nx.ok _ _ _ _ (goesN _ _ _ _)
    refine went_goes h ho ha (by omega) ?_
    rw [hna, hmz]
    obtain ⟨h1, h2⟩ := hx
    have : op = 29 ∨ op = 33 ∨ op = 34 := by simpa [isShift] using h1
    have e1 : rank op (v % 32) = 1 := by rcases this with rfl | rfl | rfl <;> simp [rank, isShift] <;> omega
    have e2 : rank op v = 2 := by rcases this with rfl | rfl | rfl <;> simp [rank, isShift] <;> omega
    omega
  rcases ite_some hr with ⟨hx, rfl⟩ | ⟨hk, hr⟩
  · show Nx.ok _ _ _ _ (goesN _ _ _ _)
    obtain ⟨h1, rfl⟩ := hx
    simp only [isPow, decide_eq_true_eq] at h1
    have hlg := lg_lt hv h1.2
    refine went_goes h rfl ha (by omega) ?_
    rw [hna, hmz]
    have e1 : rank 29 (lg v) = 1 := by simp [rank, isShift]; omega
    have e2 : rank 37 v = 3 := by simp [rank]
    omega
  rcases ite_some hr with ⟨hx, rfl⟩ | ⟨hk, hr⟩
  · show Nx.ok _ _ _ _ (goesN _ _ _ _)
    obtain ⟨h1, rfl⟩ := hx
    simp only [isPow, decide_eq_true_eq] at h1
    have hlg := lg_lt hv h1.2
    refine went_goes h rfl ha (by omega) ?_
    rw [hna, hmz]
    have e1 : rank 33 (lg v) = 1 := by simp [rank, isShift]; omega
    have e2 : rank 42 v = 3 := by simp [rank]
    omega
  rcases ite_some hr with ⟨hx, rfl⟩ | ⟨hk, hr⟩
  · show Nx.ok _ _ _ _ (goesN _ _ _ _)
    obtain ⟨h1, rfl⟩ := hx
    refine went_goes h rfl ha (by omega) ?_
    rw [hna, hmz]
    have e1 : rank 36 (v - 1) = 2 := by simp [rank]
    have e2 : rank 44 v = 4 := by simp [rank]
    omega
  obtain ⟨hk, hr⟩ := ite_none hr
  have hk2 : (ts.getD a default).k = 2 := Classical.byContradiction fun hn => hk (Or.inl hn)
  have hko : (ts.getD a default).op = op := Classical.byContradiction fun hn => hk (Or.inr hn)
  obtain ⟨g1, g2, g3, g4⟩ := h.op_at ha hk2
  have hta : (ts.getD a default).a < ts.length := by omega
  have htb : (ts.getD a default).b < ts.length := by omega
  have hvb := h.wd_lt htb
  have hless : ∀ o w, (if isC ts (ts.getD a default).a = true then 0 else 8 * (ts.getD a default).a + rank o w) < mz ts op a b := fun o w => by
    have := rank_le o w
    rw [hmz]
    split <;> omega
  obtain ⟨hk, hr⟩ := ite_none hr
  rcases ite_some hr with ⟨hx, rfl⟩ | ⟨hk, hr⟩
  · exact went_goes h ho hta (doW_lt ho hvb hv) (hless _ _)
  obtain ⟨hk, hr⟩ := ite_none hr
  rcases ite_some hr with ⟨hx, rfl⟩ | ⟨hk, hr⟩
  · exact went_goes h ho hta (by omega) (hless _ _)
  rcases ite_some hr with ⟨hx, rfl⟩ | ⟨hk, hr⟩
  · exact went_goes h ho hta (by omega) (hless _ _)
  · injection hr with hr; subst hr; exact done_cst h (by omega)
theorem next_ok {ts : List Term} {op a b : Nat} (h : Good ts) (ho : (doW op 0 0).isSome = true) (ha : a < ts.length) (hb : b < ts.length) : (next ts op a b).ok ts op a b := by
  unfold next
  split
  · exact done_cst h (doW_lt ho (h.wd_lt ha) (h.wd_lt hb))
  rename_i hn
  split
  · rename_i hx
    refine ⟨h, ho, hb, ha, ?_, Ext.refl _, by omega⟩
    obtain ⟨_, ⟨h1, h2⟩ | ⟨h1, h2, h3⟩⟩ := hx
    · have e : mz ts op a b = 8 * ts.length + 9 := by unfold mz; rw [if_neg (by rw [h2]; decide), if_pos (Or.inl h1)]
      have e2 : mz ts op b a = 8 * b + rank op (wd ts a) := by unfold mz; rw [if_pos h1, if_neg (by rw [h2]; decide)]
      have := rank_le op (wd ts a)
      omega
    · have e : mz ts op a b = 8 * ts.length + 9 := by unfold mz; rw [if_neg (by rw [h2]; decide), if_pos (Or.inr h3)]
      have e2 : mz ts op b a = 8 * ts.length + 8 := by unfold mz; rw [if_neg (by rw [h1]; decide), if_neg (by rw [h2]; simp; omega)]
      omega
  split
  · rename_i hx
    obtain ⟨rfl, hcb⟩ := hx
    have hca : isC ts a = false := by
      cases e : isC ts a with
      | false => rfl
      | true => exact absurd ⟨e, hcb⟩ hn
    refine went_goes h rfl ha (us_lt _) ?_
    unfold mz
    rw [if_neg (by rw [hca]; decide), if_pos hcb, if_neg (by rw [hca]; decide)]
    have e1 : ∀ v, rank 27 v = 3 := fun v => by simp [rank]
    have e2 : ∀ v, rank 28 v = 6 := fun v => by simp [rank]
    rw [e1, e2]; omega
  split
  · rename_i r hr
    split at hr
    · rename_i hcb
      have hca : isC ts a = false := by
        cases e : isC ts a with
        | false => rfl
        | true => exact absurd ⟨e, hcb⟩ hn
      exact byN_ok h ho ha hb hca hcb r hr
    · cases hr
  · split
    · rename_i r hr
      split at hr
      · rename_i hab
        subst hab
        have hca : isC ts a = false := by
          cases e : isC ts a with
          | false => rfl
          | true => exact absurd ⟨e, e⟩ hn
        unfold twiceN at hr
        split at hr
        · injection hr with hr; subst hr; exact done_cst h (by omega)
        split at hr
        · injection hr with hr; subst hr; exact done_same h ha
        split at hr
        · injection hr with hr; subst hr
          refine went_goes h rfl ha (by omega) ?_
          unfold mz
          rw [if_neg (by rw [hca]; decide), if_neg (by rw [hca]; decide), if_neg (by rw [hca]; simp)]
          have e1 : rank 29 1 = 1 := by decide
          rw [e1]; omega
        · cases hr
      · cases hr
    · exact done_op h ho ha hb
/-- A reckoning made simple is a term of more terms. -/
theorem madeF_ok : ∀ (f : Nat) (ts : List Term) (op a b : Nat), Good ts → (doW op 0 0).isSome = true → a < ts.length → b < ts.length → mz ts op a b < f →
    Good (madeF f ts op a b).1 ∧ (madeF f ts op a b).2 < (madeF f ts op a b).1.length ∧ Ext ts (madeF f ts op a b).1 ∧ (madeF f ts op a b).1.length ≤ ts.length + f
  | 0, _, _, _, _, _, _, _, _, h => by omega
  | f + 1, ts, op, a, b, h, ho, ha, hb, hf => by
    have hn := next_ok h ho ha hb
    unfold madeF
    revert hn
    cases next ts op a b with
    | done ts' n => exact fun hn => ⟨hn.good, hn.n, hn.ext, by have := hn.len; simp only [Nx.fin]; omega⟩
    | go ts' op' a' b' =>
      intro hn
      obtain ⟨h1, h2, h3, h4⟩ := madeF_ok f ts' op' a' b' hn.good hn.ok hn.ina hn.inb (by have := hn.less; omega)
      exact ⟨h1, h2, hn.ext.trans h3, by have := hn.len; simp only [Nx.fin]; omega⟩
theorem madeF_fuel : ∀ (f f' : Nat) (ts : List Term) (op a b : Nat), Good ts → (doW op 0 0).isSome = true → a < ts.length → b < ts.length → mz ts op a b < f → mz ts op a b < f' → madeF f ts op a b = madeF f' ts op a b
  | 0, _, _, _, _, _, _, _, _, _, h, _ => by omega
  | _, 0, _, _, _, _, _, _, _, _, _, h => by omega
  | f + 1, f' + 1, ts, op, a, b, h, ho, ha, hb, hf, hf' => by
    have hn := next_ok h ho ha hb
    unfold madeF
    revert hn
    cases next ts op a b with
    | done ts' n => exact fun _ => rfl
    | go ts' op' a' b' => exact fun hn => madeF_fuel f f' ts' op' a' b' hn.good hn.ok hn.ina hn.inb (by have := hn.less; omega) (by have := hn.less; omega)
/-- A reckoning's term, made simple. -/
def made (ts : List Term) (op a b : Nat) : Made := madeF (8 * ts.length + 10) ts op a b
theorem made_eq {f : Nat} {ts : List Term} {op a b : Nat} (h : Good ts) (ho : (doW op 0 0).isSome = true) (ha : a < ts.length) (hb : b < ts.length) (hf : mz ts op a b < f) : madeF f ts op a b = made ts op a b :=
  madeF_fuel _ _ _ _ _ _ h ho ha hb hf (by have := mz_le (op := op) (b := b) ha; omega)
theorem made_next {ts : List Term} {op a b : Nat} (h : Good ts) (ho : (doW op 0 0).isSome = true) (ha : a < ts.length) (hb : b < ts.length) : made ts op a b = (next ts op a b).fin made := by
  have hm := mz_le (op := op) (b := b) ha
  have hn := next_ok h ho ha hb
  rw [made, show 8 * ts.length + 10 = (8 * ts.length + 9) + 1 from rfl, madeF]
  revert hn
  cases next ts op a b with
  | done ts' n => intro _; simp only [Nx.fin]
  | go ts' op' a' b' => intro hn; simp only [Nx.fin]; exact made_eq hn.good hn.ok hn.ina hn.inb (by have := hn.less; omega)
end Go.Proofs.Ytgnahjadjgjecaa
