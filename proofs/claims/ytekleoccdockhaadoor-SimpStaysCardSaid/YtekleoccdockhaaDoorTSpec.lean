/- Terms, and terms made simple: plain functions on lists of terms. -/
import Derived.Lib.Hide
set_option linter.unusedVariables false
namespace Go.Proofs.YtekleoccdockhaaDoor

structure Term where
  k : Nat
  v : Nat
  op : Nat
  a : Nat
  b : Nat
instance : DecidableEq Term := fun x y =>
  if h : x.k = y.k ∧ x.v = y.v ∧ x.op = y.op ∧ x.a = y.a ∧ x.b = y.b then
    isTrue (by obtain ⟨k, v, o, a, b⟩ := x; obtain ⟨k', v', o', a', b'⟩ := y; simp only at h; obtain ⟨rfl, rfl, rfl, rfl, rfl⟩ := h; rfl)
  else isFalse (by rintro rfl; exact h ⟨rfl, rfl, rfl, rfl, rfl⟩)
instance : Inhabited Term := ⟨⟨0, 0, 0, 0, 0⟩⟩
/-- A term's number, and the terms behind its making. -/
def pos (ts : List Term) (t : Term) : Nat := ts.findIdx (fun x => decide (x = t))
def ins (ts : List Term) (t : Term) : List Term := if t ∈ ts then ts else ts ++ [t]
theorem pos_mem {ts : List Term} {t : Term} (h : t ∈ ts) : ts[pos ts t]? = some t := by
  have hlt : pos ts t < ts.length := List.findIdx_lt_length_of_exists ⟨t, h, by simp⟩
  have := List.findIdx_getElem (w := hlt) (xs := ts) (p := fun x => decide (x = t))
  simp only [decide_eq_true_eq] at this
  rw [List.getElem?_eq_getElem hlt]
  exact congrArg some this
theorem pos_new {ts : List Term} {t : Term} (h : t ∉ ts) : pos ts t = ts.length := by
  rw [pos, List.findIdx_eq_length]
  intro x hx
  simp only [decide_eq_false_iff_not]
  rintro rfl
  exact h hx
theorem ins_pos (ts : List Term) (t : Term) : (ins ts t)[pos ts t]? = some t := by
  unfold ins
  split
  · rename_i h; exact pos_mem h
  · rename_i h; rw [pos_new h]; simp
theorem ins_get {ts : List Term} {t x : Term} {n : Nat} (h : ts[n]? = some x) : (ins ts t)[n]? = some x := by
  unfold ins
  split
  · exact h
  · rw [List.getElem?_append_left (List.getElem?_eq_some_iff.1 h).1]; exact h
theorem ins_len (ts : List Term) (t : Term) : ts.length ≤ (ins ts t).length ∧ (ins ts t).length ≤ ts.length + 1 := by
  unfold ins
  split <;> simp
theorem ins_nodup {ts : List Term} {t : Term} (h : ts.Nodup) : (ins ts t).Nodup := by
  unfold ins
  split
  · exact h
  · rename_i hn
    refine List.nodup_append.2 ⟨h, by simp, ?_⟩
    intro a ha b hb
    rw [List.mem_singleton.1 hb]
    rintro rfl
    exact hn ha
def sg (a : Nat) : Int := if a < 2147483648 then (a : Int) else (a : Int) - 4294967296
def us (x : Int) : Nat := (x % 4294967296).toNat
/-- An instruction's reckoning on two words. -/
def doW (op a b : Nat) : Option Nat := match op with
  | 27 => some ((a + b) % 4294967296)
  | 28 => some (us ((a : Int) - b))
  | 36 => some (a &&& b)
  | 35 => some (a ||| b)
  | 32 => some (a ^^^ b)
  | 29 => some ((a * 2 ^ (b % 32)) % 4294967296)
  | 33 => some (a / 2 ^ (b % 32))
  | 34 => some (us (sg a / 2 ^ (b % 32)))
  | 30 => some (if sg a < sg b then 1 else 0)
  | 31 => some (if a < b then 1 else 0)
  | 37 => some ((a * b) % 4294967296)
  | 38 => some (us (sg a * sg b / 4294967296))
  | 39 => some (us (sg a * (b : Int) / 4294967296))
  | 40 => some (a * b / 4294967296)
  | 41 => some (if b = 0 then 4294967295 else if a = 2147483648 ∧ b = 4294967295 then a else us ((sg a).tdiv (sg b)))
  | 42 => some (if b = 0 then 4294967295 else a / b)
  | 43 => some (if b = 0 then a else if a = 2147483648 ∧ b = 4294967295 then 0 else us ((sg a).tmod (sg b)))
  | 44 => some (if b = 0 then a else a % b)
  | _ => none
def constT (v : Nat) : Term := ⟨0, v, 0, 0, 0⟩
def varT (r : Nat) : Term := ⟨1, r, 0, 0, 0⟩
def opT (op a b : Nat) : Term := ⟨2, 0, op, a, b⟩
def isC (ts : List Term) (n : Nat) : Bool := decide ((ts.getD n default).k = 0)
def wd (ts : List Term) (n : Nat) : Nat := (ts.getD n default).v
def turns (op : Nat) : Bool := decide (op = 27 ∨ op = 36 ∨ op = 35 ∨ op = 32 ∨ op = 37 ∨ op = 38 ∨ op = 40)
def isShift (op : Nat) : Bool := decide (op = 29 ∨ op = 33 ∨ op = 34)
/-- The k with 2^k a word. -/
def lg (v : Nat) : Nat := Nat.log2 v
def isPow (v : Nat) : Bool := decide (v = 2 ^ lg v ∧ 1 < v)
abbrev Made := List Term × Nat
/-- What comes next of a reckoning that is made simple: its term, or another reckoning. -/
inductive Nx where
  | done (ts : List Term) (n : Nat)
  | go (ts : List Term) (op a b : Nat)
def cst (ts : List Term) (w : Nat) : Nx := .done (ins ts (constT w)) (pos ts (constT w))
def goesN (ts : List Term) (op a w : Nat) : Nx := .go (ins ts (constT w)) op a (pos ts (constT w))
def byN (ts : List Term) (op a b v : Nat) : Option Nx :=
  if (v = 0 ∧ (op = 27 ∨ op = 35 ∨ op = 32)) ∨ (v = 1 ∧ (op = 37 ∨ op = 41 ∨ op = 42)) ∨ (v = 4294967295 ∧ op = 36) then some (.done ts a)
  else if (v = 0 ∧ (op = 36 ∨ op = 37 ∨ op = 31)) ∨ (v = 1 ∧ (op = 43 ∨ op = 44)) then some (cst ts 0)
  else if v = 4294967295 ∧ op = 35 then some (.done ts b)
  else if isShift op = true ∧ v % 32 = 0 then some (.done ts a)
  else if isShift op = true ∧ 32 ≤ v then some (goesN ts op a (v % 32))
  else if isPow v = true ∧ op = 37 then some (goesN ts 29 a (lg v))
  else if isPow v = true ∧ op = 42 then some (goesN ts 33 a (lg v))
  else if isPow v = true ∧ op = 44 then some (goesN ts 36 a (v - 1))
  else if (ts.getD a default).k ≠ 2 ∨ (ts.getD a default).op ≠ op then none
  else if isC ts (ts.getD a default).b = false then none
  else if op = 27 ∨ op = 36 ∨ op = 35 ∨ op = 32 then some (goesN ts op (ts.getD a default).a ((doW op (wd ts (ts.getD a default).b) v).getD 0))
  else if isShift op = false ∨ wd ts (ts.getD a default).b < 1 ∨ 32 ≤ wd ts (ts.getD a default).b then none
  else if wd ts (ts.getD a default).b + v < 32 then some (goesN ts op (ts.getD a default).a (wd ts (ts.getD a default).b + v))
  else if op = 34 then some (goesN ts op (ts.getD a default).a 31)
  else some (cst ts 0)
def twiceN (ts : List Term) (op a : Nat) : Option Nx :=
  if op = 28 ∨ op = 32 ∨ op = 30 ∨ op = 31 then some (cst ts 0)
  else if op = 36 ∨ op = 35 then some (.done ts a)
  else if op = 27 then some (goesN ts 29 a 1)
  else none
def next (ts : List Term) (op a b : Nat) : Nx :=
  if isC ts a = true ∧ isC ts b = true then cst ts ((doW op (wd ts a) (wd ts b)).getD 0)
  else if turns op = true ∧ ((isC ts a = true ∧ isC ts b = false) ∨ (isC ts a = false ∧ isC ts b = false ∧ b < a)) then .go ts op b a
  else if op = 28 ∧ isC ts b = true then goesN ts 27 a (us (-(wd ts b : Int)))
  else match (if isC ts b = true then byN ts op a b (wd ts b) else none) with
    | some r => r
    | none => match (if a = b then twiceN ts op a else none) with
      | some r => r
      | none => .done (ins ts (opT op a b)) (pos ts (opT op a b))
def Nx.fin (rec : List Term → Nat → Nat → Nat → Made) : Nx → Made
  | .done ts n => (ts, n)
  | .go ts op a b => rec ts op a b
/-- A reckoning's term, made simple (f: how often it may go on). -/
def madeF : Nat → List Term → Nat → Nat → Nat → Made
  | 0, ts, _, _, _ => (ts, 0)
  | f + 1, ts, op, a, b => (next ts op a b).fin (madeF f)
end Go.Proofs.YtekleoccdockhaaDoor
