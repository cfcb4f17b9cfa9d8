/- The reference of simp: plain, its cases joined (written by genGX.py). -/
/- The reference of simp: deep, its cases joined. -/
import Derived.Test.YtaiggfknighhgaaGreatDoorGDeep
set_option linter.unusedVariables false
set_option linter.unusedSimpArgs false
namespace Go.Proofs.YtaiggfknighhgaaGreatDoor
open Go.RowKit Go.Maps Go.MapKept

def plainN (ts : List Term) (op a b v : Nat) : Option Nx :=
  if (v = 0 ∧ (op = 27 ∨ op = 35 ∨ op = 32)) ∨ (v = 1 ∧ (op = 37 ∨ op = 41 ∨ op = 42)) ∨ (v = 4294967295 ∧ op = 36) then some (.done ts a)
  else if (v = 0 ∧ (op = 36 ∨ op = 37 ∨ op = 31)) ∨ (v = 1 ∧ (op = 43 ∨ op = 44)) then some (cst ts 0)
  else if v = 4294967295 ∧ op = 35 then some (.done ts b)
  else if isShift op = true ∧ v % 32 = 0 then some (.done ts a)
  else if isShift op = true ∧ 32 ≤ v then some (goesN ts op a (v % 32))
  else if isPow v = true ∧ op = 37 then some (goesN ts 29 a (lg v))
  else if isPow v = true ∧ op = 42 then some (goesN ts 33 a (lg v))
  else if isPow v = true ∧ op = 44 then some (goesN ts 36 a (v - 1))
  else none
def deepN (ts : List Term) (op a v : Nat) : Option Nx :=
  if (ts.getD a default).k ≠ 2 ∨ (ts.getD a default).op ≠ op then none
  else if isC ts (ts.getD a default).b = false then none
  else if op = 27 ∨ op = 36 ∨ op = 35 ∨ op = 32 then some (goesN ts op (ts.getD a default).a ((doW op (wd ts (ts.getD a default).b) v).getD 0))
  else if isShift op = false ∨ wd ts (ts.getD a default).b < 1 ∨ 32 ≤ wd ts (ts.getD a default).b then none
  else if wd ts (ts.getD a default).b + v < 32 then some (goesN ts op (ts.getD a default).a (wd ts (ts.getD a default).b + v))
  else if op = 34 then some (goesN ts op (ts.getD a default).a 31)
  else some (cst ts 0)
theorem byN_plain {ts : List Term} {op a b v : Nat} {r : Nx} (h : plainN ts op a b v = some r) : byN ts op a b v = some r := by
  revert h
  unfold plainN byN
  by_cases c1 : (v = 0 ∧ (op = 27 ∨ op = 35 ∨ op = 32)) ∨ (v = 1 ∧ (op = 37 ∨ op = 41 ∨ op = 42)) ∨ (v = 4294967295 ∧ op = 36)
  · rw [if_pos c1, if_pos c1]; exact id
  rw [if_neg c1, if_neg c1]
  by_cases c2 : (v = 0 ∧ (op = 36 ∨ op = 37 ∨ op = 31)) ∨ (v = 1 ∧ (op = 43 ∨ op = 44))
  · rw [if_pos c2, if_pos c2]; exact id
  rw [if_neg c2, if_neg c2]
  by_cases c3 : v = 4294967295 ∧ op = 35
  · rw [if_pos c3, if_pos c3]; exact id
  rw [if_neg c3, if_neg c3]
  by_cases c4 : isShift op = true ∧ v % 32 = 0
  · rw [if_pos c4, if_pos c4]; exact id
  rw [if_neg c4, if_neg c4]
  by_cases c5 : isShift op = true ∧ 32 ≤ v
  · rw [if_pos c5, if_pos c5]; exact id
  rw [if_neg c5, if_neg c5]
  by_cases c6 : isPow v = true ∧ op = 37
  · rw [if_pos c6, if_pos c6]; exact id
  rw [if_neg c6, if_neg c6]
  by_cases c7 : isPow v = true ∧ op = 42
  · rw [if_pos c7, if_pos c7]; exact id
  rw [if_neg c7, if_neg c7]
  by_cases c8 : isPow v = true ∧ op = 44
  · rw [if_pos c8, if_pos c8]; exact id
  rw [if_neg c8, if_neg c8]
  exact fun h => by cases h
theorem byN_deep {ts : List Term} {op a b v : Nat} (h : plainN ts op a b v = none) : byN ts op a b v = deepN ts op a v := by
  revert h
  unfold plainN byN
  by_cases c1 : (v = 0 ∧ (op = 27 ∨ op = 35 ∨ op = 32)) ∨ (v = 1 ∧ (op = 37 ∨ op = 41 ∨ op = 42)) ∨ (v = 4294967295 ∧ op = 36)
  · rw [if_pos c1]; exact fun h => by cases h
  rw [if_neg c1, if_neg c1]
  by_cases c2 : (v = 0 ∧ (op = 36 ∨ op = 37 ∨ op = 31)) ∨ (v = 1 ∧ (op = 43 ∨ op = 44))
  · rw [if_pos c2]; exact fun h => by cases h
  rw [if_neg c2, if_neg c2]
  by_cases c3 : v = 4294967295 ∧ op = 35
  · rw [if_pos c3]; exact fun h => by cases h
  rw [if_neg c3, if_neg c3]
  by_cases c4 : isShift op = true ∧ v % 32 = 0
  · rw [if_pos c4]; exact fun h => by cases h
  rw [if_neg c4, if_neg c4]
  by_cases c5 : isShift op = true ∧ 32 ≤ v
  · rw [if_pos c5]; exact fun h => by cases h
  rw [if_neg c5, if_neg c5]
  by_cases c6 : isPow v = true ∧ op = 37
  · rw [if_pos c6]; exact fun h => by cases h
  rw [if_neg c6, if_neg c6]
  by_cases c7 : isPow v = true ∧ op = 42
  · rw [if_pos c7]; exact fun h => by cases h
  rw [if_neg c7, if_neg c7]
  by_cases c8 : isPow v = true ∧ op = 44
  · rw [if_pos c8]; exact fun h => by cases h
  rw [if_neg c8, if_neg c8]
  exact fun _ => rfl
theorem plainN_none {ts : List Term} {op a b v : Nat} (h : plainN ts op a b v = none) : isShift op = true → v < 32 := by
  intro hs
  refine Nat.lt_of_not_le fun hv => ?_
  revert h
  unfold plainN
  by_cases c1 : (v = 0 ∧ (op = 27 ∨ op = 35 ∨ op = 32)) ∨ (v = 1 ∧ (op = 37 ∨ op = 41 ∨ op = 42)) ∨ (v = 4294967295 ∧ op = 36)
  · rw [if_pos c1]; exact fun h => by cases h
  rw [if_neg c1]
  by_cases c2 : (v = 0 ∧ (op = 36 ∨ op = 37 ∨ op = 31)) ∨ (v = 1 ∧ (op = 43 ∨ op = 44))
  · rw [if_pos c2]; exact fun h => by cases h
  rw [if_neg c2]
  by_cases c3 : v = 4294967295 ∧ op = 35
  · rw [if_pos c3]; exact fun h => by cases h
  rw [if_neg c3]
  by_cases c4 : isShift op = true ∧ v % 32 = 0
  · rw [if_pos c4]; exact fun h => by cases h
  rw [if_neg c4]
  rw [if_pos ⟨hs, hv⟩]; exact fun h => by cases h
/-- What becomes of a rule of the reference's. -/
def RBy (f k : Nat) (vl : Value) (w : World) : Option Nx → Ending → World → Prop
  | none => RNone w
  | some nx => RIs k vl w (nx.fin (madeF f))
theorem lgR_lt {v : Nat} (hv : v < 4294967296) : lgR v < 32 := by
  unfold lgR
  split
  · rename_i h
    simp only [isPow, decide_eq_true_eq] at h
    exact (lg_lt hv h.2).2
  · omega
theorem lgR_zero {v : Nat} (hv : v < 4294967296) : (((lgR v : Nat) : Int) == 0) = !isPow v := by
  unfold lgR
  cases h : isPow v with
  | true =>
    simp only [isPow, decide_eq_true_eq] at h
    have := (lg_lt hv h.2).1
    rw [if_pos rfl]
    simp
    omega
  | false => simp
theorem lgR_pow {v : Nat} (h : isPow v = true) : lgR v = lg v := if_pos h
set_option maxHeartbeats 4000000 in
theorem plain_any (f : Nat) (hM : RMadeSpec f) (k : Nat) (vl : Value) (ts : List Term) (op x y v : Nat) (w : World) (h : RefAt w k vl ts) (hx : x < ts.length) (hy : y < ts.length) (hl : ts.length + (f + 1) < 1000000000000) (hwd : wd ts y = v) (hv : v < 4294967296)
    (hm : mz ts op x y < f + 1) (hok : ∀ nx, plainN ts op x y v = some nx → nx.ok ts op x y) :
    Calls Tryz.prog 65 #[.pointer (some ⟨k, 0, none⟩), .int .i64 op, .int .i64 x, .int .i64 y] w (RBy f k vl w (plainN ts op x y v)) := by
  have hz := lgR_zero hv
  have hq := lgR_lt hv
  have hsh : isShift op = true ↔ (op = 29 ∨ op = 33 ∨ op = 34) := by simp [isShift]
  have hvc : v = 0 ∨ v = 1 ∨ v = 4294967295 ∨ (1 < v ∧ v ≠ 4294967295) := by omega
  by_cases c1 : (v = 0 ∧ (op = 27 ∨ op = 35 ∨ op = 32)) ∨ (v = 1 ∧ (op = 37 ∨ op = 41 ∨ op = 42)) ∨ (v = 4294967295 ∧ op = 36)
  · have e : plainN ts op x y v = some (.done ts x) := by unfold plainN; rw [if_pos c1]
    rw [e]; clear e hok
    rcases c1 with ⟨rfl, hop⟩ | ⟨rfl, hop⟩ | ⟨rfl, hop⟩
    · exact rp_z1 f hM k vl ts op x y 0 w h hx hy hl hwd hv (by first | rfl | decide | (simp; done) | (simp; omega) | (simp [hasI]; done) | (simp [hasI]; omega)) (by first | rfl | decide | (simp; done) | (simp; omega) | (simp [hasI]; done) | (simp [hasI]; omega)) (by first | rfl | decide | (simp; done) | (simp; omega) | (simp [hasI]; done) | (simp [hasI]; omega)) (by first | rfl | decide | (simp; done) | (simp; omega) | (simp [hasI]; done) | (simp [hasI]; omega)) 
    · exact rp_o1 f hM k vl ts op x y 1 w h hx hy hl hwd hv (by first | rfl | decide | (simp; done) | (simp; omega) | (simp [hasI]; done) | (simp [hasI]; omega)) (by first | rfl | decide | (simp; done) | (simp; omega) | (simp [hasI]; done) | (simp [hasI]; omega)) (by first | rfl | decide | (simp; done) | (simp; omega) | (simp [hasI]; done) | (simp [hasI]; omega)) (by first | rfl | decide | (simp; done) | (simp; omega) | (simp [hasI]; done) | (simp [hasI]; omega)) 
    · exact rp_m1 f hM k vl ts op x y 4294967295 w h hx hy hl hwd hv (by first | rfl | decide | (simp; done) | (simp; omega) | (simp [hasI]; done) | (simp [hasI]; omega)) (by first | rfl | decide | (simp; done) | (simp; omega) | (simp [hasI]; done) | (simp [hasI]; omega)) (by first | rfl | decide | (simp; done) | (simp; omega) | (simp [hasI]; done) | (simp [hasI]; omega)) (by first | rfl | decide | (simp; done) | (simp; omega) | (simp [hasI]; done) | (simp [hasI]; omega)) 
  by_cases c2 : (v = 0 ∧ (op = 36 ∨ op = 37 ∨ op = 31)) ∨ (v = 1 ∧ (op = 43 ∨ op = 44))
  · have e : plainN ts op x y v = some (cst ts 0) := by unfold plainN; rw [if_neg c1, if_pos c2]
    rw [e]; clear e hok
    rcases c2 with ⟨rfl, hop⟩ | ⟨rfl, hop⟩
    · have c1' : ¬ (op = 27 ∨ op = 35 ∨ op = 32) := fun hh => c1 (Or.inl ⟨rfl, hh⟩)
      exact rp_z2 f hM k vl ts op x y 0 w h hx hy hl hwd hv (by first | rfl | decide | (simp; done) | (simp; omega) | (simp [hasI]; done) | (simp [hasI]; omega)) (by first | rfl | decide | (simp; done) | (simp; omega) | (simp [hasI]; done) | (simp [hasI]; omega)) (by first | rfl | decide | (simp; done) | (simp; omega) | (simp [hasI]; done) | (simp [hasI]; omega)) (by first | rfl | decide | (simp; done) | (simp; omega) | (simp [hasI]; done) | (simp [hasI]; omega)) (by first | rfl | decide | (simp; done) | (simp; omega) | (simp [hasI]; done) | (simp [hasI]; omega)) 
    · have c1' : ¬ (op = 37 ∨ op = 41 ∨ op = 42) := fun hh => c1 (Or.inr (Or.inl ⟨rfl, hh⟩))
      exact rp_o2 f hM k vl ts op x y 1 w h hx hy hl hwd hv (by first | rfl | decide | (simp; done) | (simp; omega) | (simp [hasI]; done) | (simp [hasI]; omega)) (by first | rfl | decide | (simp; done) | (simp; omega) | (simp [hasI]; done) | (simp [hasI]; omega)) (by first | rfl | decide | (simp; done) | (simp; omega) | (simp [hasI]; done) | (simp [hasI]; omega)) (by first | rfl | decide | (simp; done) | (simp; omega) | (simp [hasI]; done) | (simp [hasI]; omega)) (by first | rfl | decide | (simp; done) | (simp; omega) | (simp [hasI]; done) | (simp [hasI]; omega)) 
  by_cases c3 : v = 4294967295 ∧ op = 35
  · have e : plainN ts op x y v = some (.done ts y) := by unfold plainN; rw [if_neg c1, if_neg c2, if_pos c3]
    rw [e]; clear e hok
    obtain ⟨rfl, hop⟩ := c3
    exact rp_m2 f hM k vl ts op x y 4294967295 w h hx hy hl hwd hv (by first | rfl | decide | (simp; done) | (simp; omega) | (simp [hasI]; done) | (simp [hasI]; omega)) (by first | rfl | decide | (simp; done) | (simp; omega) | (simp [hasI]; done) | (simp [hasI]; omega)) (by first | rfl | decide | (simp; done) | (simp; omega) | (simp [hasI]; done) | (simp [hasI]; omega)) (by first | rfl | decide | (simp; done) | (simp; omega) | (simp [hasI]; done) | (simp [hasI]; omega)) (by first | rfl | decide | (simp; done) | (simp; omega) | (simp [hasI]; done) | (simp [hasI]; omega)) 
  by_cases c4 : isShift op = true ∧ v % 32 = 0
  · have e : plainN ts op x y v = some (.done ts x) := by unfold plainN; rw [if_neg c1, if_neg c2, if_neg c3, if_pos c4]
    rw [e]; clear e hok
    obtain ⟨hs, h32⟩ := c4
    have hop := hsh.1 hs
    rcases hvc with rfl | rfl | rfl | ⟨hv1, hvm⟩
    · exact rp_z3 f hM k vl ts op x y 0 w h hx hy hl hwd hv (by first | rfl | decide | (simp; done) | (simp; omega) | (simp [hasI]; done) | (simp [hasI]; omega)) (by first | rfl | decide | (simp; done) | (simp; omega) | (simp [hasI]; done) | (simp [hasI]; omega)) (by first | rfl | decide | (simp; done) | (simp; omega) | (simp [hasI]; done) | (simp [hasI]; omega)) (by first | rfl | decide | (simp; done) | (simp; omega) | (simp [hasI]; done) | (simp [hasI]; omega)) (by first | rfl | decide | (simp; done) | (simp; omega) | (simp [hasI]; done) | (simp [hasI]; omega)) hs (by first | rfl | decide | (simp; done) | (simp; omega) | (simp [hasI]; done) | (simp [hasI]; omega))
    · omega
    · omega
    · exact rp_g1 f hM k vl ts op x y v w h hx hy hl hwd hv (by first | rfl | decide | (simp; done) | (simp; omega) | (simp [hasI]; done) | (simp [hasI]; omega)) (by first | rfl | decide | (simp; done) | (simp; omega) | (simp [hasI]; done) | (simp [hasI]; omega)) (by first | rfl | decide | (simp; done) | (simp; omega) | (simp [hasI]; done) | (simp [hasI]; omega)) hs (by first | rfl | decide | (simp; done) | (simp; omega) | (simp [hasI]; done) | (simp [hasI]; omega))
  by_cases c5 : isShift op = true ∧ 32 ≤ v
  · have e : plainN ts op x y v = some (goesN ts op x (v % 32)) := by unfold plainN; rw [if_neg c1, if_neg c2, if_neg c3, if_neg c4, if_pos c5]
    have hW : Went ts op x y (ins ts (constT (v % 32))) op x (pos ts (constT (v % 32))) := hok _ e
    rw [e]; clear e hok
    obtain ⟨hs, h33⟩ := c5
    have hop := hsh.1 hs
    have h32 : v % 32 ≠ 0 := fun hh => c4 ⟨hs, hh⟩
    rcases hvc with rfl | rfl | rfl | ⟨hv1, hvm⟩
    · omega
    · omega
    · exact rp_m3 f hM k vl ts op x y 4294967295 w h hx hy hl hwd hv (by first | rfl | decide | (simp; done) | (simp; omega) | (simp [hasI]; done) | (simp [hasI]; omega)) (by first | rfl | decide | (simp; done) | (simp; omega) | (simp [hasI]; done) | (simp [hasI]; omega)) (by first | rfl | decide | (simp; done) | (simp; omega) | (simp [hasI]; done) | (simp [hasI]; omega)) (by first | rfl | decide | (simp; done) | (simp; omega) | (simp [hasI]; done) | (simp [hasI]; omega)) (by first | rfl | decide | (simp; done) | (simp; omega) | (simp [hasI]; done) | (simp [hasI]; omega)) hs (by decide) (by decide) hW hm
    · exact rp_g2 f hM k vl ts op x y v w h hx hy hl hwd hv (by first | rfl | decide | (simp; done) | (simp; omega) | (simp [hasI]; done) | (simp [hasI]; omega)) (by first | rfl | decide | (simp; done) | (simp; omega) | (simp [hasI]; done) | (simp [hasI]; omega)) (by first | rfl | decide | (simp; done) | (simp; omega) | (simp [hasI]; done) | (simp [hasI]; omega)) hs (by first | rfl | decide | (simp; done) | (simp; omega) | (simp [hasI]; done) | (simp [hasI]; omega)) (by omega) hW hm
  by_cases c6 : isPow v = true ∧ op = 37
  · have e : plainN ts op x y v = some (goesN ts 29 x (lg v)) := by unfold plainN; rw [if_neg c1, if_neg c2, if_neg c3, if_neg c4, if_neg c5, if_pos c6]
    have hW : Went ts op x y (ins ts (constT (lg v))) 29 x (pos ts (constT (lg v))) := hok _ e
    rw [e]; clear e hok
    obtain ⟨hp, rfl⟩ := c6
    have hv1 : 1 < v := by simp only [isPow, decide_eq_true_eq] at hp; exact hp.2
    have hvm : v ≠ 4294967295 := by rintro rfl; exact absurd hp (by decide)
    exact rp_g6 f hM k vl ts 37 x y v w h hx hy hl hwd hv (by first | rfl | decide | (simp; done) | (simp; omega) | (simp [hasI]; done) | (simp [hasI]; omega)) (by first | rfl | decide | (simp; done) | (simp; omega) | (simp [hasI]; done) | (simp [hasI]; omega)) (by first | rfl | decide | (simp; done) | (simp; omega) | (simp [hasI]; done) | (simp [hasI]; omega)) (by decide) (lg v) (lgR_pow hp) (by rw [← lgR_pow hp]; exact hq) (by rw [← lgR_pow hp, hz, hp]; rfl) (by first | rfl | decide | (simp; done) | (simp; omega) | (simp [hasI]; done) | (simp [hasI]; omega)) hW hm
  by_cases c7 : isPow v = true ∧ op = 42
  · have e : plainN ts op x y v = some (goesN ts 33 x (lg v)) := by unfold plainN; rw [if_neg c1, if_neg c2, if_neg c3, if_neg c4, if_neg c5, if_neg c6, if_pos c7]
    have hW : Went ts op x y (ins ts (constT (lg v))) 33 x (pos ts (constT (lg v))) := hok _ e
    rw [e]; clear e hok
    obtain ⟨hp, rfl⟩ := c7
    have hv1 : 1 < v := by simp only [isPow, decide_eq_true_eq] at hp; exact hp.2
    have hvm : v ≠ 4294967295 := by rintro rfl; exact absurd hp (by decide)
    exact rp_g7 f hM k vl ts 42 x y v w h hx hy hl hwd hv (by first | rfl | decide | (simp; done) | (simp; omega) | (simp [hasI]; done) | (simp [hasI]; omega)) (by first | rfl | decide | (simp; done) | (simp; omega) | (simp [hasI]; done) | (simp [hasI]; omega)) (by first | rfl | decide | (simp; done) | (simp; omega) | (simp [hasI]; done) | (simp [hasI]; omega)) (by decide) (lg v) (lgR_pow hp) (by rw [← lgR_pow hp]; exact hq) (by rw [← lgR_pow hp, hz, hp]; rfl) (by first | rfl | decide | (simp; done) | (simp; omega) | (simp [hasI]; done) | (simp [hasI]; omega)) (by first | rfl | decide | (simp; done) | (simp; omega) | (simp [hasI]; done) | (simp [hasI]; omega)) hW hm
  by_cases c8 : isPow v = true ∧ op = 44
  · have e : plainN ts op x y v = some (goesN ts 36 x (v - 1)) := by unfold plainN; rw [if_neg c1, if_neg c2, if_neg c3, if_neg c4, if_neg c5, if_neg c6, if_neg c7, if_pos c8]
    have hW : Went ts op x y (ins ts (constT (v - 1))) 36 x (pos ts (constT (v - 1))) := hok _ e
    rw [e]; clear e hok
    obtain ⟨hp, rfl⟩ := c8
    have hv1 : 1 < v := by simp only [isPow, decide_eq_true_eq] at hp; exact hp.2
    have hvm : v ≠ 4294967295 := by rintro rfl; exact absurd hp (by decide)
    exact rp_g8 f hM k vl ts 44 x y v w h hx hy hl hwd hv (by first | rfl | decide | (simp; done) | (simp; omega) | (simp [hasI]; done) | (simp [hasI]; omega)) (by first | rfl | decide | (simp; done) | (simp; omega) | (simp [hasI]; done) | (simp [hasI]; omega)) (by first | rfl | decide | (simp; done) | (simp; omega) | (simp [hasI]; done) | (simp [hasI]; omega)) hv1 (by decide) (lg v) (lgR_pow hp) (by rw [← lgR_pow hp]; exact hq) (by rw [← lgR_pow hp, hz, hp]; rfl) (by first | rfl | decide | (simp; done) | (simp; omega) | (simp [hasI]; done) | (simp [hasI]; omega)) (by first | rfl | decide | (simp; done) | (simp; omega) | (simp [hasI]; done) | (simp [hasI]; omega)) (by first | rfl | decide | (simp; done) | (simp; omega) | (simp [hasI]; done) | (simp [hasI]; omega)) hW hm
  have e : plainN ts op x y v = none := by unfold plainN; rw [if_neg c1, if_neg c2, if_neg c3, if_neg c4, if_neg c5, if_neg c6, if_neg c7, if_neg c8]
  rw [e]; clear e hok
  have hpw : isPow v = true → op ≠ 37 ∧ op ≠ 42 ∧ op ≠ 44 := fun hp => ⟨fun hh => c6 ⟨hp, hh⟩, fun hh => c7 ⟨hp, hh⟩, fun hh => c8 ⟨hp, hh⟩⟩
  cases hs : isShift op with
  | true =>
    have hop := hsh.1 hs
    have h32 : v % 32 ≠ 0 := fun hh => c4 ⟨hs, hh⟩
    have h33 : v < 32 := Nat.lt_of_not_le fun hh => c5 ⟨hs, hh⟩
    rcases hvc with rfl | rfl | rfl | ⟨hv1, hvm⟩
    · omega
    · exact rp_o3 f hM k vl ts op x y 1 w h hx hy hl hwd hv (by first | rfl | decide | (simp; done) | (simp; omega) | (simp [hasI]; done) | (simp [hasI]; omega)) (by first | rfl | decide | (simp; done) | (simp; omega) | (simp [hasI]; done) | (simp [hasI]; omega)) (by first | rfl | decide | (simp; done) | (simp; omega) | (simp [hasI]; done) | (simp [hasI]; omega)) (by first | rfl | decide | (simp; done) | (simp; omega) | (simp [hasI]; done) | (simp [hasI]; omega)) (by first | rfl | decide | (simp; done) | (simp; omega) | (simp [hasI]; done) | (simp [hasI]; omega)) hs (by decide) (by decide) (lgR 1) rfl hq (by rw [hz]; rfl)
    · omega
    · cases hp : isPow v with
      | true => exact rp_g4 f hM k vl ts op x y v w h hx hy hl hwd hv (by first | rfl | decide | (simp; done) | (simp; omega) | (simp [hasI]; done) | (simp [hasI]; omega)) (by first | rfl | decide | (simp; done) | (simp; omega) | (simp [hasI]; done) | (simp [hasI]; omega)) (by first | rfl | decide | (simp; done) | (simp; omega) | (simp [hasI]; done) | (simp [hasI]; omega)) hs (by first | rfl | decide | (simp; done) | (simp; omega) | (simp [hasI]; done) | (simp [hasI]; omega)) (by omega) (lgR v) rfl hq (by rw [hz, hp]; rfl) (by first | rfl | decide | (simp; done) | (simp; omega) | (simp [hasI]; done) | (simp [hasI]; omega)) (by first | rfl | decide | (simp; done) | (simp; omega) | (simp [hasI]; done) | (simp [hasI]; omega)) (by first | rfl | decide | (simp; done) | (simp; omega) | (simp [hasI]; done) | (simp [hasI]; omega))
      | false => exact rp_g3 f hM k vl ts op x y v w h hx hy hl hwd hv (by first | rfl | decide | (simp; done) | (simp; omega) | (simp [hasI]; done) | (simp [hasI]; omega)) (by first | rfl | decide | (simp; done) | (simp; omega) | (simp [hasI]; done) | (simp [hasI]; omega)) (by first | rfl | decide | (simp; done) | (simp; omega) | (simp [hasI]; done) | (simp [hasI]; omega)) hs (by first | rfl | decide | (simp; done) | (simp; omega) | (simp [hasI]; done) | (simp [hasI]; omega)) (by omega) (lgR v) rfl hq (by rw [hz, hp]; rfl)
  | false =>
    rcases hvc with rfl | rfl | rfl | ⟨hv1, hvm⟩
    · have c1' : ¬ (op = 27 ∨ op = 35 ∨ op = 32) := fun hh => c1 (Or.inl ⟨rfl, hh⟩)
      have c2' : ¬ (op = 36 ∨ op = 37 ∨ op = 31) := fun hh => c2 (Or.inl ⟨rfl, hh⟩)
      exact rp_z4 f hM k vl ts op x y 0 w h hx hy hl hwd hv (by first | rfl | decide | (simp; done) | (simp; omega) | (simp [hasI]; done) | (simp [hasI]; omega)) (by first | rfl | decide | (simp; done) | (simp; omega) | (simp [hasI]; done) | (simp [hasI]; omega)) (by first | rfl | decide | (simp; done) | (simp; omega) | (simp [hasI]; done) | (simp [hasI]; omega)) (by first | rfl | decide | (simp; done) | (simp; omega) | (simp [hasI]; done) | (simp [hasI]; omega)) (by first | rfl | decide | (simp; done) | (simp; omega) | (simp [hasI]; done) | (simp [hasI]; omega)) hs (lgR 0) rfl hq (by rw [hz]; rfl)
    · have c1' : ¬ (op = 37 ∨ op = 41 ∨ op = 42) := fun hh => c1 (Or.inr (Or.inl ⟨rfl, hh⟩))
      have c2' : ¬ (op = 43 ∨ op = 44) := fun hh => c2 (Or.inr ⟨rfl, hh⟩)
      exact rp_o4 f hM k vl ts op x y 1 w h hx hy hl hwd hv (by first | rfl | decide | (simp; done) | (simp; omega) | (simp [hasI]; done) | (simp [hasI]; omega)) (by first | rfl | decide | (simp; done) | (simp; omega) | (simp [hasI]; done) | (simp [hasI]; omega)) (by first | rfl | decide | (simp; done) | (simp; omega) | (simp [hasI]; done) | (simp [hasI]; omega)) (by first | rfl | decide | (simp; done) | (simp; omega) | (simp [hasI]; done) | (simp [hasI]; omega)) (by first | rfl | decide | (simp; done) | (simp; omega) | (simp [hasI]; done) | (simp [hasI]; omega)) hs (lgR 1) rfl hq (by rw [hz]; rfl)
    · have c1' : op ≠ 36 := fun hh => c1 (Or.inr (Or.inr ⟨rfl, hh⟩))
      have c2' : op ≠ 35 := fun hh => c3 ⟨rfl, hh⟩
      exact rp_m4 f hM k vl ts op x y 4294967295 w h hx hy hl hwd hv (by first | rfl | decide | (simp; done) | (simp; omega) | (simp [hasI]; done) | (simp [hasI]; omega)) (by first | rfl | decide | (simp; done) | (simp; omega) | (simp [hasI]; done) | (simp [hasI]; omega)) (by first | rfl | decide | (simp; done) | (simp; omega) | (simp [hasI]; done) | (simp [hasI]; omega)) (by first | rfl | decide | (simp; done) | (simp; omega) | (simp [hasI]; done) | (simp [hasI]; omega)) (by first | rfl | decide | (simp; done) | (simp; omega) | (simp [hasI]; done) | (simp [hasI]; omega)) hs (lgR 4294967295) rfl hq (by rw [hz]; decide)
    · cases hp : isPow v with
      | true =>
        obtain ⟨p1, p2, p3⟩ := hpw hp
        exact rp_g9 f hM k vl ts op x y v w h hx hy hl hwd hv (by first | rfl | decide | (simp; done) | (simp; omega) | (simp [hasI]; done) | (simp [hasI]; omega)) (by first | rfl | decide | (simp; done) | (simp; omega) | (simp [hasI]; done) | (simp [hasI]; omega)) (by first | rfl | decide | (simp; done) | (simp; omega) | (simp [hasI]; done) | (simp [hasI]; omega)) hs (lgR v) rfl hq (by rw [hz, hp]; rfl) (by first | rfl | decide | (simp; done) | (simp; omega) | (simp [hasI]; done) | (simp [hasI]; omega)) (by first | rfl | decide | (simp; done) | (simp; omega) | (simp [hasI]; done) | (simp [hasI]; omega)) (by first | rfl | decide | (simp; done) | (simp; omega) | (simp [hasI]; done) | (simp [hasI]; omega))
      | false => exact rp_g5 f hM k vl ts op x y v w h hx hy hl hwd hv (by first | rfl | decide | (simp; done) | (simp; omega) | (simp [hasI]; done) | (simp [hasI]; omega)) (by first | rfl | decide | (simp; done) | (simp; omega) | (simp [hasI]; done) | (simp [hasI]; omega)) (by first | rfl | decide | (simp; done) | (simp; omega) | (simp [hasI]; done) | (simp [hasI]; omega)) hs (lgR v) rfl hq (by rw [hz, hp]; rfl)
end Go.Proofs.YtaiggfknighhgaaGreatDoor
set_option linter.unusedVariables false
set_option linter.unusedSimpArgs false
namespace Go.Proofs.YtaiggfknighhgaaGreatDoor
open Go.RowKit Go.Maps Go.MapKept

set_option maxHeartbeats 4000000 in
theorem deep_any (f : Nat) (hM : RMadeSpec f) (k : Nat) (vl : Value) (ts : List Term) (op x y v : Nat) (w : World) (h : RefAt w k vl ts) (hx : x < ts.length) (hl : ts.length + (f + 1) < 1000000000000) (hv : v < 4294967296)
    (hG : Good ts) (ho : (doW op 0 0).isSome = true) (hm : mz ts op x y < f + 1) (hok : ∀ nx, deepN ts op x v = some nx → nx.ok ts op x y) (hv32 : isShift op = true → v < 32) :
    Calls Tryz.prog 66 #[.pointer (some ⟨k, 0, none⟩), .int .i64 op, .int .i64 x, .int .u32 v] w (RBy f k vl w (deepN ts op x v)) := by
  have hop := fun hk => hG.op_at hx hk
  revert hop hok
  unfold deepN
  generalize ht : ts.getD x default = t
  obtain ⟨tk, tv, to, ta, tb⟩ := t
  dsimp only
  intro hok hop
  by_cases c1 : tk ≠ 2 ∨ to ≠ op
  · rw [if_pos c1]
    by_cases hk : tk = 2
    · have ho2 : to ≠ op := by omega
      subst hk
      exact rd_2 f hM k vl ts op x y v 2 tv to ta tb 0 0 w h hx hl hv ht (by decide) (by simp; omega)
    · exact rd_1 f hM k vl ts op x y v tk tv to ta tb 0 0 w h hx hl hv ht (by simp; omega)
  obtain ⟨hk, ho2⟩ : tk = 2 ∧ to = op := by omega
  subst hk ho2
  obtain ⟨_, hta, htb, _⟩ := hop rfl
  have htb' : tb < ts.length := by omega
  have hq := hG.wd_lt htb'
  rw [if_neg c1] at hok ⊢
  have hkc : isC ts tb = decide ((ts.getD tb default).k = 0) := rfl
  by_cases c2 : isC ts tb = false
  · rw [if_pos c2]
    exact rd_3 f hM k vl ts _ x y v 2 tv _ ta tb _ _ w h hx hl hv ht (by decide) (by simp) htb' rfl rfl (by rw [hkc] at c2; simp at c2; simp; omega)
  have b0 : ((((ts.getD tb default).k : Nat) : Int) != 0) = false := by rw [hkc] at c2; simp at c2; simp; omega
  rw [if_neg c2] at hok ⊢
  by_cases c3 : to = 27 ∨ to = 36 ∨ to = 35 ∨ to = 32
  · rw [if_pos c3] at hok ⊢
    exact rd_a f hM k vl ts to x y v 2 tv to ta tb _ (wd ts tb) w h hx hl hv ht (by decide) (by simp) htb' rfl rfl b0 (by simp [hasI]; omega) ho hq (hok _ rfl) hm
  have f4 : hasI (to : Int) [27, 36, 35, 32] = false := by simp [hasI]; omega
  rw [if_neg c3] at hok ⊢
  by_cases c4 : isShift to = false ∨ wd ts tb < 1 ∨ 32 ≤ wd ts tb
  · rw [if_pos c4]
    cases hs : isShift to with
    | false => exact rd_n f hM k vl ts to x y v 2 tv to ta tb _ (wd ts tb) w h hx hl hv ht (by decide) (by simp) htb' rfl rfl b0 f4 hs
    | true =>
      rw [hs] at c4
      by_cases c5 : wd ts tb < 1
      · exact rd_s1 f hM k vl ts to x y v 2 tv to ta tb _ (wd ts tb) w h hx hl hv ht (by decide) (by simp) htb' rfl rfl b0 f4 hs (by omega)
      · have c6 : 32 ≤ wd ts tb := by rcases c4 with c4 | c4 | c4; cases c4; omega; exact c4
        exact rd_s2 f hM k vl ts to x y v 2 tv to ta tb _ (wd ts tb) w h hx hl hv ht (by decide) (by simp) htb' rfl rfl b0 f4 hs (by omega) (by omega) hq
  rw [if_neg c4] at hok ⊢
  have hs : isShift to = true := by
    cases hs : isShift to with
    | true => rfl
    | false => exact absurd (Or.inl hs) c4
  have g1 : 1 ≤ wd ts tb := Nat.le_of_not_lt fun hh => c4 (Or.inr (Or.inl hh))
  have g2 : wd ts tb < 32 := Nat.lt_of_not_le fun hh => c4 (Or.inr (Or.inr hh))
  have hvv := hv32 hs
  by_cases c5 : wd ts tb + v < 32
  · rw [if_pos c5] at hok ⊢
    exact rd_s3 f hM k vl ts to x y v 2 tv to ta tb _ (wd ts tb) w h hx hl hv ht (by decide) (by simp) htb' rfl rfl b0 f4 hs (by omega) (by omega) hvv (by omega) (hok _ rfl) hm
  rw [if_neg c5] at hok ⊢
  by_cases c6 : to = 34
  · rw [if_pos c6] at hok ⊢
    exact rd_s4 f hM k vl ts to x y v 2 tv to ta tb _ (wd ts tb) w h hx hl hv ht (by decide) (by simp) htb' rfl rfl b0 f4 hs (by omega) (by omega) hvv (by omega) (by simp; omega) (hok _ rfl) hm
  · rw [if_neg c6] at hok ⊢
    exact rd_s5 f hM k vl ts to x y v 2 tv to ta tb _ (wd ts tb) w h hx hl hv ht (by decide) (by simp) htb' rfl rfl b0 f4 hs (by omega) (by omega) hvv (by omega) (by simp; omega)
end Go.Proofs.YtaiggfknighhgaaGreatDoor
