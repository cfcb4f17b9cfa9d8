/- The reference of simp: in, log. -/
/- The reference of simp: goes. -/
import Derived.Test.YtaiggfknighhgaaGreatDoorSGoes
import Derived.Test.YtaiggfknighhgaaGreatDoorSByF
import Derived.Test.YtaiggfknighhgaaGreatDoorRDag2
import Derived.Test.YtaiggfknighhgaaGreatDoorSByX
set_option linter.unusedVariables false
set_option linter.unusedSimpArgs false
namespace Go.Proofs.YtaiggfknighhgaaGreatDoor
open Go.RowKit Go.Maps Go.MapKept

theorem rin_any (op : Int) (xs : List Int) (B : Nat) (v : Value) (w : World) (h : Sl B 3 I64 w v xs) (hl : xs.length ≤ 100) :
    Calls Tryz.prog 64 #[.int .i64 op, v] w fun e w' => e = .returned (.bool (hasI op xs)) ∧ w = w' := by
  obtain ⟨A, c, rfl, q1, q2, q3⟩ := h.open_
  go_enter Tryz.func64, Tryz.ntmps64
  go_wp2
  go_loop [5] (fun i => ∃ k : Nat, k ≤ xs.length ∧ i = .int .i64 k ∧ hasI op (xs.take k) = false) (fun i => xs.length - (intOf i).toNat)
  case atStart => exact ⟨0, Nat.zero_le _, rfl, rfl⟩
  case round =>
    obtain ⟨k, hk, rfl, hno⟩ := hrel
    by_cases hlt : k < xs.length
    · obtain ⟨b, off, u, rfl, hc, rfl, hx1, hx2⟩ := h.at_ hlt 0
      have hsn := hasI_snoc op (xs.take k) (xs.getD k 0)
      rw [← take_snoc hlt 0, hno, Bool.false_or] at hsn
      generalize xs.getD k 0 = x at *
      have HN := Lib.hid hno
      have HS := Lib.hid hsn
      clear hno hsn
      by_cases hx : x = op
      · subst hx
        have hd : hasI x xs = true := by
          rw [← List.take_append_drop (k + 1) xs, hasI, List.any_append]
          have : hasI x (xs.take (k + 1)) = true := by rw [HS.out]; simp
          unfold hasI at this
          rw [this]; rfl
        have HD := Lib.hid hd
        clear hd
        go_wp2
        go_ret
        exact ⟨ret_val (by rw [HD.out]; rfl), rfl⟩
      · have hne : (x == op) = false := by simp [hx]
        have HN2 := Lib.hid hne
        go_wp2
        go_round
        case rel => exact ⟨k + 1, by omega, by go_num, by rw [HS.out]; exact HN2.out⟩
        case measure => simp [intOf]; omega
    · have e : xs.take k = xs := List.take_of_length_le (by omega)
      rw [e] at hno
      have HD := Lib.hid hno
      clear e hno
      go_wp2
      go_ret
      exact ⟨ret_val (by rw [HD.out]; rfl), rfl⟩
theorem rin_lit (op : Int) (us : List Int) (n : Nat) (hn : us.length = n) (hl : n ≤ 100) (h : ∀ x ∈ us, -9223372036854775808 ≤ x ∧ x ≤ 9223372036854775807) (g : Nat) (w : World) (hg : w.heap.size = g) {cs : Array Value} (hcs : cs = (us.map (Value.int .i64)).toArray) :
    Calls Tryz.prog 64 #[.int .i64 op, .slice (some ⟨g, 0, none⟩) n n] (w.alloc (.cells cs 3)) fun e w' => e = .returned (.bool (hasI op us)) ∧ w.alloc (.cells cs 3) = w' := by
  subst hcs hg
  refine rin_any op us 0 _ _ (Sl.lit (blk_new w _) hn (by unfold maxLen; omega) (lit_i64 us _ h)) (by omega)
theorem rin2 (op x y : Int) (hx : 0 ≤ x ∧ x < 100 := by decide) (hy : 0 ≤ y ∧ y < 100 := by decide) (g : Nat) (w : World) (hg : w.heap.size = g) :
    Calls Tryz.prog 64 #[.int .i64 op, .slice (some ⟨g, 0, none⟩) 2 2] (w.alloc (.cells #[.int .i64 x, .int .i64 y] 3)) fun e w' => e = .returned (.bool (hasI op [x, y])) ∧ w.alloc (.cells #[.int .i64 x, .int .i64 y] 3) = w' :=
  rin_lit op [x, y] 2 rfl (by omega) (by simp; omega) g w hg rfl
theorem rin3 (op x y z : Int) (hx : 0 ≤ x ∧ x < 100 := by decide) (hy : 0 ≤ y ∧ y < 100 := by decide) (hz : 0 ≤ z ∧ z < 100 := by decide) (g : Nat) (w : World) (hg : w.heap.size = g) :
    Calls Tryz.prog 64 #[.int .i64 op, .slice (some ⟨g, 0, none⟩) 3 3] (w.alloc (.cells #[.int .i64 x, .int .i64 y, .int .i64 z] 3)) fun e w' => e = .returned (.bool (hasI op [x, y, z])) ∧ w.alloc (.cells #[.int .i64 x, .int .i64 y, .int .i64 z] 3) = w' :=
  rin_lit op [x, y, z] 3 rfl (by omega) (by simp; omega) g w hg rfl
theorem rin4 (op x y z u : Int) (hx : 0 ≤ x ∧ x < 100 := by decide) (hy : 0 ≤ y ∧ y < 100 := by decide) (hz : 0 ≤ z ∧ z < 100 := by decide) (hu : 0 ≤ u ∧ u < 100 := by decide) (g : Nat) (w : World) (hg : w.heap.size = g) :
    Calls Tryz.prog 64 #[.int .i64 op, .slice (some ⟨g, 0, none⟩) 4 4] (w.alloc (.cells #[.int .i64 x, .int .i64 y, .int .i64 z, .int .i64 u] 3)) fun e w' => e = .returned (.bool (hasI op [x, y, z, u])) ∧ w.alloc (.cells #[.int .i64 x, .int .i64 y, .int .i64 z, .int .i64 u] 3) = w' :=
  rin_lit op [x, y, z, u] 4 rfl (by omega) (by simp; omega) g w hg rfl
theorem rin_turns (op : Nat) (g : Nat) (w : World) (hg : w.heap.size = g) :
    Calls Tryz.prog 64 #[.int .i64 op, .slice (some ⟨g, 0, none⟩) 7 7] (w.alloc (.cells #[.int .i64 27, .int .i64 36, .int .i64 35, .int .i64 32, .int .i64 37, .int .i64 38, .int .i64 40] 3)) fun e w' =>
      e = .returned (.bool (turns op)) ∧ w.alloc (.cells #[.int .i64 27, .int .i64 36, .int .i64 35, .int .i64 32, .int .i64 37, .int .i64 38, .int .i64 40] 3) = w' := by
  rw [← turns_has op]
  exact rin_lit op [27, 36, 35, 32, 37, 38, 40] 7 rfl (by omega) (by decide) g w hg rfl
theorem rin_shift (op : Nat) (g : Nat) (w : World) (hg : w.heap.size = g) :
    Calls Tryz.prog 64 #[.int .i64 op, .slice (some ⟨g, 0, none⟩) 3 3] (w.alloc (.cells #[.int .i64 29, .int .i64 33, .int .i64 34] 3)) fun e w' =>
      e = .returned (.bool (isShift op)) ∧ w.alloc (.cells #[.int .i64 29, .int .i64 33, .int .i64 34] 3) = w' := by
  rw [← shift_has op]
  exact rin_lit op [29, 33, 34] 3 rfl (by omega) (by decide) g w hg rfl
/-- The k with 2^k the word, 0 where there is none. -/
def lgR (v : Nat) : Nat := if isPow v = true then lg v else 0
theorem lgR_hit {v k : Nat} (hk : 1 ≤ k) (h : v = 2 ^ k) : lgR v = k := by
  have hl : lg v = k := by unfold lg; rw [h, Nat.log2_two_pow]
  have h1 : 1 < v := by rw [h]; exact Nat.one_lt_two_pow (by omega)
  unfold lgR isPow
  rw [hl, if_pos (by simp only [decide_eq_true_eq]; exact ⟨h, h1⟩)]
theorem lgR_no {v : Nat} (hv : v < 4294967296) (h : ∀ j, 1 ≤ j → j < 32 → v ≠ 2 ^ j) : lgR v = 0 := by
  unfold lgR
  rw [if_neg]
  unfold isPow
  simp only [decide_eq_true_eq]
  rintro ⟨h1, h2⟩
  obtain ⟨h3, h4⟩ := lg_lt hv h2
  exact h _ h3 h4 h1
set_option maxRecDepth 100000 in
theorem rlog_any (v : Nat) (hv : v < 4294967296) (w : World) :
    Calls Tryz.prog 88 #[.int .u32 v] w fun e w' => e = .returned (.int .i64 (lgR v : Nat)) ∧ w = w' := by
  go_enter Tryz.func88, Tryz.ntmps88
  go_wp2
  go_loop [3] (fun i => ∃ k : Nat, 1 ≤ k ∧ k ≤ 32 ∧ i = .int .i64 k ∧ ∀ j, 1 ≤ j → j < k → v ≠ 2 ^ j) (fun i => 32 - (intOf i).toNat)
  case atStart => exact ⟨1, by omega, by omega, rfl, fun j h1 h2 => by omega⟩
  case round =>
    obtain ⟨k, hk1, hk, rfl, hno⟩ := hrel
    by_cases hlt : k < 32
    · have hp32 : (2 : Nat) ^ k < 4294967296 := by
        have := Nat.pow_lt_pow_right (a := 2) (by omega) hlt
        omega
      obtain ⟨P, hP⟩ : ∃ P : Nat, P = 2 ^ k := ⟨_, rfl⟩
      have hE : (2 : Int) ^ k % 4294967296 = (P : Int) := by
        have e : ((2 : Int) ^ k) = ((2 ^ k : Nat) : Int) := by simp
        rw [e, hP]
        omega
      rw [← hP] at hp32
      have HP := Lib.hid hP
      have HN := Lib.hid hno
      clear hP hno
      have hlt' : (k : Int) < 32 := by omega
      by_cases hx : v = P
      · subst hx
        have hb : ((v : Int) == (2 : Int) ^ k % 4294967296) = true := by rw [hE]; simp
        clear hE
        go_wp2
        go_ret
        exact ⟨ret_val (by rw [lgR_hit hk1 HP.out]; rfl), rfl⟩
      · have hb : ((v : Int) == (2 : Int) ^ k % 4294967296) = false := by rw [hE]; simp; omega
        clear hE
        have HX := Lib.hid hx
        go_wp2
        go_round
        case rel => exact ⟨k + 1, by omega, by omega, by go_num, fun j h1 h2 => by
          by_cases hj : j = k
          · subst hj; rw [← HP.out]; exact HX.out
          · exact HN.out j h1 (by omega)⟩
        case measure => simp [intOf]; omega
    · have hlt' : ¬ (k : Int) < 32 := by omega
      have e : k = 32 := by omega
      subst e
      have HD := Lib.hid (lgR_no hv hno)
      clear hno
      go_wp2
      go_ret
      exact ⟨ret_val (by rw [HD.out]; rfl), rfl⟩
end Go.Proofs.YtaiggfknighhgaaGreatDoor
set_option linter.unusedVariables false
set_option linter.unusedSimpArgs false
namespace Go.Proofs.YtaiggfknighhgaaGreatDoor
open Go.RowKit Go.Maps Go.MapKept

theorem RefAt.own_lt {w : World} {k : Nat} {vl : Value} {ts : List Term} (h : RefAt w k vl ts) {g : Nat} (hg : vl.ownBlock = some g) : g < w.heap.size := by
  obtain ⟨_, cur, hc⟩ := h.l.typed hg
  exact (Array.getElem?_eq_some_iff.1 hc).1
theorem RefAt.at_lt {w : World} {k : Nat} {vl : Value} {ts : List Term} (h : RefAt w k vl ts) : k < w.heap.size := (Array.getElem?_eq_some_iff.1 h.hb).1
/-- One call behind another. -/
theorem RAdd.trans' {w w1 w2 : World} {k : Nat} {vl vl' : Value} {ts us : List Term} (h : RAdd w k vl ts w1) (ho : vl'.ownBlock = vl.ownBlock ∨ ∃ g, vl'.ownBlock = some g ∧ w.heap.size ≤ g) (hq : RAdd w1 k vl' us w2) : RAdd w k vl us w2 := by
  obtain ⟨vl2, hr2, ho2⟩ := hq.out
  have hk := hq.kept
  refine ⟨⟨hk.os.trans h.kept.os, hk.tape.trans h.kept.tape, hk.output.trans h.kept.output, Nat.le_trans h.kept.size hk.size, fun i hi hn => ?_⟩, vl2, hr2, ?_⟩
  · refine (hk.block i (Nat.lt_of_lt_of_le hi h.kept.size) ⟨hn.1, fun e => ?_⟩).trans (h.kept.block i hi hn)
    rcases ho with ho | ⟨g, ho, hg⟩
    · exact hn.2 (by rw [← ho]; exact e)
    · rw [ho] at e; injection e with e; omega
  · rcases ho2 with ho2 | ⟨g, ho2, hg⟩
    · rcases ho with ho | ⟨g, ho, hg⟩
      · exact Or.inl (ho2.trans ho)
      · exact Or.inr ⟨g, ho2.trans ho, hg⟩
    · exact Or.inr ⟨g, ho2, Nat.le_trans h.kept.size hg⟩
/-- What becomes of a reckoning of the reference's that goes on. -/
def RPost (k : Nat) (vl : Value) (w : World) (R : Made) (e : Ending) (w' : World) : Prop := e = .returned (.tuple #[.int .i64 (R.2 : Nat), .int .i64 0]) ∧ RAdd w k vl R.1 w'
def RIs (k : Nat) (vl : Value) (w : World) (R : Made) (e : Ending) (w' : World) : Prop := e = .returned (.tuple #[.int .i64 (R.2 : Nat), .bool true]) ∧ RAdd w k vl R.1 w'
def RNone (w : World) (e : Ending) (w' : World) : Prop := e = .returned (.tuple #[.int .i64 0, .bool false]) ∧ Below w.heap.size w w'
def RMadeSpec (f : Nat) : Prop := ∀ (k : Nat) (vl : Value) (ts : List Term) (op x y : Nat) (w : World), RefAt w k vl ts → Good ts → (doW op 0 0).isSome = true → x < ts.length → y < ts.length →
  mz ts op x y < f → ts.length + f < 1000000000000 → Calls Tryz.prog 37 #[.pointer (some ⟨k, 0, none⟩), .int .i64 op, .int .i64 x, .int .i64 y] w (RPost k vl w (madeF f ts op x y))
set_option maxRecDepth 100000 in
theorem rgoes_any (f : Nat) (hM : RMadeSpec f) (k : Nat) (vl : Value) (ts : List Term) (op x v : Nat) (w : World) (h : RefAt w k vl ts) (hG : Good (ins ts (constT v))) (ho : (doW op 0 0).isSome = true) (hx : x < (ins ts (constT v)).length) (hv : v < 4294967296)
    (hm : mz (ins ts (constT v)) op x (pos ts (constT v)) < f) (hl : ts.length + (f + 1) < 1000000000000) :
    Calls Tryz.prog 87 #[.pointer (some ⟨k, 0, none⟩), .int .i64 op, .int .i64 x, .int .u32 v] w (RIs k vl w (madeF f (ins ts (constT v)) op x (pos ts (constT v)))) := by
  unfold RMadeSpec at hM
  have hl2 := (ins_len ts (constT v)).2
  have hp := pos_lt ts (constT v)
  have hC := rconst_any k vl ts w h (by omega) v hv
  have hS := fun vl' w1 h1 => hM k vl' (ins ts (constT v)) op x (pos ts (constT v)) w1 h1 hG ho hx hp hm (by omega)
  generalize madeF f (ins ts (constT v)) op x (pos ts (constT v)) = R at hS ⊢
  clear hM hm hG
  go_enter Tryz.func87, Tryz.ntmps87
  go_wp2_with fail
  refine hC.mono ?_
  rintro r w1 ⟨rfl, h1⟩
  obtain ⟨vl1, hr1, ho1⟩ := h1.out
  go_wp2_with fail
  refine (hS vl1 w1 hr1).mono ?_
  rintro r w2 ⟨rfl, h2⟩
  go_wp2_with fail
  go_ret2
  refine ⟨rfl, ?_⟩
  exact h1.trans' ho1 h2
end Go.Proofs.YtaiggfknighhgaaGreatDoor
