/- The walks of Lists, Lit, Clause. -/
import Derived.Test.YtpafgieijplehaaOthW
import Derived.Test.YtpafgieijplehaaLawB
set_option linter.unusedVariables false
set_option linter.unusedSimpArgs false
namespace Go.Proofs.Ytpafgieijplehaa
open Go.RowKit

set_option maxRecDepth 100000 in
theorem same_any (b0 b1 : Nat) (a b : List (List Int)) (va vb : Value) (w : World) (ha : Grid b0 w va a) (hb : Grid b1 w vb b) :
    Calls Try.prog 17 #[va, vb] w fun e w' => e = .returned (.bool (sameGrid a b)) ∧ ∃ m, w' = w.drewN m := by
  obtain ⟨A, c, rfl, hlc, hcm, _⟩ := ha.open_
  obtain ⟨B, d, rfl, _, hdm, _⟩ := hb.open_
  have hla : a.length ≤ 9223372036854775807 := by unfold maxLen at hcm; omega
  clear hlc hcm
  by_cases hle : a.length = b.length
  · have hb2 := hb
    rw [← hle] at hb2
    have HL := Lib.hid hle
    rw [← hle]
    clear hle
    go_enter Try.func17, Try.ntmps17
    go_wp2
    go_loopw [5] (fun i wr => ∃ k : Nat, k ≤ a.length ∧ i = .int .i64 k ∧ Hid (sameGrid (a.drop k) (b.drop k) = sameGrid a b) ∧ ∃ m, wr = w.drewN m) (fun i _ => a.length - (intOf i).toNat)
    case atStart => exact ⟨0, Nat.zero_le _, rfl, Lib.hid (by simp), 0, rfl⟩
    case round =>
      obtain ⟨k, hk, rfl, H, mm, hmm⟩ := hrel
      have ha3 : Grid b0 wr (.slice A a.length c) a := by rw [hmm]; exact grid_drewN ha mm
      have hb3 : Grid b1 wr (.slice B a.length d) b := by rw [hmm]; exact grid_drewN hb2 mm
      have HM := Lib.hid hmm
      clear hmm
      by_cases hlt : k < a.length
      · obtain ⟨b1, off, u, rfl, hc, hu⟩ := ha3.at_ hlt []
        obtain ⟨b2, off2, u2, rfl, hc2, hu2⟩ := hb3.at_ (k := k) (by rw [← HL.out]; exact hlt) []
        have HD := Lib.hid (drop_cons hlt [])
        have HD2 := Lib.hid (drop_cons (show k < b.length by rw [← HL.out]; exact hlt) [])
        generalize a.getD k [] = x at hc HD hu
        generalize b.getD k [] = y at hc2 HD2 hu2
        have hN := fun n => Calls.quiet_of (n := n) (nums_any _ _ x y u u2 _ (row_drewN hu n) (row_drewN hu2 n))
        go_wp2
        go_quiet ((go_at_call 24; exact hN _))
        go_wp2
        · have hne : sameRow x y = false := by have h : (!sameRow x y) = true := by assumption
                                               simpa using h
          go_ret
          refine ⟨ret_val (congrArg Value.bool ?_), _, by rw [HM.out]; exact World.drewN_drewN _ _ _⟩
          rw [← H.out, HD.out, HD2.out, sameGrid_cons, hne]; rfl
        · have hne : sameRow x y = true := by have h : (!sameRow x y) = false := by assumption
                                              simpa using h
          have R := Lib.hid (show sameGrid (a.drop (k + 1)) (b.drop (k + 1)) = sameGrid a b by
            rw [← H.out, HD.out, HD2.out, sameGrid_cons, hne]; rfl)
          go_roundw
          case rel => exact ⟨k + 1, by omega, by go_num, R, _, by rw [HM.out]; exact World.drewN_drewN _ _ _⟩
          case measure => simp [intOf]; omega
      · go_wp2
        go_ret
        refine ⟨ret_val (congrArg Value.bool ?_), mm, HM.out⟩
        rw [← H.out, List.drop_eq_nil_of_le (by omega), List.drop_eq_nil_of_le (by rw [← HL.out]; omega)]
        rfl
  · have hne : ((a.length : Int) != (b.length : Int)) = true := by simp; omega
    go_enter Try.func17, Try.ntmps17
    go_wp2
    go_ret
    refine ⟨ret_val (congrArg Value.bool ?_), 0, rfl⟩
    symm
    unfold sameGrid
    rw [beq_eq_false_iff_ne]
    exact fun e => hle (by rw [e])

theorem same_val (b0 b1 : Nat) (a b : List (List Int)) (va vb : Value) (w : World) (ha : Grid b0 w va a) (hb : Grid b1 w vb b) (r : Bool) (hr : sameGrid a b = r) :
    Calls Try.prog 17 #[va, vb] w fun e w' => e = .returned (.bool r) ∧ Below w.heap.size w w' :=
  (same_any b0 b1 a b va vb w ha hb).mono fun _ _ ⟨h1, m, h2⟩ => ⟨by rw [h1, hr], by rw [h2]; exact below_drewN (Below.refl _ _) _⟩
theorem lit_any (b0 : Nat) (a : List Bool) (x : Int) (va : Value) (w : World) (ha : Sl b0 4 Bit w va a) (h1 : -9223372036854775808 ≤ x) (h2 : x ≤ 9223372036854775807) (hlen : a.length ≤ 1000000) :
    Calls Try.prog 25 #[.int .i64 x, va] w fun e w' => e = .returned (.bool (litAt a x)) ∧ ∃ m, w' = w.drewN m := by
  obtain ⟨A, c, rfl, hlc, hcm, _⟩ := ha.open_
  clear hlc hcm
  go_enter Try.func25, Try.ntmps25
  go_wp2
  go_loopw [5] (fun i wr => ∃ k : Nat, k ≤ a.length ∧ i = .int .i64 ((k : Int) + 1) ∧ (∀ j : Nat, j < k → x ≠ (j : Int) + 1 ∧ x ≠ -((j : Int) + 1)) ∧ ∃ m, wr = w.drewN m) (fun i _ => a.length + 1 - (intOf i).toNat)
  case atStart => exact ⟨0, Nat.zero_le _, rfl, fun j hj => by omega, 0, rfl⟩
  case round =>
    obtain ⟨k, hk, rfl, H, mm, hmm⟩ := hrel
    have ha3 : Sl b0 4 Bit wr (.slice A a.length c) a := by rw [hmm]; exact (Sl.stable (T := [4]) (stable_bit _ _) (by decide)) _ _ _ _ (Quiet.below (below_drewN (Below.refl _ _) mm)) ha
    have HM := Lib.hid hmm
    clear hmm
    replace H := Lib.hid H
    by_cases hlt : k < a.length
    · obtain ⟨b, off, u, rfl, hc, hu⟩ := ha3.at_ hlt false
      obtain rfl := hu
      have hk2 : k + 1 ≤ a.length := hlt
      go_wp2
      · have e : (x == (k : Int) + 1) = true := by assumption
        have e2 : x = (k : Int) + 1 := by simpa using e
        go_ret
        refine ⟨ret_val (congrArg Value.bool ?_), mm, HM.out⟩
        unfold litAt
        rw [if_pos (by omega), e2, show ((k : Int) + 1 - 1).toNat = k by omega]
        simp [List.getD, hlt]
      · have e : (x == -((k : Int) + 1)) = true := by assumption
        have e2 : x = -((k : Int) + 1) := by simpa using e
        go_ret
        refine ⟨ret_val (congrArg Value.bool ?_), mm, HM.out⟩
        unfold litAt
        rw [if_neg (by omega), if_pos (by omega), e2, show (-(-((k : Int) + 1)) - 1).toNat = k by omega]
        simp [List.getD, hlt]
      · have e : (x == (k : Int) + 1) = false := by assumption
        have e2 : (x == -((k : Int) + 1)) = false := by assumption
        have R : ∀ j : Nat, j < k + 1 → x ≠ (j : Int) + 1 ∧ x ≠ -((j : Int) + 1) := fun j hj => by
          by_cases h : j = k
          · subst h
            exact ⟨by simpa using e, by simpa using e2⟩
          · exact H.out j (by omega)
        go_roundw
        case rel => exact ⟨k + 1, by omega, by go_num, R, mm, HM.out⟩
        case measure => simp [intOf]; omega
    · have hkk : k = a.length := by omega
      have hno : ¬ (1 ≤ x ∧ x ≤ a.length) := fun ⟨p, q⟩ => by
        have := (H.out (x - 1).toNat (by omega)).1
        omega
      have hno2 : ¬ (1 ≤ -x ∧ -x ≤ a.length) := fun ⟨p, q⟩ => by
        have := (H.out (-x - 1).toNat (by omega)).2
        omega
      have R := Lib.hid (show litAt a x = (decide (x < 0) && !(x == -9223372036854775808)) by unfold litAt; rw [if_neg hno, if_neg hno2])
      clear hno hno2 hkk
      go_wp2
      · have h3 : x < 0 := by assumption
        go_ret
        refine ⟨ret_val (congrArg Value.bool ?_), mm, HM.out⟩
        rw [R.out, Bool.eq_iff_iff]
        simp only [decide_eq_true_eq, Bool.and_eq_true, Bool.not_eq_true', beq_eq_false_iff_ne]
        unfold wrap64
        omega
      · have h3 : 0 ≤ x := by assumption
        go_ret
        refine ⟨ret_val (congrArg Value.bool ?_), mm, HM.out⟩
        rw [R.out, decide_eq_false (by omega)]
        rfl

abbrev Bits (b : Nat) : Rep (List Bool) := Sl b 4 Bit
theorem bits_q {b B : Nat} {w w' : World} {v : Value} {l : List Bool} (h : Bits b w v l) (hq : Quiet B [4] w w') (hb : b ≤ B := by omega) : Bits b w' v l := (Sl.stable (T := [4]) (stable_bit _ _) (by decide)) _ _ _ _ (hq.mono hb (fun _ h => h)) h
theorem bits_re {b B : Nat} {w : World} {v : Value} {l : List Bool} (h : Bits b w v l) (hB : w.heap.size ≤ B) : Bits B w v l := Sl.reB h (fun _ _ _ h => h) B hB
theorem bits_below {b : Nat} {w w' : World} {v : Value} {l : List Bool} (h : Bits b w v l) (hb : Below w.heap.size w w') : Bits b w' v l := (Sl.stable (T := [4]) (stable_bit _ _) (by decide)) _ _ _ _ (Quiet.below hb) h
set_option maxRecDepth 100000 in
theorem clause_any (b0 b1 : Nat) (l : List Int) (a : List Bool) (vl va : Value) (w : World) (hl : Row b1 w vl l) (ha : Bits b0 w va a) (hlen : a.length ≤ 1000000) :
    Calls Try.prog 18 #[vl, va] w fun e w' => e = .returned (.bool (clauseAt a l)) ∧ ∃ m, w' = w.drewN m := by
  obtain ⟨A, c, rfl, hlc, hcm, _⟩ := hl.open_
  have hla : l.length ≤ 9223372036854775807 := by unfold maxLen at hcm; omega
  clear hlc hcm
  go_enter Try.func18, Try.ntmps18
  go_wp2
  go_loopw [5] (fun i wr => ∃ k : Nat, k ≤ l.length ∧ i = .int .i64 k ∧ Hid (clauseAt a (l.drop k) = clauseAt a l) ∧ ∃ m, wr = w.drewN m) (fun i _ => l.length - (intOf i).toNat)
  case atStart => exact ⟨0, Nat.zero_le _, rfl, Lib.hid (by simp), 0, rfl⟩
  case round =>
    obtain ⟨k, hk, rfl, H, mm, hmm⟩ := hrel
    have hl3 : Row b1 wr (.slice A l.length c) l := by rw [hmm]; exact row_drewN hl mm
    have ha3 : Bits b0 wr va a := by rw [hmm]; exact bits_below ha (below_drewN (Below.refl _ _) mm)
    have HM := Lib.hid hmm
    clear hmm
    by_cases hlt : k < l.length
    · obtain ⟨b, off, u, rfl, hc, rfl, hx1, hx2⟩ := hl3.at_ hlt 0
      have HD := Lib.hid (drop_cons hlt 0)
      generalize l.getD k 0 = x at hc HD hx1 hx2
      have hN := fun n => Calls.quiet_of (n := n) (lit_any _ a x va (wr.drewN n) (bits_below ha3 (below_drewN (Below.refl _ _) n)) hx1 hx2 hlen)
      go_wp2_with (go_at_call 25; refine (hN 0).mono ?_; rintro e w' ⟨rfl, m2, rfl⟩)
      · have h : litAt a x = true := by assumption
        go_ret
        refine ⟨ret_val (congrArg Value.bool ?_), _, by rw [HM.out]; exact World.drewN_drewN _ _ _⟩
        rw [← H.out, HD.out, clauseAt_cons, h]
        rfl
      · have h : litAt a x = false := by assumption
        have R := Lib.hid (show clauseAt a (l.drop (k + 1)) = clauseAt a l by rw [← H.out, HD.out, clauseAt_cons, h]; rfl)
        go_roundw
        case rel => exact ⟨k + 1, by omega, by go_num, R, _, by rw [HM.out]; exact World.drewN_drewN _ _ _⟩
        case measure => simp [intOf]; omega
    · go_wp2
      go_ret
      refine ⟨ret_val (congrArg Value.bool ?_), mm, HM.out⟩
      rw [← H.out, List.drop_eq_nil_of_le (by omega)]
      rfl
theorem clause_val (b0 b1 : Nat) (l : List Int) (a : List Bool) (vl va : Value) (w : World) (hl : Row b1 w vl l) (ha : Bits b0 w va a) (hlen : a.length ≤ 1000000) (r : Bool) (hr : clauseAt a l = r) :
    Calls Try.prog 18 #[vl, va] w fun e w' => e = .returned (.bool r) ∧ Below w.heap.size w w' :=
  (clause_any b0 b1 l a vl va w hl ha hlen).mono fun _ _ ⟨h1, m, h2⟩ => ⟨by rw [h1, hr], by rw [h2]; exact below_drewN (Below.refl _ _) _⟩
end Go.Proofs.Ytpafgieijplehaa
