/- The law SimpMeans, walked. -/
import Derived.Test.YtekleoccdockhaaGreatDoorSFix
import Derived.Test.YtekleoccdockhaaGreatDoorSMean
import Derived.Test.YtekleoccdockhaaGreatDoorSAllW
import Derived.Test.YtekleoccdockhaaGreatDoorLLaid
import Derived.Test.YtekleoccdockhaaGreatDoorTEval
set_option linter.unusedVariables false
set_option linter.unusedSimpArgs false
namespace Go.Proofs.YtekleoccdockhaaGreatDoor
open Go.RowKit Go.Maps Go.MapKept

theorem u32_andnot (a b : Nat) (ha : a < 4294967296) (hb : b < 4294967296) (h : ∀ r, a.testBit r = true → b.testBit r = true) : bits BinOp.andNot IntKind.u32 (a : Int) (b : Int) = 0 := by
  have e1 : a % 2 ^ IntKind.u32.bits = a := Nat.mod_eq_of_lt ha
  have e2 : b % 2 ^ IntKind.u32.bits = b := Nat.mod_eq_of_lt hb
  have e3 : (BitVec.ofNat 32 a &&& ~~~ BitVec.ofNat 32 b) = 0#32 := by
    apply BitVec.eq_of_getLsbD_eq
    intro i hi
    simp only [BitVec.getLsbD_and, BitVec.getLsbD_not, BitVec.getLsbD_ofNat, hi, decide_true, Bool.true_and, BitVec.getLsbD_zero]
    cases hq : a.testBit i with
    | false => simp
    | true => rw [h i hq]; simp
  simp only [bits, BitVec.ofInt_natCast]
  rw [show IntKind.u32.bits = 32 from rfl, e3]
  rfl
set_option maxRecDepth 100000 in
set_option maxHeartbeats 4000000 in
theorem law7_any (B : Nat) (e : TypeId) (v : Value) (xs : List SOp) (hf : ∀ x ∈ xs, x.Fits) (o : SOp) (x : Nat → Nat) (hx : ∀ r, x r < 4294967296) (w : World) (hs : SlN B e 5 SOp.five w v xs) (hT : Tab w) (hgz : 0 < w.heap.size) :
    Calls Tryz.prog 3 #[v, .agg o.five.toArray, .agg (regsV x)] w fun e w' => e = .returned (.bool true) ∧ Below w.heap.size w w' := by
  obtain ⟨kd, ov, op, oa, ob⟩ := o
  show Calls Tryz.prog 3 #[v, .agg #[.int .i64 kd, .int .u32 (ov : Int), .int .i64 op, .int .i64 oa, .int .i64 ob], .agg (regsV x)] w fun e w' => e = .returned (.bool true) ∧ Below w.heap.size w w'
  have hbk := blk_new (w.alloc (.cells #[.int .i64 kd, .int .u32 (ov : Int), .int .i64 op, .int .i64 oa, .int .i64 ob] 25)) (.cells (regsV x) 26)
  obtain ⟨z0, z1, z2, z3, z4⟩ := five_cells (blk_alloc (blk_new w (.cells #[.int .i64 kd, .int .u32 (ov : Int), .int .i64 op, .int .i64 oa, .int .i64 ob] 25)) (.cells (regsV x) 26))
  have b1 := below_alloc1 ((Below.refl w.heap.size w).alloc (Nat.le_refl _) (.cells #[.int .i64 kd, .int .u32 (ov : Int), .int .i64 op, .int .i64 oa, .int .i64 ob] 25)) (.cells (regsV x) 26)
  have hs1 := hs.below b1
  have hT1 := hT.below b1
  have hL := laid_any B e v xs hf _ hs1
  have hsz := regsV_size x
  have hs0 : (w.alloc (.cells #[.int .i64 kd, .int .u32 (ov : Int), .int .i64 op, .int .i64 oa, .int .i64 ob] 25)).heap.size = w.heap.size + 1 := by simp
  have hsw : ((w.alloc (.cells #[.int .i64 kd, .int .u32 (ov : Int), .int .i64 op, .int .i64 oa, .int .i64 ob] 25)).alloc (.cells (regsV x) 26)).heap.size = w.heap.size + 2 := by simp
  rw [hs0] at hbk
  have S1 := fun K d ts n w hl hn hG h => eval_any K d n ts x hx hl hn hG w h
  obtain ⟨A, cp, rfl, q1, q2, q3⟩ := hs.open_
  obtain ⟨K0, hK⟩ : ∃ K : Nat → Prop, (fun i => i < ((w.alloc (.cells #[.int .i64 kd, .int .u32 (ov : Int), .int .i64 op, .int .i64 oa, .int .i64 ob] 25)).alloc (.cells (regsV x) 26)).heap.size) = K := ⟨_, rfl⟩
  have hg : K0 0 := by rw [← hK]; show _ < _; omega
  have hz : K0 w.heap.size := by rw [← hK]; show _ < _; omega
  have hz1 : K0 (w.heap.size + 1) := by rw [← hK]; show _ < _; omega
  have hend : ∀ w', Kept K0 ((w.alloc (.cells #[.int .i64 kd, .int .u32 (ov : Int), .int .i64 op, .int .i64 oa, .int .i64 ob] 25)).alloc (.cells (regsV x) 26)) w' → Below w.heap.size w w' := fun w' h => by
    rw [← hK] at h
    exact b1.trans ((below_kept h).mono b1.size)
  have hgsz : ∀ w', Kept K0 ((w.alloc (.cells #[.int .i64 kd, .int .u32 (ov : Int), .int .i64 op, .int .i64 oa, .int .i64 ob] 25)).alloc (.cells (regsV x) 26)) w' → 0 < w'.heap.size := fun w' h => by have := h.size; omega
  rw [hK] at hL
  clear hK hs hf hs1
  generalize regsV x = R at b1 hL hbk hsz hsw S1 hend hgsz hT1 z0 z1 z2 z3 z4 ⊢
  go_enter Tryz.func3, Tryz.ntmps3
  go_wp2_with fail
  refine hL.mono ?_
  rintro r w1 ⟨d, k, ts, rfl, ⟨K, vl, hX⟩, hG, hlen, hk1⟩
  have hb1 := hk1.blk hz1 hbk
  have y2 := hk1.cell hz z2
  have y3 := hk1.cell hz z3
  have y4 := hk1.cell hz z4
  have hT2 := hT1.kept hk1 hg
  have hD := hX.dag
  have hKK := hX.sub
  have hgK := hKK _ hg
  clear hL hX hbk b1 hsw z0 z1 z2 z3 z4 hT1 hT
  cases hr : (inR oa ts.length && inR ob ts.length)
  · have hN := op_no K d op oa ob ts (by omega) hr w1 hD
    have hM := simpOp_no K d op oa ob ts (by omega) hr w1 hD
    go_wp2_with fail
    refine hN.mono ?_
    rintro r w2 ⟨rfl, rfl⟩
    go_wp2_with fail
    refine hM.mono ?_
    rintro r w3 ⟨rfl, b3⟩
    have k3 := hk1.then_below b3
    go_wp2_with fail
    refine (fixed_any _ (hT2.below b3) (hgsz _ k3)).mono ?_
    rintro r w6 ⟨rfl, b6⟩
    have k6 := k3.then_below b6
    go_wp2_with fail
    go_ret
    exact ⟨rfl, hend _ k6⟩
  · have hr2 := hr
    rw [Bool.and_eq_true] at hr2
    cases ho : opOk op
    · have hN := op_bad K d op oa ob ts (by omega) hr2.1 hr2.2 ho w1 hD
      obtain ⟨a, rfl, ha⟩ := inR_nat hr2.1
      obtain ⟨b, rfl, hb⟩ := inR_nat hr2.2
      have hM := simpOp_bad K d op a b ts (by omega) ha hb ho w1 hD
      go_wp2_with fail
      refine hN.mono ?_
      rintro r w2 ⟨rfl, rfl⟩
      go_wp2_with fail
      refine hM.mono ?_
      rintro r w3 ⟨rfl, b3⟩
      have k3 := hk1.then_below b3
      go_wp2_with fail
      refine (fixed_any _ (hT2.below b3) (hgsz _ k3)).mono ?_
      rintro r w6 ⟨rfl, b6⟩
      have k6 := k3.then_below b6
      go_wp2_with fail
      go_ret
      exact ⟨rfl, hend _ k6⟩
    · obtain ⟨a, rfl, ha⟩ := inR_nat hr2.1
      obtain ⟨b, rfl, hb⟩ := inR_nat hr2.2
      obtain ⟨o, rfl, hop⟩ := opOk_nat ho
      have hN := op_any K d o a b ts (by omega) ha hb hop w1 hD
      have hE := ext_ins ts (opT o a b)
      have hG1 := hG.op hop ha hb
      have hl1 := (ins_len ts (opT o a b)).2
      have hp := pos_lt ts (opT o a b)
      have hgd : (ins ts (opT o a b)).getD (pos ts (opT o a b)) default = opT o a b := ins_getD _ _ _
      have hlt := (hG1.op_at hp (by rw [hgd]; rfl)).2
      rw [hgd] at hlt
      have ha1 := Nat.lt_of_lt_of_le ha hE.len
      have hb1' := Nat.lt_of_lt_of_le hb hE.len
      have evn : ev (ins ts (opT o a b)) x (pos ts (opT o a b)) = (doW o (ev (ins ts (opT o a b)) x a) (ev (ins ts (opT o a b)) x b)).getD 0 := ev_op hp hgd hlt.1 hlt.2.1
      have vrn : vr (ins ts (opT o a b)) (pos ts (opT o a b)) = vr (ins ts (opT o a b)) a ||| vr (ins ts (opT o a b)) b := vr_op hp hgd hlt.1 hlt.2.1
      generalize pos ts (opT o a b) = n at hN hp hgd hlt evn vrn
      generalize ins ts (opT o a b) = ts1 at hN hE hG1 hl1 hp hgd hlt ha1 hb1' evn vrn
      -- made simple
      have hM := fun w hT h => simpOp_any K d o a b ts1 (by omega) ha1 hb1' hop hG1 hgK w hT h
      obtain ⟨gd2, nm, ex2⟩ := made_ok hG1 hop ha1 hb1'
      have hl2 := (made_dp hG1 hop ha1 hb1').1
      have da := dp_le hG1 ha1
      have db := dp_le hG1 hb1'
      have mm := made_mean hx hG1 hop ha1 hb1'
      generalize made ts1 o a b = R2 at hM gd2 nm ex2 hl2 mm
      obtain ⟨ts2, m⟩ := R2
      dsimp only at gd2 nm ex2 hl2 mm
      have hn2 := Nat.lt_of_lt_of_le hp ex2.len
      -- made simple from within
      obtain ⟨gd3, ex3, nk, dk, hl3⟩ := allT_ok gd2 hn2
      have hl3' := hl3 ts2.length (fun i hi => by have := dp_le gd2 hi; omega)
      have hmul : ts2.length * (8 * ts2.length + 10) ≤ 1000 * (8 * 1000 + 10) := Nat.mul_le_mul (by omega) (by omega)
      have hA := fun w hT h => simpAll_any K d n ts2 (by omega) hn2 gd2 hgK w hT h
      have am := allT_mean hx gd2 hn2
      generalize allT ts2 n = R3 at hA gd3 ex3 nk hl3' am
      obtain ⟨ts3, kk⟩ := R3
      dsimp only at gd3 ex3 nk hl3' am
      have hn3 := Nat.lt_of_lt_of_le hn2 ex3.len
      have hm3 := Nat.lt_of_lt_of_le nm ex3.len
      have en : ev ts3 x n = ev ts1 x n := by rw [ev_ext ex3 hn2, ev_ext ex2 hp]
      have em : ev ts3 x m = ev ts1 x n := by rw [ev_ext ex3 nm, mm.ev_, evn]
      have ek : ev ts3 x kk = ev ts1 x n := by rw [am.1, ev_ext ex2 hp]
      have vn : vr ts3 n = vr ts1 n := by rw [vr_ext ex3 hn2, vr_ext ex2 hp]
      have vm : ∀ r, (vr ts3 m).testBit r = true → (vr ts1 n).testBit r = true := fun r hr => by
        rw [vr_ext ex3 nm] at hr
        rw [vrn, Nat.testBit_or, Bool.or_eq_true]
        exact mm.vr_ r hr
      have vk : ∀ r, (vr ts3 kk).testBit r = true → (vr ts1 n).testBit r = true := fun r hr => by
        have := am.2 r hr
        rw [vr_ext ex2 hp] at this
        exact this
      have A1 := u32_andnot (vr ts3 m) (vr ts3 n) (vr_lt gd3 m hm3) (vr_lt gd3 n hn3) (by rw [vn]; exact vm)
      have A2 := u32_andnot (vr ts3 kk) (vr ts3 n) (vr_lt gd3 kk nk) (vr_lt gd3 n hn3) (by rw [vn]; exact vk)
      have E1 := fun w h => S1 K d ts3 n w (by omega) hn3 gd3 h
      have E2 := fun w h => S1 K d ts3 m w (by omega) hm3 gd3 h
      have E3 := fun w h => S1 K d ts3 kk w (by omega) nk gd3 h
      have V1 := fun w h => vars_any K d n ts3 (by omega) hn3 gd3 w h
      have V2 := fun w h => vars_any K d m ts3 (by omega) hm3 gd3 w h
      have V3 := fun w h => vars_any K d kk ts3 (by omega) nk gd3 w h
      rw [en] at E1
      rw [em] at E2
      rw [ek] at E3
      generalize ev ts1 x n = u at E1 E2 E3
      generalize vr ts3 n = v1 at V1 A1 A2
      generalize vr ts3 m = v2 at V2 A1
      generalize vr ts3 kk = v3 at V3 A2
      clear en em ek vn vm vk evn vrn hgd hlt mm am hE hG1 gd2 gd3 ex2 ex3 S1 dk hl3 hl3' hmul hl2 hl1 da db hp ha1 hb1' nm nk hn2 hn3 hm3
      go_wp2_with fail
      refine hN.mono ?_
      rintro r w2 ⟨rfl, hD2, q2⟩
      have q2' := q2.mono hKK
      have hb2 := q2'.blk hz1 hb1
      have hT3 := hT2.kept q2' hg
      have y2 := q2'.cell hz y2
      have y3 := q2'.cell hz y3
      have y4 := q2'.cell hz y4
      have k2 := hk1.trans q2'
      clear hN hb1 hD hk1 q2 q2' hT2
      go_wp2_with fail
      refine (hM _ hT3 hD2).mono ?_
      rintro r w3 ⟨rfl, hD3, q3⟩
      have q3' := q3.mono hKK
      have hb3 := q3'.blk hz1 hb2
      have hT4 := hT3.kept q3' hg
      have k3 := k2.trans q3'
      clear hM hb2 hD2 k2 q3 q3' hT3 y2 y3 y4
      go_wp2_with fail
      refine (hA _ hT4 hD3).mono ?_
      rintro r w4 ⟨rfl, hD4, q4⟩
      have q4' := q4.mono hKK
      have hb4 := q4'.blk hz1 hb3
      have hT5 := hT4.kept q4' hg
      have k4 := k3.trans q4'
      clear hA hb3 hD3 k3 q4 q4' hT4
      go_wp2_with (first | (refine wpList_load_row rfl 26 (.tmp 5) rfl (w.heap.size + 1) rfl 26 R (0, 0) _ (by assumption) Tryz.underlying26 rfl (by rw [hsz]; kernel_rfl) ?_) | fail)
      refine (E1 _ hD4).mono ?_
      rintro r w5 ⟨rfl, b5⟩
      have hD5 := hD4.below b5
      have hb5 := blk_below hb4 b5
      have hT6 := hT5.below b5
      have k5 := k4.then_below b5
      clear E1 hD4 hb4 b5 k4 hT5
      go_wp2_with (first | (refine wpList_load_row rfl 26 (.tmp 5) rfl (w.heap.size + 1) rfl 26 R (0, 0) _ (by assumption) Tryz.underlying26 rfl (by rw [hsz]; kernel_rfl) ?_) | fail)
      refine (E2 _ hD5).mono ?_
      rintro r w6 ⟨rfl, b6⟩
      have hD6 := hD5.below b6
      have hb6 := blk_below hb5 b6
      have hT7 := hT6.below b6
      have k6 := k5.then_below b6
      clear E2 hD5 hb5 b6 k5 hT6
      go_wp2_with (first | (refine wpList_load_row rfl 26 (.tmp 5) rfl (w.heap.size + 1) rfl 26 R (0, 0) _ (by assumption) Tryz.underlying26 rfl (by rw [hsz]; kernel_rfl) ?_) | fail)
      refine (E3 _ hD6).mono ?_
      rintro r w7 ⟨rfl, b7⟩
      have hD7 := hD6.below b7
      have hT8 := hT7.below b7
      have k7 := k6.then_below b7
      clear E3 hD6 hb6 b7 k6 hT7
      go_wp2_with fail
      refine (V1 _ hD7).mono ?_
      rintro r w8 ⟨rfl, b8⟩
      have hD8 := hD7.below b8
      have hT9 := hT8.below b8
      have k8 := k7.then_below b8
      clear V1 hD7 b8 k7 hT8
      go_wp2_with fail
      refine (V2 _ hD8).mono ?_
      rintro r w9 ⟨rfl, b9⟩
      have hD9 := hD8.below b9
      have hT10 := hT9.below b9
      have k9 := k8.then_below b9
      clear V2 hD8 b9 k8 hT9
      go_wp2_with fail
      refine (V3 _ hD9).mono ?_
      rintro r w10 ⟨rfl, b10⟩
      have hT11 := hT10.below b10
      have k10 := k9.then_below b10
      clear V3 hD9 b10 k9 hT10
      go_wp2_with fail
      refine (fixed_any _ hT11 (hgsz _ k10)).mono ?_
      rintro r w11 ⟨rfl, b11⟩
      have k11 := k10.then_below b11
      go_wp2_with fail
      go_ret
      exact ⟨rfl, hend _ k11⟩
end Go.Proofs.YtekleoccdockhaaGreatDoor
