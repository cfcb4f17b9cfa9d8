/- The law TermDeep, walked. -/
import Derived.Test.YtkleidcepnmioaaTFix
import Derived.Test.YtkleidcepnmioaaLLaid
import Derived.Test.YtkleidcepnmioaaTOut
set_option linter.unusedVariables false
set_option linter.unusedSimpArgs false
namespace Go.Proofs.Ytkleidcepnmioaa
open Go.RowKit Go.Maps Go.MapKept

set_option maxRecDepth 100000 in
set_option maxHeartbeats 4000000 in
theorem tlaw6_any (B : Nat) (e : TypeId) (v : Value) (xs : List SOp) (hf : ∀ x ∈ xs, x.Fits) (o : SOp) (x : Nat → Nat) (hx : ∀ r, x r < 4294967296) (w : World) (hs : SlN B e 5 SOp.five w v xs) :
    Calls Try.prog 8 #[v, .agg o.five.toArray, .agg (regsV x)] w fun e w' => e = .returned (.bool true) ∧ Below w.heap.size w w' := by
  obtain ⟨kd, ov, op, oa, ob⟩ := o
  show Calls Try.prog 8 #[v, .agg #[.int .i64 kd, .int .u32 (ov : Int), .int .i64 op, .int .i64 oa, .int .i64 ob], .agg (regsV x)] w fun e w' => e = .returned (.bool true) ∧ Below w.heap.size w w'
  have hbk := blk_new (w.alloc (.cells #[.int .i64 kd, .int .u32 (ov : Int), .int .i64 op, .int .i64 oa, .int .i64 ob] 51)) (.cells (regsV x) 23)
  obtain ⟨z0, z1, z2, z3, z4⟩ := five_cells (blk_alloc (blk_new w (.cells #[.int .i64 kd, .int .u32 (ov : Int), .int .i64 op, .int .i64 oa, .int .i64 ob] 51)) (.cells (regsV x) 23))
  have b1 := below_alloc1 ((Below.refl w.heap.size w).alloc (Nat.le_refl _) (.cells #[.int .i64 kd, .int .u32 (ov : Int), .int .i64 op, .int .i64 oa, .int .i64 ob] 51)) (.cells (regsV x) 23)
  have hs1 := hs.below b1
  have hL := laid_any B e v xs hf _ hs1
  have hsz := regsV_size x
  have hs0 : (w.alloc (.cells #[.int .i64 kd, .int .u32 (ov : Int), .int .i64 op, .int .i64 oa, .int .i64 ob] 51)).heap.size = w.heap.size + 1 := by simp
  have hsw : ((w.alloc (.cells #[.int .i64 kd, .int .u32 (ov : Int), .int .i64 op, .int .i64 oa, .int .i64 ob] 51)).alloc (.cells (regsV x) 23)).heap.size = w.heap.size + 2 := by simp
  rw [hs0] at hbk
  have S1 := fun K d ts n w hl hn hG h => eval_any K d n ts x hx hl hn hG w h
  obtain ⟨A, cp, rfl, q1, q2, q3⟩ := hs.open_
  obtain ⟨K0, hK⟩ : ∃ K : Nat → Prop, (fun i => i < ((w.alloc (.cells #[.int .i64 kd, .int .u32 (ov : Int), .int .i64 op, .int .i64 oa, .int .i64 ob] 51)).alloc (.cells (regsV x) 23)).heap.size) = K := ⟨_, rfl⟩
  have hz : K0 w.heap.size := by rw [← hK]; show _ < _; omega
  have hz1 : K0 (w.heap.size + 1) := by rw [← hK]; show _ < _; omega
  have hend : ∀ w', Kept K0 ((w.alloc (.cells #[.int .i64 kd, .int .u32 (ov : Int), .int .i64 op, .int .i64 oa, .int .i64 ob] 51)).alloc (.cells (regsV x) 23)) w' → Below w.heap.size w w' := fun w' h => by
    rw [← hK] at h
    exact b1.trans ((below_kept h).mono b1.size)
  rw [hK] at hL
  clear hK hs hf hs1
  generalize regsV x = R at b1 hL hbk hsz hsw S1 hend z0 z1 z2 z3 z4 ⊢
  go_enter Try.func8, Try.ntmps8
  go_wp2_with fail
  refine hL.mono ?_
  rintro r w1 ⟨d, k, ts, rfl, ⟨K, vl, hX⟩, hG, hlen, hk1⟩
  have hb1 := hk1.blk hz1 hbk
  have y2 := hk1.cell hz z2
  have y3 := hk1.cell hz z3
  have y4 := hk1.cell hz z4
  have hD := hX.dag
  have hKK := hX.sub
  clear hL hX hbk b1 hsw z0 z1 z2 z3 z4
  cases hr : (inR oa ts.length && inR ob ts.length)
  · have hN := (op_no K d op oa ob ts (by omega) hr w1 hD)
    go_wp2_with fail
    refine hN.mono ?_
    rintro r w2 ⟨rfl, rfl⟩
    go_wp2_with fail
    refine (tfixed_any _).mono ?_
    rintro r w6 ⟨rfl, b6⟩
    have k6 := hk1.then_below b6
    go_wp2_with fail
    go_ret
    exact ⟨rfl, hend _ k6⟩
  · have hr2 := hr
    rw [Bool.and_eq_true] at hr2
    cases ho : opOk op
    · have hN := op_bad K d op oa ob ts (by omega) hr2.1 hr2.2 ho w1 hD
      go_wp2_with fail
      refine hN.mono ?_
      rintro r w2 ⟨rfl, rfl⟩
      go_wp2_with fail
      refine (tfixed_any _).mono ?_
      rintro r w6 ⟨rfl, b6⟩
      have k6 := hk1.then_below b6
      go_wp2_with fail
      go_ret
      exact ⟨rfl, hend _ k6⟩
    · obtain ⟨a, rfl, ha⟩ := inR_nat hr2.1
      obtain ⟨b, rfl, hb⟩ := inR_nat hr2.2
      obtain ⟨o, rfl, hop⟩ := opOk_nat ho
      have hN := op_any K d o a b ts (by omega) ha hb hop w1 hD
      have hE := ext_ins ts (opT o a b)
      have hG2 := hG.op hop ha hb
      have hl2 := (ins_len ts (opT o a b)).2
      have hp := pos_lt ts (opT o a b)
      have hgd : (ins ts (opT o a b)).getD (pos ts (opT o a b)) default = opT o a b := ins_getD _ _ _
      have hlt := (hG2.op_at hp (by rw [hgd]; rfl)).2
      rw [hgd] at hlt
      have ha2 := Nat.lt_of_lt_of_le ha hE.len
      have hb2 := Nat.lt_of_lt_of_le hb hE.len
      have ev3 : ev (ins ts (opT o a b)) x (pos ts (opT o a b)) = (doW o (ev (ins ts (opT o a b)) x a) (ev (ins ts (opT o a b)) x b)).getD 0 := ev_op hp hgd hlt.1 hlt.2.1
      have vr3 : vr (ins ts (opT o a b)) (pos ts (opT o a b)) = vr (ins ts (opT o a b)) a ||| vr (ins ts (opT o a b)) b := vr_op hp hgd hlt.1 hlt.2.1
      have la := ev_lt hG2 hx a ha2
      have lb := ev_lt hG2 hx b hb2
      have va := vr_lt hG2 a ha2
      have vb := vr_lt hG2 b hb2
      have E1 := fun w h => S1 K d (ins ts (opT o a b)) a w (by omega) ha2 hG2 h
      have E2 := fun w h => S1 K d (ins ts (opT o a b)) b w (by omega) hb2 hG2 h
      have E3 := fun w h => S1 K d (ins ts (opT o a b)) (pos ts (opT o a b)) w (by omega) hp hG2 h
      have V1 := fun w h => vars_any K d a (ins ts (opT o a b)) (by omega) ha2 hG2 w h
      have V2 := fun w h => vars_any K d b (ins ts (opT o a b)) (by omega) hb2 hG2 w h
      have V3 := fun w h => vars_any K d (pos ts (opT o a b)) (ins ts (opT o a b)) (by omega) hp hG2 w h
      rw [ev3] at E3
      rw [vr3] at V3
      generalize ev (ins ts (opT o a b)) x a = ea at E1 E3 la
      generalize ev (ins ts (opT o a b)) x b = eb at E2 E3 lb
      generalize vr (ins ts (opT o a b)) a = va' at V1 V3 va
      generalize vr (ins ts (opT o a b)) b = vb' at V2 V3 vb
      have hDo := fun w => rdo_any o hop ea eb la lb w
      have hor := u32_or va' vb' va vb
      generalize (doW o ea eb).getD 0 = u at E3 hDo
      generalize va' ||| vb' = vo at V3 hor
      generalize pos ts (opT o a b) = n at hN E3 V3
      generalize ins ts (opT o a b) = us at hN E1 E2 E3 V1 V2 V3
      clear ev3 vr3 hgd hlt hE hG2 hp ha2 hb2 hl2 S1
      go_wp2_with fail
      refine hN.mono ?_
      rintro r w2 ⟨rfl, hD2, q2⟩
      have q2' := q2.mono hKK
      have hb2 := q2'.blk hz1 hb1
      have y2 := q2'.cell hz y2
      have y3 := q2'.cell hz y3
      have y4 := q2'.cell hz y4
      have k2 := hk1.trans q2'
      clear hN hb1 hD hk1 q2 q2'
      go_wp2_with (first | (refine wpList_load_row rfl 23 (.tmp 5) rfl (w.heap.size + 1) rfl 23 R (0, 0) _ (by assumption) Try.underlying23 rfl (by rw [hsz]; kernel_rfl) ?_) | fail)
      refine (E1 _ hD2).mono ?_
      rintro r w3 ⟨rfl, b3⟩
      have hD3 := hD2.below b3
      have hb3 := blk_below hb2 b3
      have y2 := cell_below b3 y2
      have y3 := cell_below b3 y3
      have y4 := cell_below b3 y4
      have k3 := k2.then_below b3
      clear E1 hD2 hb2 b3 k2
      go_wp2_with (first | (refine wpList_load_row rfl 23 (.tmp 5) rfl (w.heap.size + 1) rfl 23 R (0, 0) _ (by assumption) Try.underlying23 rfl (by rw [hsz]; kernel_rfl) ?_) | fail)
      refine (E2 _ hD3).mono ?_
      rintro r w4 ⟨rfl, b4⟩
      have hD4 := hD3.below b4
      have hb4 := blk_below hb3 b4
      have y2 := cell_below b4 y2
      have y3 := cell_below b4 y3
      have y4 := cell_below b4 y4
      have k4 := k3.then_below b4
      clear E2 hD3 hb3 b4 k3
      go_wp2_with (first | (refine wpList_load_row rfl 23 (.tmp 5) rfl (w.heap.size + 1) rfl 23 R (0, 0) _ (by assumption) Try.underlying23 rfl (by rw [hsz]; kernel_rfl) ?_) | fail)
      refine (E3 _ hD4).mono ?_
      rintro r w5 ⟨rfl, b5⟩
      have hD5 := hD4.below b5
      have y2 := cell_below b5 y2
      have y3 := cell_below b5 y3
      have y4 := cell_below b5 y4
      have k5 := k4.then_below b5
      clear E3 hD4 hb4 b5 k4
      go_wp2_with fail
      refine (hDo _).mono ?_
      rintro r w6 ⟨rfl, b6⟩
      have hD6 := hD5.below b6
      have y2 := cell_below b6 y2
      have y3 := cell_below b6 y3
      have y4 := cell_below b6 y4
      have k6 := k5.then_below b6
      clear hDo hD5 b6 k5
      go_wp2_with fail
      refine (V1 _ hD6).mono ?_
      rintro r w7 ⟨rfl, b7⟩
      have hD7 := hD6.below b7
      have y3 := cell_below b7 y3
      have y4 := cell_below b7 y4
      have k7 := k6.then_below b7
      clear V1 hD6 b7 k6 y2
      go_wp2_with fail
      refine (V2 _ hD7).mono ?_
      rintro r w8 ⟨rfl, b8⟩
      have hD8 := hD7.below b8
      have k8 := k7.then_below b8
      clear V2 hD7 b8 k7 y3 y4
      go_wp2_with fail
      refine (V3 _ hD8).mono ?_
      rintro r w9 ⟨rfl, b9⟩
      have k9 := k8.then_below b9
      clear V3 hD8 b9 k8
      go_wp2_with fail
      refine (tfixed_any _).mono ?_
      rintro r w10 ⟨rfl, b10⟩
      have k10 := k9.then_below b10
      go_wp2_with fail
      go_ret
      exact ⟨rfl, hend _ k10⟩
end Go.Proofs.Ytkleidcepnmioaa
