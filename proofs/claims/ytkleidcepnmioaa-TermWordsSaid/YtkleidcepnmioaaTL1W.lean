/- The law TermWords, walked. -/
import Derived.Test.YtkleidcepnmioaaTFix
import Derived.Test.YtkleidcepnmioaaTOut
import Derived.Test.YtkleidcepnmioaaMask
set_option linter.unusedVariables false
set_option linter.unusedSimpArgs false
namespace Go.Proofs.Ytkleidcepnmioaa
open Go.RowKit Go.Maps Go.MapKept

set_option maxRecDepth 100000 in
set_option maxHeartbeats 4000000 in
theorem tlaw1_any (v : Nat) (r : Int) (x : Nat → Nat) (hv : v < 4294967296) (hx : ∀ r, x r < 4294967296) (w : World) :
    Calls Try.prog 3 #[.int .u32 v, .int .i64 r, .agg (regsV x)] w fun e w' => e = .returned (.bool true) ∧ Below w.heap.size w w' := by
  obtain ⟨m, kk, hm1, hm2, hk31, hm3⟩ : ∃ m k : Nat, bits BinOp.and IntKind.i64 r 65535 = (m : Int) ∧ (m : Int) % 31 = (k : Int) ∧ k < 31 ∧ m < 65536 :=
    ⟨(r % 65536).toNat, (r % 65536).toNat % 31, by rw [i64_ffff]; omega, by omega, by omega, by omega⟩
  obtain ⟨k, hk⟩ : ∃ k, kk + 1 = k := ⟨_, rfl⟩
  have hk1 : 1 + (kk : Int) = (k : Int) := by omega
  have hk32 : k < 32 := by omega
  have hk0 : 1 ≤ k := by omega
  have b1 := (Below.refl w.heap.size w).alloc (Nat.le_refl _) (.cells (regsV x) 23)
  have hbk := blk_new w (.cells (regsV x) 23)
  have hsz := regsV_size x
  have hsw : (w.alloc (.cells (regsV x) 23)).heap.size = w.heap.size + 1 := by simp
  have hN := new_any (fun i => i < (w.alloc (.cells (regsV x) 23)).heap.size) (w.alloc (.cells (regsV x) 23)) (fun i hi => hi)
  obtain ⟨K0, hK⟩ : ∃ K : Nat → Prop, (fun i => i < (w.alloc (.cells (regsV x) 23)).heap.size) = K := ⟨_, rfl⟩
  have hz : K0 w.heap.size := by rw [← hK]; show _ < _; omega
  have hend : ∀ w', Kept K0 (w.alloc (.cells (regsV x) 23)) w' → Below w.heap.size w w' := fun w' h => by
    rw [← hK] at h
    exact b1.trans ((below_kept h).mono b1.size)
  rw [hK, hsw] at hN
  clear hK
  -- the terms
  have g0 := Good.nil
  have g1 := g0.const hv
  have g2 := g1.var (r := k) hk0 hk32
  have hvk : varTm k = varT k := by unfold varTm; rw [if_neg (by omega)]
  have e1 : ins [] (constT v) = [constT v] := by simp [ins]
  have p1 : pos [] (constT v) = 0 := rfl
  have hnm : varT k ∉ [constT v] := by simp [varT, constT]
  have e2 : ins [constT v] (varT k) = [constT v, varT k] := by unfold ins; rw [if_neg hnm]; rfl
  have p2 : pos [constT v] (varT k) = 1 := pos_new hnm
  rw [e1] at g1 g2
  rw [e2] at g2
  have C1 := fun K b w h => const_any K b v [] hv (by decide) w h
  have C2 := fun K b w h => var_any K b k [constT v] hk32 (by simp : [constT v].length < 1000000000000) w h
  have V1 := fun K b w h => eval_any K b 0 [constT v, varT k] x hx (by simp : [constT v, varT k].length < 100000000000) (by simp) g2 w h
  have V2 := fun K b w h => eval_any K b 1 [constT v, varT k] x hx (by simp : [constT v, varT k].length < 100000000000) (by simp) g2 w h
  have W1 := fun K b w h => vars_any K b 0 [constT v, varT k] (by simp : [constT v, varT k].length < 100000000000) (by simp) g2 w h
  have W2 := fun K b w h => vars_any K b 1 [constT v, varT k] (by simp : [constT v, varT k].length < 100000000000) (by simp) g2 w h
  rw [e1, p1] at C1
  rw [hvk, e2, p2] at C2
  rw [show ev [constT v, varT k] x 0 = v from rfl] at V1
  rw [show ev [constT v, varT k] x 1 = x k from rfl] at V2
  rw [show vr [constT v, varT k] 0 = 0 from rfl] at W1
  rw [show vr [constT v, varT k] 1 = 2 ^ k from rfl] at W2
  have C3 := fun K b w h => var_any K b 0 [constT v, varT k] (by omega) (by simp : [constT v, varT k].length < 1000000000000) w h
  have hvz : varTm 0 = constT 0 := rfl
  rw [hvz] at C3
  have hl3 := (ins_len [constT v, varT k] (constT 0)).2
  have C4 := fun K b w h => const_any K b 0 (ins [constT v, varT k] (constT 0)) (by omega) (Nat.lt_of_le_of_lt hl3 (by simp)) w h
  have hp4 : pos (ins [constT v, varT k] (constT 0)) (constT 0) = pos [constT v, varT k] (constT 0) := by
    unfold ins
    split
    · rfl
    · rename_i hn
      rw [pos_new hn]
      unfold pos
      rw [List.findIdx_append]
      have := pos_new hn
      unfold pos at this
      rw [this, if_neg (by omega)]
      simp
  rw [hp4] at C4
  generalize pos [constT v, varT k] (constT 0) = z at C3 C4
  have hp32 : 2 ^ k < 4294967296 := by
    have := Nat.pow_le_pow_right (n := 2) (by omega) (by omega : k ≤ 31)
    omega
  have hpe : (2 : Int) ^ k = ((2 ^ k : Nat) : Int) := by simp
  have hpm : (2 : Int) ^ k % 4294967296 = ((2 ^ k : Nat) : Int) := by rw [hpe]; exact mod_u32 hp32
  have hxk := regs_cell hbk hk32
  have hk32' : (k : Int) < 32 := by omega
  generalize x k = xk at V2 hxk
  generalize regsV x = R at b1 hbk hsz hsw hN V1 V2 hend hxk ⊢
  generalize hqq : 2 ^ k = q at W2 hpe hpm
  clear hqq hp32 hp4 hl3 hvz e1 e2 p1 p2 hnm hvk g0 g1 g2
  go_enter Try.func3, Try.ntmps3
  go_wp2_with fail
  refine hN.mono ?_
  rintro r w1 ⟨rfl, h1, b2⟩
  have k1 : Kept K0 (w.alloc (.cells R 23)) w1 := Kept.below (by rw [hsw]; exact b2)
  clear hN b1 b2
  go_wp2_with fail
  refine (C1 _ _ _ h1).mono ?_
  rintro r w2 ⟨rfl, h2, q2⟩
  have k2 := k1.trans q2
  clear C1 h1 k1 q2
  go_wp2_with fail
  refine (C2 _ _ _ h2).mono ?_
  rintro r w3 ⟨rfl, h3, q3⟩
  have k3 := k2.trans q3
  have hb3 := k3.blk hz hbk
  clear C2 h2 k2 q3
  go_wp2_with (first | (refine wpList_load_row rfl 23 (.tmp 5) rfl w.heap.size rfl 23 R (0, 0) _ (by assumption) Try.underlying23 rfl (by rw [hsz]; kernel_rfl) ?_) | fail)
  refine (V1 _ _ _ h3).mono ?_
  rintro r w4 ⟨rfl, b4⟩
  have h4 := h3.below b4
  have k4 := k3.then_below b4
  have hb4 := blk_below hb3 b4
  clear V1 h3 k3 b4 hb3
  go_wp2_with (first | (refine wpList_load_row rfl 23 (.tmp 5) rfl w.heap.size rfl 23 R (0, 0) _ (by assumption) Try.underlying23 rfl (by rw [hsz]; kernel_rfl) ?_) | fail)
  refine (V2 _ _ _ h4).mono ?_
  rintro r w5 ⟨rfl, b5⟩
  have h5 := h4.below b5
  have k5 := k4.then_below b5
  clear V2 h4 k4 b5 hb4
  go_wp2_with fail
  refine (W1 _ _ _ h5).mono ?_
  rintro r w6 ⟨rfl, b6⟩
  have h6 := h5.below b6
  have k6 := k5.then_below b6
  clear W1 h5 k5 b6
  go_wp2_with fail
  refine (W2 _ _ _ h6).mono ?_
  rintro r w7 ⟨rfl, b7⟩
  have h7 := h6.below b7
  have k7 := k6.then_below b7
  clear W2 h6 k6 b7
  go_wp2_with fail
  refine (C3 _ _ _ h7).mono ?_
  rintro r w8 ⟨rfl, h8, q8⟩
  have k8 := k7.trans q8
  have hx8 := k8.cell hz hxk
  clear C3 h7 k7 q8
  go_wp2_with fail
  refine (C4 _ _ _ h8).mono ?_
  rintro r w9 ⟨rfl, h9, q9⟩
  have k9 := k8.trans q9
  clear C4 h8 k8 q9 hx8
  go_wp2_with fail
  refine (tfixed_any _).mono ?_
  rintro r w10 ⟨rfl, b10⟩
  have k10 := k9.then_below b10
  go_wp2_with fail
  go_ret
  exact ⟨rfl, hend _ k10⟩
end Go.Proofs.Ytkleidcepnmioaa
