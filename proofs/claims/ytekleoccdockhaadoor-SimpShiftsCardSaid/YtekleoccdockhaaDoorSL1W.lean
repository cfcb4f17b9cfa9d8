/- The law SimpShifts, walked. -/
import Derived.Test.YtekleoccdockhaaDoorSFix
import Derived.Test.YtekleoccdockhaaDoorMask
set_option linter.unusedVariables false
set_option linter.unusedSimpArgs false
namespace Go.Proofs.YtekleoccdockhaaDoor
open Go.RowKit Go.Maps Go.MapKept

/-- 1 + a&0xffff%31. -/
theorem sh31 (a : Int) : ∃ m v : Nat, bits BinOp.and IntKind.i64 a 65535 = (m : Int) ∧ m < 65536 ∧ 1 + (m : Int) % 31 = (v : Int) ∧ 1 ≤ v ∧ v < 32 :=
  ⟨(a % 65536).toNat, 1 + (a % 65536).toNat % 31, by rw [i64_ffff]; omega, by omega, by omega, by omega, by omega⟩
theorem made_len {ts : List Term} {op a b : Nat} (h : Good ts) (ho : (doW op 0 0).isSome = true) (ha : a < ts.length) (hb : b < ts.length) : (made ts op a b).1.length ≤ 9 * ts.length + 10 := by
  have hm := mz_le (op := op) (b := b) ha
  have := (madeF_ok (8 * ts.length + 10) ts op a b h ho ha hb (by omega)).2.2.2
  unfold made
  omega
theorem sh_lens {op v w : Nat} (hs : op = 29 ∨ op = 33) (hv : 1 ≤ v ∧ v < 32) (hw : 1 ≤ w ∧ w < 32) :
    (sh1 v).length ≤ 2 ∧ (sh2 op v).1.length ≤ 28 ∧ (sh3 op v w).length ≤ 29 ∧ (sh4 op v w).1.length ≤ 271 ∧ (sh5 op v w).length ≤ 272 ∧ (sh6 op v w).1.length ≤ 2458 ∧ (sh7 op v w).length ≤ 2459 ∧ (sh8 op v w).length ≤ 2460 := by
  have ho := (shift_facts hs).2.2.2
  have l1 : (sh1 v).length ≤ 2 := (ins_len var3 (constT v)).2
  obtain ⟨a1, a2, a3, _, _⟩ := sh1_good hv
  have l2 : (sh2 op v).1.length ≤ 9 * (sh1 v).length + 10 := made_len a1 ho (x_of a2).1 a3
  have l3 : (sh3 op v w).length ≤ (sh2 op v).1.length + 1 := (ins_len _ _).2
  obtain ⟨b1, b2, b3, b4⟩ := sh3_good hs hv hw
  have l4 : (sh4 op v w).1.length ≤ 9 * (sh3 op v w).length + 10 := made_len b1 ho b4 b3
  have l5 : (sh5 op v w).length ≤ (sh4 op v w).1.length + 1 := (ins_len _ _).2
  obtain ⟨c1, c2, c3⟩ := sh5_good hs hv hw
  have l6 : (sh6 op v w).1.length ≤ 9 * (sh5 op v w).length + 10 := made_len c1 ho (x_of c2).1 c3
  have l7 : (sh7 op v w).length ≤ (sh6 op v w).1.length + 1 := (ins_len _ _).2
  have l8 : (sh8 op v w).length ≤ (sh7 op v w).length + 1 := (ins_len _ _).2
  omega
set_option maxRecDepth 100000 in
set_option maxHeartbeats 4000000 in
theorem law1r (a b : Int) (w : World) (hT : Tab w) (hgz : 0 < w.heap.size) :
    Calls Tryd.prog 3 #[.int .i64 a, .int .i64 b, .bool false] w fun e w' => e = .returned (.bool true) ∧ Below w.heap.size w w' := by
  obtain ⟨K, hK⟩ : ∃ K : Nat → Prop, (fun i => i < w.heap.size) = K := ⟨_, rfl⟩
  have hN := new_any (fun i => i < w.heap.size) w (fun i hi => hi)
  have hg : K 0 := by rw [← hK]; exact hgz
  have hend : ∀ w', Kept K w w' → Below w.heap.size w w' := fun w' h => by rw [← hK] at h; exact below_kept h
  rw [hK] at hN
  clear hK
  generalize hbb : w.heap.size = d at hN hgz ⊢
  have HB := Lib.hid hbb
  clear hbb
  obtain ⟨m1, v, e1, hm1, ev, hv1, hv2⟩ := sh31 a
  obtain ⟨m2, u, e2, hm2, eu, hu1, hu2⟩ := sh31 b
  have hs : (33 : Nat) = 29 ∨ (33 : Nat) = 33 := by decide
  have ho := (shift_facts hs).2.2.2
  obtain ⟨l1, l2, l3, l4, l5, l6, l7, l8⟩ := sh_lens hs ⟨hv1, hv2⟩ ⟨hu1, hu2⟩
  have hC1 : ∀ w, DagAt K w d (var3) → Calls Tryd.prog 12 #[.pointer (some ⟨d, 0, none⟩), .int .u32 v] w fun e w' => e = .returned (.int .i64 (shi1 v : Nat)) ∧ DagAt K w' d (sh1 v) ∧ Kept K w w' := const_any K d v var3 (by omega) (by decide)
  obtain ⟨a1, a2, a3, _, _⟩ := sh1_good ⟨hv1, hv2⟩
  have hS1 : ∀ w, Tab w → DagAt K w d (sh1 v) → Calls Tryd.prog 11 #[.pointer (some ⟨d, 0, none⟩), .int .i64 33, .int .i64 0, .int .i64 (shi1 v : Nat)] w fun e w' => e = .returned (.tuple #[.int .i64 ((sh2 33 v).2 : Nat), .int .i64 0]) ∧ DagAt K w' d ((sh2 33 v).1) ∧ Kept K w w' := simpOp_any K d 33 0 (shi1 v) (sh1 v) (by omega) (x_of a2).1 a3 ho a1 hg
  have hC2 : ∀ w, DagAt K w d ((sh2 33 v).1) → Calls Tryd.prog 12 #[.pointer (some ⟨d, 0, none⟩), .int .u32 u] w fun e w' => e = .returned (.int .i64 (shi3 33 v u : Nat)) ∧ DagAt K w' d (sh3 33 v u) ∧ Kept K w w' := const_any K d u (sh2 33 v).1 (by omega) (by omega)
  obtain ⟨b1, b2, b3, b4⟩ := sh3_good hs ⟨hv1, hv2⟩ ⟨hu1, hu2⟩
  have hS2 : ∀ w, Tab w → DagAt K w d (sh3 33 v u) → Calls Tryd.prog 11 #[.pointer (some ⟨d, 0, none⟩), .int .i64 33, .int .i64 ((sh2 33 v).2 : Nat), .int .i64 (shi3 33 v u : Nat)] w fun e w' => e = .returned (.tuple #[.int .i64 ((sh4 33 v u).2 : Nat), .int .i64 0]) ∧ DagAt K w' d ((sh4 33 v u).1) ∧ Kept K w w' := simpOp_any K d 33 (sh2 33 v).2 (shi3 33 v u) (sh3 33 v u) (by omega) b4 b3 ho b1 hg
  have hC3 : ∀ w, DagAt K w d ((sh4 33 v u).1) → Calls Tryd.prog 12 #[.pointer (some ⟨d, 0, none⟩), .int .u32 32] w fun e w' => e = .returned (.int .i64 (shi5 33 v u : Nat)) ∧ DagAt K w' d (sh5 33 v u) ∧ Kept K w w' := const_any K d 32 (sh4 33 v u).1 (by omega) (by omega)
  obtain ⟨c1, c2, c3⟩ := sh5_good hs ⟨hv1, hv2⟩ ⟨hu1, hu2⟩
  have e6 := sh6_eq hs ⟨hv1, hv2⟩ ⟨hu1, hu2⟩
  have hS3 : ∀ w, Tab w → DagAt K w d (sh5 33 v u) → Calls Tryd.prog 11 #[.pointer (some ⟨d, 0, none⟩), .int .i64 33, .int .i64 0, .int .i64 (shi5 33 v u : Nat)] w fun e w' => e = .returned (.tuple #[.int .i64 0, .int .i64 0]) ∧ DagAt K w' d ((sh6 33 v u).1) ∧ Kept K w w' := by
    intro w hT h
    have hq := simpOp_any K d 33 0 (shi5 33 v u) (sh5 33 v u) (by omega) (x_of c2).1 c3 ho c1 hg w hT h
    have hq2 : Calls _ _ _ _ (OpPost K d w (sh6 33 v u)) := hq
    rw [e6] at hq2 ⊢
    exact hq2
  clear e6
  by_cases hl : v + u < 32
  · have hsum : (v : Int) + u < 32 := by omega
    have hC4 : ∀ w, DagAt K w d ((sh6 33 v u).1) → Calls Tryd.prog 12 #[.pointer (some ⟨d, 0, none⟩), .int .u32 0] w fun e w' => e = .returned (.int .i64 (shi7 33 v u : Nat)) ∧ DagAt K w' d (sh7 33 v u) ∧ Kept K w w' := const_any K d 0 (sh6 33 v u).1 (by omega) (by omega)
    have hcast : (v : Int) + u = ((v + u : Nat) : Int) := by omega
    have hC5 : ∀ w, DagAt K w d (sh7 33 v u) → Calls Tryd.prog 12 #[.pointer (some ⟨d, 0, none⟩), .int .u32 ((v : Int) + u)] w fun e w' => e = .returned (.int .i64 (shi8 33 v u : Nat)) ∧ DagAt K w' d (sh8 33 v u) ∧ Kept K w w' := by
      rw [hcast]
      exact const_any K d (v + u) (sh7 33 v u) (by omega) (by omega)
    clear hcast
    obtain ⟨g1, g2, g3⟩ := sh8_good hs ⟨hv1, hv2⟩ ⟨hu1, hu2⟩ hl
    have e9 := sh9_eq hs ⟨hv1, hv2⟩ ⟨hu1, hu2⟩ hl
    have hS4 : ∀ w, Tab w → DagAt K w d (sh8 33 v u) → Calls Tryd.prog 11 #[.pointer (some ⟨d, 0, none⟩), .int .i64 33, .int .i64 0, .int .i64 (shi8 33 v u : Nat)] w fun e w' => e = .returned (.tuple #[.int .i64 ((sh4 33 v u).2 : Nat), .int .i64 0]) ∧ DagAt K w' d ((sh9 33 v u).1) ∧ Kept K w w' := by
      intro w hT h
      have hq := simpOp_any K d 33 0 (shi8 33 v u) (sh8 33 v u) (by omega) g2 g3 ho g1 hg w hT h
      have hq2 : Calls _ _ _ _ (OpPost K d w (sh9 33 v u)) := hq
      rw [e9]
      exact hq2
    clear e9 a1 a2 a3 b1 b2 b3 b4 c1 c2 c3 g1 g2 g3 hs ho l1 l2 l3 l4 l5 l6 l7 l8 hl
    go_enter Tryd.func3, Tryd.ntmps3
    go_wp2_with fail
    refine hN.mono ?_
    rintro r w0 ⟨rfl, h0, b0⟩
    have k0 : Kept K w w0 := Kept.below (by rw [HB.out]; exact b0)
    have hT0 := hT.kept k0 hg
    clear hN b0 hT
    go_wp2_with fail
    refine (var_lit K d [] var3 3 0 3 0 rfl rfl (by omega) (by decide) rfl rfl w0 h0).mono ?_
    rintro r w1 ⟨rfl, h1, q1⟩
    have k1 := k0.trans q1
    have hT1 := hT0.kept q1 hg
    clear h0 k0 hT0 q1
    go_wp2_with fail
    refine (hC1 w1 h1).mono ?_
    rintro r w2 ⟨rfl, h2, q2⟩
    have k2 := k1.trans q2
    have hT2 := hT1.kept q2 hg
    clear h1 k1 hT1 q2
    go_wp2_with fail
    refine (hS1 w2 hT2 h2).mono ?_
    rintro r w3 ⟨rfl, h3, q3⟩
    have k3 := k2.trans q3
    have hT3 := hT2.kept q3 hg
    clear h2 k2 hT2 q3
    go_wp2_with fail
    refine (hC2 w3 h3).mono ?_
    rintro r w4 ⟨rfl, h4, q4⟩
    have k4 := k3.trans q4
    have hT4 := hT3.kept q4 hg
    clear h3 k3 hT3 q4
    go_wp2_with fail
    refine (hS2 w4 hT4 h4).mono ?_
    rintro r w5 ⟨rfl, h5, q5⟩
    have k5 := k4.trans q5
    have hT5 := hT4.kept q5 hg
    clear h4 k4 hT4 q5
    go_wp2_with fail
    refine (hC3 w5 h5).mono ?_
    rintro r w6 ⟨rfl, h6, q6⟩
    have k6 := k5.trans q6
    have hT6 := hT5.kept q6 hg
    clear h5 k5 hT5 q6
    go_wp2_with fail
    refine (hS3 w6 hT6 h6).mono ?_
    rintro r w7 ⟨rfl, h7, q7⟩
    have k7 := k6.trans q7
    have hT7 := hT6.kept q7 hg
    clear h6 k6 hT6 q7
    go_wp2_with fail
    refine (hC4 w7 h7).mono ?_
    rintro r w8 ⟨rfl, h8, q8⟩
    have k8 := k7.trans q8
    have hT8 := hT7.kept q8 hg
    clear h7 k7 hT7 q8
    go_wp2_with fail
    refine (hC5 w8 h8).mono ?_
    rintro r w9 ⟨rfl, h9, q9⟩
    have k9 := k8.trans q9
    have hT9 := hT8.kept q9 hg
    clear h8 k8 hT8 q9
    go_wp2_with fail
    refine (hS4 w9 hT9 h9).mono ?_
    rintro r w10 ⟨rfl, h10, q10⟩
    have k10 := k9.trans q10
    have hT10 := hT9.kept q10 hg
    clear h9 k9 hT9 q10
    go_wp2_with fail
    refine (fixed_any w10 hT10 (Nat.lt_of_lt_of_le hgz (by have := k10.size; rw [HB.out] at this; exact this))).mono ?_
    rintro r wz ⟨rfl, bz⟩
    have kz := k10.then_below bz
    go_wp2_with fail
    go_ret
    exact ⟨rfl, by rw [← HB.out]; exact hend _ kz⟩
  · have hsum : ¬ (v : Int) + u < 32 := by omega
    have e7 := shi7_eq hs ⟨hv1, hv2⟩ ⟨hu1, hu2⟩ hl
    have hC4 : ∀ w, DagAt K w d ((sh6 33 v u).1) → Calls Tryd.prog 12 #[.pointer (some ⟨d, 0, none⟩), .int .u32 0] w fun e w' => e = .returned (.int .i64 ((sh4 33 v u).2 : Nat)) ∧ DagAt K w' d (sh7 33 v u) ∧ Kept K w w' := by
      intro w h
      have hq := const_any K d 0 (sh6 33 v u).1 (by omega) (by omega) w h
      have hq2 : Calls _ _ _ _ (fun e w' => e = Ending.returned (.int .i64 (shi7 33 v u : Nat)) ∧ DagAt K w' d (sh7 33 v u) ∧ Kept K w w') := hq
      rw [← e7] at hq2
      exact hq2
    clear e7 a1 a2 a3 b1 b2 b3 b4 c1 c2 c3 hs ho l1 l2 l3 l4 l5 l6 l7 l8 hl
    go_enter Tryd.func3, Tryd.ntmps3
    go_wp2_with fail
    refine hN.mono ?_
    rintro r w0 ⟨rfl, h0, b0⟩
    have k0 : Kept K w w0 := Kept.below (by rw [HB.out]; exact b0)
    have hT0 := hT.kept k0 hg
    clear hN b0 hT
    go_wp2_with fail
    refine (var_lit K d [] var3 3 0 3 0 rfl rfl (by omega) (by decide) rfl rfl w0 h0).mono ?_
    rintro r w1 ⟨rfl, h1, q1⟩
    have k1 := k0.trans q1
    have hT1 := hT0.kept q1 hg
    clear h0 k0 hT0 q1
    go_wp2_with fail
    refine (hC1 w1 h1).mono ?_
    rintro r w2 ⟨rfl, h2, q2⟩
    have k2 := k1.trans q2
    have hT2 := hT1.kept q2 hg
    clear h1 k1 hT1 q2
    go_wp2_with fail
    refine (hS1 w2 hT2 h2).mono ?_
    rintro r w3 ⟨rfl, h3, q3⟩
    have k3 := k2.trans q3
    have hT3 := hT2.kept q3 hg
    clear h2 k2 hT2 q3
    go_wp2_with fail
    refine (hC2 w3 h3).mono ?_
    rintro r w4 ⟨rfl, h4, q4⟩
    have k4 := k3.trans q4
    have hT4 := hT3.kept q4 hg
    clear h3 k3 hT3 q4
    go_wp2_with fail
    refine (hS2 w4 hT4 h4).mono ?_
    rintro r w5 ⟨rfl, h5, q5⟩
    have k5 := k4.trans q5
    have hT5 := hT4.kept q5 hg
    clear h4 k4 hT4 q5
    go_wp2_with fail
    refine (hC3 w5 h5).mono ?_
    rintro r w6 ⟨rfl, h6, q6⟩
    have k6 := k5.trans q6
    have hT6 := hT5.kept q6 hg
    clear h5 k5 hT5 q6
    go_wp2_with fail
    refine (hS3 w6 hT6 h6).mono ?_
    rintro r w7 ⟨rfl, h7, q7⟩
    have k7 := k6.trans q7
    have hT7 := hT6.kept q7 hg
    clear h6 k6 hT6 q7
    go_wp2_with fail
    refine (hC4 w7 h7).mono ?_
    rintro r w8 ⟨rfl, h8, q8⟩
    have k8 := k7.trans q8
    have hT8 := hT7.kept q8 hg
    clear h7 k7 hT7 q8
    go_wp2_with fail
    refine (fixed_any w8 hT8 (Nat.lt_of_lt_of_le hgz (by have := k8.size; rw [HB.out] at this; exact this))).mono ?_
    rintro r wz ⟨rfl, bz⟩
    have kz := k8.then_below bz
    go_wp2_with fail
    go_ret
    exact ⟨rfl, by rw [← HB.out]; exact hend _ kz⟩
set_option maxRecDepth 100000 in
set_option maxHeartbeats 4000000 in
theorem law1l (a b : Int) (w : World) (hT : Tab w) (hgz : 0 < w.heap.size) :
    Calls Tryd.prog 3 #[.int .i64 a, .int .i64 b, .bool true] w fun e w' => e = .returned (.bool true) ∧ Below w.heap.size w w' := by
  obtain ⟨K, hK⟩ : ∃ K : Nat → Prop, (fun i => i < w.heap.size) = K := ⟨_, rfl⟩
  have hN := new_any (fun i => i < w.heap.size) w (fun i hi => hi)
  have hg : K 0 := by rw [← hK]; exact hgz
  have hend : ∀ w', Kept K w w' → Below w.heap.size w w' := fun w' h => by rw [← hK] at h; exact below_kept h
  rw [hK] at hN
  clear hK
  generalize hbb : w.heap.size = d at hN hgz ⊢
  have HB := Lib.hid hbb
  clear hbb
  obtain ⟨m1, v, e1, hm1, ev, hv1, hv2⟩ := sh31 a
  obtain ⟨m2, u, e2, hm2, eu, hu1, hu2⟩ := sh31 b
  have hs : (29 : Nat) = 29 ∨ (29 : Nat) = 33 := by decide
  have ho := (shift_facts hs).2.2.2
  obtain ⟨l1, l2, l3, l4, l5, l6, l7, l8⟩ := sh_lens hs ⟨hv1, hv2⟩ ⟨hu1, hu2⟩
  have hC1 : ∀ w, DagAt K w d (var3) → Calls Tryd.prog 12 #[.pointer (some ⟨d, 0, none⟩), .int .u32 v] w fun e w' => e = .returned (.int .i64 (shi1 v : Nat)) ∧ DagAt K w' d (sh1 v) ∧ Kept K w w' := const_any K d v var3 (by omega) (by decide)
  obtain ⟨a1, a2, a3, _, _⟩ := sh1_good ⟨hv1, hv2⟩
  have hS1 : ∀ w, Tab w → DagAt K w d (sh1 v) → Calls Tryd.prog 11 #[.pointer (some ⟨d, 0, none⟩), .int .i64 29, .int .i64 0, .int .i64 (shi1 v : Nat)] w fun e w' => e = .returned (.tuple #[.int .i64 ((sh2 29 v).2 : Nat), .int .i64 0]) ∧ DagAt K w' d ((sh2 29 v).1) ∧ Kept K w w' := simpOp_any K d 29 0 (shi1 v) (sh1 v) (by omega) (x_of a2).1 a3 ho a1 hg
  have hC2 : ∀ w, DagAt K w d ((sh2 29 v).1) → Calls Tryd.prog 12 #[.pointer (some ⟨d, 0, none⟩), .int .u32 u] w fun e w' => e = .returned (.int .i64 (shi3 29 v u : Nat)) ∧ DagAt K w' d (sh3 29 v u) ∧ Kept K w w' := const_any K d u (sh2 29 v).1 (by omega) (by omega)
  obtain ⟨b1, b2, b3, b4⟩ := sh3_good hs ⟨hv1, hv2⟩ ⟨hu1, hu2⟩
  have hS2 : ∀ w, Tab w → DagAt K w d (sh3 29 v u) → Calls Tryd.prog 11 #[.pointer (some ⟨d, 0, none⟩), .int .i64 29, .int .i64 ((sh2 29 v).2 : Nat), .int .i64 (shi3 29 v u : Nat)] w fun e w' => e = .returned (.tuple #[.int .i64 ((sh4 29 v u).2 : Nat), .int .i64 0]) ∧ DagAt K w' d ((sh4 29 v u).1) ∧ Kept K w w' := simpOp_any K d 29 (sh2 29 v).2 (shi3 29 v u) (sh3 29 v u) (by omega) b4 b3 ho b1 hg
  have hC3 : ∀ w, DagAt K w d ((sh4 29 v u).1) → Calls Tryd.prog 12 #[.pointer (some ⟨d, 0, none⟩), .int .u32 32] w fun e w' => e = .returned (.int .i64 (shi5 29 v u : Nat)) ∧ DagAt K w' d (sh5 29 v u) ∧ Kept K w w' := const_any K d 32 (sh4 29 v u).1 (by omega) (by omega)
  obtain ⟨c1, c2, c3⟩ := sh5_good hs ⟨hv1, hv2⟩ ⟨hu1, hu2⟩
  have e6 := sh6_eq hs ⟨hv1, hv2⟩ ⟨hu1, hu2⟩
  have hS3 : ∀ w, Tab w → DagAt K w d (sh5 29 v u) → Calls Tryd.prog 11 #[.pointer (some ⟨d, 0, none⟩), .int .i64 29, .int .i64 0, .int .i64 (shi5 29 v u : Nat)] w fun e w' => e = .returned (.tuple #[.int .i64 0, .int .i64 0]) ∧ DagAt K w' d ((sh6 29 v u).1) ∧ Kept K w w' := by
    intro w hT h
    have hq := simpOp_any K d 29 0 (shi5 29 v u) (sh5 29 v u) (by omega) (x_of c2).1 c3 ho c1 hg w hT h
    have hq2 : Calls _ _ _ _ (OpPost K d w (sh6 29 v u)) := hq
    rw [e6] at hq2 ⊢
    exact hq2
  clear e6
  by_cases hl : v + u < 32
  · have hsum : (v : Int) + u < 32 := by omega
    have hC4 : ∀ w, DagAt K w d ((sh6 29 v u).1) → Calls Tryd.prog 12 #[.pointer (some ⟨d, 0, none⟩), .int .u32 0] w fun e w' => e = .returned (.int .i64 (shi7 29 v u : Nat)) ∧ DagAt K w' d (sh7 29 v u) ∧ Kept K w w' := const_any K d 0 (sh6 29 v u).1 (by omega) (by omega)
    have hcast : (v : Int) + u = ((v + u : Nat) : Int) := by omega
    have hC5 : ∀ w, DagAt K w d (sh7 29 v u) → Calls Tryd.prog 12 #[.pointer (some ⟨d, 0, none⟩), .int .u32 ((v : Int) + u)] w fun e w' => e = .returned (.int .i64 (shi8 29 v u : Nat)) ∧ DagAt K w' d (sh8 29 v u) ∧ Kept K w w' := by
      rw [hcast]
      exact const_any K d (v + u) (sh7 29 v u) (by omega) (by omega)
    clear hcast
    obtain ⟨g1, g2, g3⟩ := sh8_good hs ⟨hv1, hv2⟩ ⟨hu1, hu2⟩ hl
    have e9 := sh9_eq hs ⟨hv1, hv2⟩ ⟨hu1, hu2⟩ hl
    have hS4 : ∀ w, Tab w → DagAt K w d (sh8 29 v u) → Calls Tryd.prog 11 #[.pointer (some ⟨d, 0, none⟩), .int .i64 29, .int .i64 0, .int .i64 (shi8 29 v u : Nat)] w fun e w' => e = .returned (.tuple #[.int .i64 ((sh4 29 v u).2 : Nat), .int .i64 0]) ∧ DagAt K w' d ((sh9 29 v u).1) ∧ Kept K w w' := by
      intro w hT h
      have hq := simpOp_any K d 29 0 (shi8 29 v u) (sh8 29 v u) (by omega) g2 g3 ho g1 hg w hT h
      have hq2 : Calls _ _ _ _ (OpPost K d w (sh9 29 v u)) := hq
      rw [e9]
      exact hq2
    clear e9 a1 a2 a3 b1 b2 b3 b4 c1 c2 c3 g1 g2 g3 hs ho l1 l2 l3 l4 l5 l6 l7 l8 hl
    go_enter Tryd.func3, Tryd.ntmps3
    go_wp2_with fail
    refine hN.mono ?_
    rintro r w0 ⟨rfl, h0, b0⟩
    have k0 : Kept K w w0 := Kept.below (by rw [HB.out]; exact b0)
    have hT0 := hT.kept k0 hg
    clear hN b0 hT
    go_wp2_with fail
    refine (var_lit K d [] var3 3 0 3 0 rfl rfl (by omega) (by decide) rfl rfl w0 h0).mono ?_
    rintro r w1 ⟨rfl, h1, q1⟩
    have k1 := k0.trans q1
    have hT1 := hT0.kept q1 hg
    clear h0 k0 hT0 q1
    go_wp2_with fail
    refine (hC1 w1 h1).mono ?_
    rintro r w2 ⟨rfl, h2, q2⟩
    have k2 := k1.trans q2
    have hT2 := hT1.kept q2 hg
    clear h1 k1 hT1 q2
    go_wp2_with fail
    refine (hS1 w2 hT2 h2).mono ?_
    rintro r w3 ⟨rfl, h3, q3⟩
    have k3 := k2.trans q3
    have hT3 := hT2.kept q3 hg
    clear h2 k2 hT2 q3
    go_wp2_with fail
    refine (hC2 w3 h3).mono ?_
    rintro r w4 ⟨rfl, h4, q4⟩
    have k4 := k3.trans q4
    have hT4 := hT3.kept q4 hg
    clear h3 k3 hT3 q4
    go_wp2_with fail
    refine (hS2 w4 hT4 h4).mono ?_
    rintro r w5 ⟨rfl, h5, q5⟩
    have k5 := k4.trans q5
    have hT5 := hT4.kept q5 hg
    clear h4 k4 hT4 q5
    go_wp2_with fail
    refine (hC3 w5 h5).mono ?_
    rintro r w6 ⟨rfl, h6, q6⟩
    have k6 := k5.trans q6
    have hT6 := hT5.kept q6 hg
    clear h5 k5 hT5 q6
    go_wp2_with fail
    refine (hS3 w6 hT6 h6).mono ?_
    rintro r w7 ⟨rfl, h7, q7⟩
    have k7 := k6.trans q7
    have hT7 := hT6.kept q7 hg
    clear h6 k6 hT6 q7
    go_wp2_with fail
    refine (hC4 w7 h7).mono ?_
    rintro r w8 ⟨rfl, h8, q8⟩
    have k8 := k7.trans q8
    have hT8 := hT7.kept q8 hg
    clear h7 k7 hT7 q8
    go_wp2_with fail
    refine (hC5 w8 h8).mono ?_
    rintro r w9 ⟨rfl, h9, q9⟩
    have k9 := k8.trans q9
    have hT9 := hT8.kept q9 hg
    clear h8 k8 hT8 q9
    go_wp2_with fail
    refine (hS4 w9 hT9 h9).mono ?_
    rintro r w10 ⟨rfl, h10, q10⟩
    have k10 := k9.trans q10
    have hT10 := hT9.kept q10 hg
    clear h9 k9 hT9 q10
    go_wp2_with fail
    refine (fixed_any w10 hT10 (Nat.lt_of_lt_of_le hgz (by have := k10.size; rw [HB.out] at this; exact this))).mono ?_
    rintro r wz ⟨rfl, bz⟩
    have kz := k10.then_below bz
    go_wp2_with fail
    go_ret
    exact ⟨rfl, by rw [← HB.out]; exact hend _ kz⟩
  · have hsum : ¬ (v : Int) + u < 32 := by omega
    have e7 := shi7_eq hs ⟨hv1, hv2⟩ ⟨hu1, hu2⟩ hl
    have hC4 : ∀ w, DagAt K w d ((sh6 29 v u).1) → Calls Tryd.prog 12 #[.pointer (some ⟨d, 0, none⟩), .int .u32 0] w fun e w' => e = .returned (.int .i64 ((sh4 29 v u).2 : Nat)) ∧ DagAt K w' d (sh7 29 v u) ∧ Kept K w w' := by
      intro w h
      have hq := const_any K d 0 (sh6 29 v u).1 (by omega) (by omega) w h
      have hq2 : Calls _ _ _ _ (fun e w' => e = Ending.returned (.int .i64 (shi7 29 v u : Nat)) ∧ DagAt K w' d (sh7 29 v u) ∧ Kept K w w') := hq
      rw [← e7] at hq2
      exact hq2
    clear e7 a1 a2 a3 b1 b2 b3 b4 c1 c2 c3 hs ho l1 l2 l3 l4 l5 l6 l7 l8 hl
    go_enter Tryd.func3, Tryd.ntmps3
    go_wp2_with fail
    refine hN.mono ?_
    rintro r w0 ⟨rfl, h0, b0⟩
    have k0 : Kept K w w0 := Kept.below (by rw [HB.out]; exact b0)
    have hT0 := hT.kept k0 hg
    clear hN b0 hT
    go_wp2_with fail
    refine (var_lit K d [] var3 3 0 3 0 rfl rfl (by omega) (by decide) rfl rfl w0 h0).mono ?_
    rintro r w1 ⟨rfl, h1, q1⟩
    have k1 := k0.trans q1
    have hT1 := hT0.kept q1 hg
    clear h0 k0 hT0 q1
    go_wp2_with fail
    refine (hC1 w1 h1).mono ?_
    rintro r w2 ⟨rfl, h2, q2⟩
    have k2 := k1.trans q2
    have hT2 := hT1.kept q2 hg
    clear h1 k1 hT1 q2
    go_wp2_with fail
    refine (hS1 w2 hT2 h2).mono ?_
    rintro r w3 ⟨rfl, h3, q3⟩
    have k3 := k2.trans q3
    have hT3 := hT2.kept q3 hg
    clear h2 k2 hT2 q3
    go_wp2_with fail
    refine (hC2 w3 h3).mono ?_
    rintro r w4 ⟨rfl, h4, q4⟩
    have k4 := k3.trans q4
    have hT4 := hT3.kept q4 hg
    clear h3 k3 hT3 q4
    go_wp2_with fail
    refine (hS2 w4 hT4 h4).mono ?_
    rintro r w5 ⟨rfl, h5, q5⟩
    have k5 := k4.trans q5
    have hT5 := hT4.kept q5 hg
    clear h4 k4 hT4 q5
    go_wp2_with fail
    refine (hC3 w5 h5).mono ?_
    rintro r w6 ⟨rfl, h6, q6⟩
    have k6 := k5.trans q6
    have hT6 := hT5.kept q6 hg
    clear h5 k5 hT5 q6
    go_wp2_with fail
    refine (hS3 w6 hT6 h6).mono ?_
    rintro r w7 ⟨rfl, h7, q7⟩
    have k7 := k6.trans q7
    have hT7 := hT6.kept q7 hg
    clear h6 k6 hT6 q7
    go_wp2_with fail
    refine (hC4 w7 h7).mono ?_
    rintro r w8 ⟨rfl, h8, q8⟩
    have k8 := k7.trans q8
    have hT8 := hT7.kept q8 hg
    clear h7 k7 hT7 q8
    go_wp2_with fail
    refine (fixed_any w8 hT8 (Nat.lt_of_lt_of_le hgz (by have := k8.size; rw [HB.out] at this; exact this))).mono ?_
    rintro r wz ⟨rfl, bz⟩
    have kz := k8.then_below bz
    go_wp2_with fail
    go_ret
    exact ⟨rfl, by rw [← HB.out]; exact hend _ kz⟩
theorem law1_any (a b : Int) (left : Bool) (w : World) (hT : Tab w) (hgz : 0 < w.heap.size) :
    Calls Tryd.prog 3 #[.int .i64 a, .int .i64 b, .bool left] w fun e w' => e = .returned (.bool true) ∧ Below w.heap.size w w' := by
  cases left
  · exact law1r a b w hT hgz
  · exact law1l a b w hT hgz
end Go.Proofs.YtekleoccdockhaaDoor
