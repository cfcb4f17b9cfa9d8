/- term, simp: calls at known terms. -/
/- simp: fixed, walked. -/
import Derived.Test.YtekleoccdockhaaGreatDoorSOp
import Derived.Test.YtekleoccdockhaaGreatDoorTLit
import Derived.Test.YtekleoccdockhaaGreatDoorSShP
set_option linter.unusedVariables false
set_option linter.unusedSimpArgs false
namespace Go.Proofs.YtekleoccdockhaaGreatDoor
open Go.RowKit Go.Maps Go.MapKept

theorem simpOp_lit (K : Nat → Prop) (b : Nat) (ts ts' : List Term) (o' x' y' n' : Nat) (o x y n : Int) (hoo : o = o') (hxx : x = x') (hyy : y = y') (hn : n = n') (hl : ts.length < 100000000000) (hx : x' < ts.length) (hy : y' < ts.length) (ho : (doW o' 0 0).isSome = true) (hG : Good ts) (hg : K 0)
    (hm : made ts o' x' y' = (ts', n')) (w : World) (hT : Tab w) (h : DagAt K w b ts) :
    Calls Tryz.prog 6 #[.pointer (some ⟨b, 0, none⟩), .int .i64 o, .int .i64 x, .int .i64 y] w fun e w' => e = .returned (.tuple #[.int .i64 n, .int .i64 0]) ∧ DagAt K w' b ts' ∧ Kept K w w' := by
  subst hoo hxx hyy hn
  have := simpOp_any K b o' x' y' ts hl hx hy ho hG hg w hT h
  rw [hm] at this
  exact this
end Go.Proofs.YtekleoccdockhaaGreatDoor
set_option linter.unusedVariables false
set_option linter.unusedSimpArgs false
namespace Go.Proofs.YtekleoccdockhaaGreatDoor
open Go.RowKit Go.Maps Go.MapKept

def fx1 : List Term := [varT 1]
def fx2 : List Term := [varT 1, constT 3]
def fx3 : List Term := [varT 1, constT 3, opT 27 0 1]
def fx4 : List Term := [varT 1, constT 3, opT 27 0 1, constT 4]
def fx5 : List Term := [varT 1, constT 3, opT 27 0 1, constT 4, constT 7, opT 27 0 4]
def fx6 : List Term := [varT 1, constT 3, opT 27 0 1, constT 4, constT 7, opT 27 0 4, constT 8]
def fx7 : List Term := [varT 1, constT 3, opT 27 0 1, constT 4, constT 7, opT 27 0 4, constT 8, opT 29 0 1]
def fx8 : List Term := [varT 1, constT 3, opT 27 0 1, constT 4, constT 7, opT 27 0 4, constT 8, opT 29 0 1, constT 0]
set_option maxRecDepth 100000 in
set_option maxHeartbeats 4000000 in
theorem fixed_any (w : World) (hT : Tab w) (hgz : 0 < w.heap.size) :
    Calls Tryz.prog 7 #[] w fun e w' => e = .returned (.bool true) ∧ Below w.heap.size w w' := by
  obtain ⟨K, hK⟩ : ∃ K : Nat → Prop, (fun i => i < w.heap.size) = K := ⟨_, rfl⟩
  have hN := new_any (fun i => i < w.heap.size) w (fun i hi => hi)
  have hg : K 0 := by rw [← hK]; exact hgz
  have hend : ∀ w', Kept K w w' → Below w.heap.size w w' := fun w' h => by rw [← hK] at h; exact below_kept h
  rw [hK] at hN
  clear hK
  have m3 : made fx2 27 0 1 = (fx3, 2) := by decide +kernel
  have m5 : made fx4 27 2 3 = (fx5, 5) := by decide +kernel
  have m7 : made fx6 37 0 6 = (fx7, 7) := by decide +kernel
  have m8 : made fx7 28 0 0 = (fx8, 8) := by decide +kernel
  generalize hb : w.heap.size = b at hN
  have HB := Lib.hid hb
  clear hb
  go_enter Tryz.func7, Tryz.ntmps7
  go_wp2_with fail
  refine hN.mono ?_
  rintro r w0 ⟨rfl, h0, b0⟩
  have k0 : Kept K w w0 := Kept.below (by rw [HB.out]; exact b0)
  have hT0 := hT.kept k0 hg
  clear hN b0 hT
  go_wp2_with fail
  refine (var_lit K b [] fx1 1 0 1 0 rfl rfl (by omega) (by decide) rfl rfl w0 h0).mono ?_
  rintro r w1 ⟨rfl, h1, q1⟩
  have k1 := k0.trans q1
  have hT1 := hT0.kept q1 hg
  clear h0 k0 hT0 q1
  go_wp2_with fail
  refine (const_lit K b fx1 fx2 3 1 3 1 rfl rfl (by omega) (by decide) (by decide +kernel) (by decide +kernel) w1 h1).mono ?_
  rintro r w2 ⟨rfl, h2, q2⟩
  have k2 := k1.trans q2
  have hT2 := hT1.kept q2 hg
  clear h1 k1 hT1 q2
  go_wp2_with fail
  refine (simpOp_lit K b fx2 fx3 27 0 1 2 27 0 1 2 rfl rfl rfl rfl (by decide) (by decide) (by decide) rfl (good_of (by decide +kernel)) hg m3 w2 hT2 h2).mono ?_
  rintro r w3 ⟨rfl, h3, q3⟩
  have k3 := k2.trans q3
  have hT3 := hT2.kept q3 hg
  clear h2 k2 hT2 q3
  go_wp2_with fail
  refine (const_lit K b fx3 fx4 4 3 4 3 rfl rfl (by omega) (by decide) (by decide +kernel) (by decide +kernel) w3 h3).mono ?_
  rintro r w4 ⟨rfl, h4, q4⟩
  have k4 := k3.trans q4
  have hT4 := hT3.kept q4 hg
  clear h3 k3 hT3 q4
  go_wp2_with fail
  refine (simpOp_lit K b fx4 fx5 27 2 3 5 27 2 3 5 rfl rfl rfl rfl (by decide) (by decide) (by decide) rfl (good_of (by decide +kernel)) hg m5 w4 hT4 h4).mono ?_
  rintro r w5 ⟨rfl, h5, q5⟩
  have k5 := k4.trans q5
  have hT5 := hT4.kept q5 hg
  clear h4 k4 hT4 q5
  go_wp2_with fail
  refine (const_lit K b fx5 fx6 8 6 8 6 rfl rfl (by omega) (by decide) (by decide +kernel) (by decide +kernel) w5 h5).mono ?_
  rintro r w6 ⟨rfl, h6, q6⟩
  have k6 := k5.trans q6
  have hT6 := hT5.kept q6 hg
  clear h5 k5 hT5 q6
  go_wp2_with fail
  refine (simpOp_lit K b fx6 fx7 37 0 6 7 37 0 6 7 rfl rfl rfl rfl (by decide) (by decide) (by decide) rfl (good_of (by decide +kernel)) hg m7 w6 hT6 h6).mono ?_
  rintro r w7 ⟨rfl, h7, q7⟩
  have k7 := k6.trans q7
  have hT7 := hT6.kept q7 hg
  clear h6 k6 hT6 q7
  go_wp2_with fail
  refine (simpOp_lit K b fx7 fx8 28 0 0 8 28 0 0 8 rfl rfl rfl rfl (by decide) (by decide) (by decide) rfl (good_of (by decide +kernel)) hg m8 w7 hT7 h7).mono ?_
  rintro r w8 ⟨rfl, h8, q8⟩
  have k8 := k7.trans q8
  have hT8 := hT7.kept q8 hg
  clear h7 k7 hT7 q8
  go_wp2_with fail
  refine (simpOp_no K b 27 0 99 fx8 (by decide) (by decide) w8 h8).mono ?_
  rintro r w9 ⟨rfl, q9⟩
  have h9 := h8.below q9
  have k9 := k8.then_below q9
  have hT9 := hT8.below q9
  clear h8 k8 hT8
  go_wp2_with fail
  refine (simpOp_bad K b 12 0 0 fx8 (by decide) (by decide) (by decide) (by decide) w9 h9).mono ?_
  rintro r w10 ⟨rfl, q10⟩
  have h10 := h9.below q10
  have k10 := k9.then_below q10
  have hT10 := hT9.below q10
  clear h9 k9 hT9
  go_wp2_with fail
  refine (node_lit K b fx8 5 2 0 27 0 4 5 2 0 27 0 4 rfl (by decide) (by decide) (by decide +kernel) rfl rfl rfl rfl rfl w10 h10).mono ?_
  rintro r w11 ⟨rfl, q11⟩
  have h11 := h10.below q11
  have k11 := k10.then_below q11
  have g11 := blk_new w11 (.cells #[.int .i64 2, .int .u32 0, .int .i64 27, .int .i64 0, .int .i64 4] 48)
  go_wp2_with fail
  refine (node_lit K b fx8 7 2 0 29 0 1 7 2 0 29 0 1 rfl (by decide) (by decide) (by decide +kernel) rfl rfl rfl rfl rfl _ (h11.alloc _)).mono ?_
  rintro r w12 ⟨rfl, q12⟩
  have h12 := (h11.alloc _).below q12
  have k12 := (k11.then_alloc _).then_below q12
  have g11 := blk_below g11 q12
  have g12 := blk_new w12 (.cells #[.int .i64 2, .int .u32 0, .int .i64 29, .int .i64 0, .int .i64 1] 48)
  go_wp2_with fail
  refine (node_lit K b fx8 8 0 0 0 0 0 8 0 0 0 0 0 rfl (by decide) (by decide) (by decide +kernel) rfl rfl rfl rfl rfl _ (h12.alloc _)).mono ?_
  rintro r w13 ⟨rfl, q13⟩
  have h13 := (h12.alloc _).below q13
  have k13 := (k12.then_alloc _).then_below q13
  have g11 := (blk_below (blk_alloc g11 _) q13)
  have g12 := blk_below g12 q13
  have g13 := blk_new w13 (.cells #[.int .i64 0, .int .u32 0, .int .i64 0, .int .i64 0, .int .i64 0] 48)
  have y11 := blk_alloc g11 (.cells #[.int .i64 0, .int .u32 0, .int .i64 0, .int .i64 0, .int .i64 0] 48)
  obtain ⟨y0, y1, y2, y3, y4⟩ := five_cells y11
  go_wp2_with fail
  refine (node_lit K b fx8 4 0 7 0 0 0 4 0 7 0 0 0 rfl (by decide) (by decide) (by decide +kernel) rfl rfl rfl rfl rfl _ (h13.alloc _)).mono ?_
  rintro r w14 ⟨rfl, q14⟩
  have h14 := (h13.alloc _).below q14
  have k14 := (k13.then_alloc _).then_below q14
  have g11 := (blk_below (blk_alloc g11 _) q14)
  have g12 := (blk_below (blk_alloc g12 _) q14)
  have g13 := blk_below g13 q14
  have g14 := blk_new w14 (.cells #[.int .i64 0, .int .u32 7, .int .i64 0, .int .i64 0, .int .i64 0] 48)
  clear y0 y1 y2 y3 y4 y11
  have g11 := blk_alloc g11 (.cells #[.int .i64 0, .int .u32 7, .int .i64 0, .int .i64 0, .int .i64 0] 48)
  have g12 := blk_alloc g12 (.cells #[.int .i64 0, .int .u32 7, .int .i64 0, .int .i64 0, .int .i64 0] 48)
  have g13 := blk_alloc g13 (.cells #[.int .i64 0, .int .u32 7, .int .i64 0, .int .i64 0, .int .i64 0] 48)
  obtain ⟨z11_0, z11_1, z11_2, z11_3, z11_4⟩ := five_cells g11
  obtain ⟨z12_0, z12_1, z12_2, z12_3, z12_4⟩ := five_cells g12
  obtain ⟨z13_0, z13_1, z13_2, z13_3, z13_4⟩ := five_cells g13
  obtain ⟨z14_0, z14_1, z14_2, z14_3, z14_4⟩ := five_cells g14
  go_wp2_with fail
  go_ret
  exact ⟨rfl, by rw [← HB.out]; exact hend _ (k14.then_alloc _)⟩
end Go.Proofs.YtekleoccdockhaaGreatDoor
