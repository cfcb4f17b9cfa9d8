/- whetstonelaw10: fixed, walked (written by genTF.py). -/
import Derived.Test.YtkleidcepnmioaaTLit
import Derived.Test.YtkleidcepnmioaaTEval
set_option linter.unusedVariables false
set_option linter.unusedSimpArgs false
namespace Go.Proofs.Ytkleidcepnmioaa
open Go.RowKit Go.Maps Go.MapKept

def tx1 : List Term := [constT 5]
def tx2 : List Term := [constT 5, varT 1]
def tx3 : List Term := [constT 5, varT 1, opT 27 1 0]
def rx7 : Nat → Nat := fun r => if r = 1 then 7 else 0
theorem rx7_arr : regsV rx7 = #[.int .u32 0, .int .u32 7, .int .u32 0, .int .u32 0, .int .u32 0, .int .u32 0, .int .u32 0, .int .u32 0, .int .u32 0, .int .u32 0, .int .u32 0, .int .u32 0, .int .u32 0, .int .u32 0, .int .u32 0, .int .u32 0, .int .u32 0, .int .u32 0, .int .u32 0, .int .u32 0, .int .u32 0, .int .u32 0, .int .u32 0, .int .u32 0, .int .u32 0, .int .u32 0, .int .u32 0, .int .u32 0, .int .u32 0, .int .u32 0, .int .u32 0, .int .u32 0] := by rfl
theorem eval7 (K : Nat → Prop) (b : Nat) (w : World) (h : DagAt K w b tx3) : Calls Try.prog 13 #[.pointer (some ⟨b, 0, none⟩), .int .i64 2, .agg #[.int .u32 0, .int .u32 7, .int .u32 0, .int .u32 0, .int .u32 0, .int .u32 0, .int .u32 0, .int .u32 0, .int .u32 0, .int .u32 0, .int .u32 0, .int .u32 0, .int .u32 0, .int .u32 0, .int .u32 0, .int .u32 0, .int .u32 0, .int .u32 0, .int .u32 0, .int .u32 0, .int .u32 0, .int .u32 0, .int .u32 0, .int .u32 0, .int .u32 0, .int .u32 0, .int .u32 0, .int .u32 0, .int .u32 0, .int .u32 0, .int .u32 0, .int .u32 0]] w fun e w' => e = .returned (.tuple #[.int .u32 12, .int .i64 0]) ∧ Below w.heap.size w w' := by
  have h1 := eval_any K b 2 tx3 rx7 (by intro r; unfold rx7; split <;> omega) (by decide) (by decide) (good_of (by decide +kernel)) w h
  rw [show ev tx3 rx7 2 = 12 by decide +kernel, rx7_arr] at h1
  exact h1
theorem vars7 (K : Nat → Prop) (b : Nat) (w : World) (h : DagAt K w b tx3) : Calls Try.prog 14 #[.pointer (some ⟨b, 0, none⟩), .int .i64 2] w fun e w' => e = .returned (.tuple #[.int .u32 2, .int .i64 0]) ∧ Below w.heap.size w w' := by
  have h1 := vars_any K b 2 tx3 (by decide) (by decide) (good_of (by decide +kernel)) w h
  rw [show vr tx3 2 = 2 by decide +kernel] at h1
  exact h1
set_option maxRecDepth 100000 in
set_option maxHeartbeats 4000000 in
theorem tfixed_any (w : World) : Calls Try.prog 15 #[] w fun e w' => e = .returned (.bool true) ∧ Below w.heap.size w w' := by
  obtain ⟨K, hK⟩ : ∃ K : Nat → Prop, (fun i => i < w.heap.size) = K := ⟨_, rfl⟩
  have hN := new_any (fun i => i < w.heap.size) w (fun i hi => hi)
  have hend : ∀ w', Kept K w w' → Below w.heap.size w w' := fun w' h => by rw [← hK] at h; exact below_kept h
  rw [hK] at hN
  clear hK
  generalize hb : w.heap.size = b at hN
  have HB := Lib.hid hb
  clear hb
  go_enter Try.func15, Try.ntmps15
  go_wp2_with fail
  refine hN.mono ?_
  rintro r w0 ⟨rfl, h0, b0⟩
  have k0 : Kept K w w0 := Kept.below (by rw [HB.out]; exact b0)
  clear hN b0
  go_wp2_with fail
  refine (const_lit K b [] tx1 5 0 5 0 rfl rfl (by omega) (by decide) (by decide +kernel) (by decide +kernel) w0 h0).mono ?_
  rintro r w1 ⟨rfl, h1, q1⟩
  have k1 := k0.trans q1
  clear h0 k0 q1
  go_wp2_with fail
  refine (var_lit K b tx1 tx2 1 1 1 1 rfl rfl (by omega) (by decide) (by decide +kernel) (by decide +kernel) w1 h1).mono ?_
  rintro r w2 ⟨rfl, h2, q2⟩
  have k2 := k1.trans q2
  clear h1 k1 q2
  go_wp2_with fail
  refine (op_lit K b tx2 tx3 27 1 0 2 27 1 0 2 rfl rfl rfl rfl (by decide) (by decide) (by decide) rfl (by decide +kernel) (by decide +kernel) w2 h2).mono ?_
  rintro r w3 ⟨rfl, h3, q3⟩
  have k3 := k2.trans q3
  clear h2 k2 q3
  go_wp2_with fail
  refine (op_lit K b tx3 tx3 27 1 0 2 27 1 0 2 rfl rfl rfl rfl (by decide) (by decide) (by decide) rfl (by decide +kernel) (by decide +kernel) w3 h3).mono ?_
  rintro r w4 ⟨rfl, h4, q4⟩
  have k4 := k3.trans q4
  clear h3 k3 q4
  go_wp2_with fail
  refine ((op_no K b 27 3 0 tx3 (by decide) (by decide) w4 h4).mono (R' := fun e w' => e = .returned (.tuple #[.int .i64 0, .int .i64 100]) ∧ w' = w4) fun _ _ h => ⟨h.1, h.2.symm⟩).mono ?_
  rintro r w5 ⟨rfl, rfl⟩
  have h5 := h4
  have k5 := k4
  clear h4 k4
  go_wp2_with fail
  refine ((op_bad K b 18 0 0 tx3 (by decide) (by decide) (by decide) (by decide) w5 h5).mono (R' := fun e w' => e = .returned (.tuple #[.int .i64 0, .int .i64 1]) ∧ w' = w5) fun _ _ h => ⟨h.1, h.2.symm⟩).mono ?_
  rintro r w6 ⟨rfl, rfl⟩
  have h6 := h5
  have k6 := k5
  clear h5 k5
  go_wp2_with fail
  refine ((var_no b 32 (by decide) w6).mono (R' := fun e w' => e = .returned (.tuple #[.int .i64 0, .int .i64 1]) ∧ w' = w6) fun _ _ h => ⟨h.1, h.2.symm⟩).mono ?_
  rintro r w7 ⟨rfl, rfl⟩
  have h7 := h6
  have k7 := k6
  clear h6 k6
  go_wp2_with fail
  refine (eval7 K b w7 h7).mono ?_
  rintro r w8 ⟨rfl, q8⟩
  have h8 := h7.below q8
  have k8 := k7.then_below q8
  clear h7 k7 q8
  go_wp2_with fail
  refine (vars7 K b w8 h8).mono ?_
  rintro r w9 ⟨rfl, q9⟩
  have h9 := h8.below q9
  have k9 := k8.then_below q9
  clear h8 k8 q9
  go_wp2_with fail
  refine (node_lit K b tx3 2 2 0 27 1 0 2 2 0 27 1 0 rfl (by decide) (by decide) (by decide +kernel) rfl rfl rfl rfl rfl w9 h9).mono ?_
  rintro r w10 ⟨rfl, q10⟩
  have h10 := h9.below q10
  have k10 := k9.then_below q10
  obtain ⟨y0, y1, y2, y3, y4⟩ := five_cells (blk_new w10 (.cells #[.int .i64 2, .int .u32 0, .int .i64 27, .int .i64 1, .int .i64 0] 44))
  have hZ := h10.below ((Below.refl _ _).alloc (Nat.le_refl _) (.cells #[.int .i64 2, .int .u32 0, .int .i64 27, .int .i64 1, .int .i64 0] 44))
  have hLen : Calls Try.prog 17 #[.pointer (some ⟨b, 0, none⟩)] (w10.alloc (.cells #[.int .i64 2, .int .u32 0, .int .i64 27, .int .i64 1, .int .i64 0] 44)) fun e w' => e = .returned (.int .i64 3) ∧ (w10.alloc (.cells #[.int .i64 2, .int .u32 0, .int .i64 27, .int .i64 1, .int .i64 0] 44)) = w' := (len_any K b tx3 _ hZ).mono fun r w' ⟨e, h⟩ => ⟨e, h⟩
  go_wp2_with fail
  refine hLen.mono ?_
  rintro r wz ⟨rfl, rfl⟩
  go_wp2_with fail
  go_ret
  exact ⟨rfl, by rw [← HB.out]; exact hend _ (k10.then_alloc _)⟩
end Go.Proofs.Ytkleidcepnmioaa
