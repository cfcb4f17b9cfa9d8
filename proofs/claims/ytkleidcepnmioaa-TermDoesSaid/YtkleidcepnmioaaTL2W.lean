/- The law TermDoes, walked. -/
import Derived.Test.YtkleidcepnmioaaTFix
import Derived.Test.YtkleidcepnmioaaLLaid
set_option linter.unusedVariables false
set_option linter.unusedSimpArgs false
namespace Go.Proofs.Ytkleidcepnmioaa
open Go.RowKit Go.Maps Go.MapKept

theorem neq_same (w : World) (t : Term) : (binOp .neq 44 (tv t) (tv t)).run Try.prog w = .ok (.bool false) w := by
  unfold tv
  rw [run_neq_struct]
  simp [go_sem, Try.underlying44]
set_option maxRecDepth 100000 in
set_option maxHeartbeats 4000000 in
theorem tlaw2_any (B : Nat) (e : TypeId) (v : Value) (xs : List SOp) (hf : ∀ x ∈ xs, x.Fits) (w : World) (hs : SlN B e 5 SOp.five w v xs) :
    Calls Try.prog 4 #[v] w fun e w' => e = .returned (.bool true) ∧ Below w.heap.size w w' := by
  have hL := laid_any B e v xs hf _ hs
  obtain ⟨A, cp, rfl, q1, q2, q3⟩ := hs.open_
  obtain ⟨K0, hK⟩ : ∃ K : Nat → Prop, (fun i => i < w.heap.size) = K := ⟨_, rfl⟩
  have hend : ∀ w', Kept K0 w w' → Below w.heap.size w w' := fun w' h => by rw [← hK] at h; exact below_kept h
  rw [hK] at hL
  clear hK hs hf
  go_enter Try.func4, Try.ntmps4
  go_wp2_with fail
  refine hL.mono ?_
  rintro r w0 ⟨d, k, ts, rfl, ⟨K, vl, hX⟩, hG, hlen, hk1⟩
  have hD := hX.dag
  have hR := hX.ref
  have hend2 : ∀ w', Below w0.heap.size w0 w' → Below w.heap.size w w' := fun w' b => hend _ (hk1.then_below b)
  clear hX hL hend hk1
  have hl : ts.length < 1000000000000 := by omega
  have hq : ∀ n, Calls Try.prog 17 #[.pointer (some ⟨d, 0, none⟩)] (w0.drewN n) fun e w'' => e = .returned (.int .i64 (ts.length : Int)) ∧ ∃ m, w'' = w0.drewN m := fun n => Calls.quiet_of_same ((len_any K d ts _ (hD.below (below_drewN (Below.refl _ _) n))).mono fun r w' ⟨e, h⟩ => ⟨e, h.symm⟩)
  obtain ⟨A2, c, rfl, p1, p2, p3⟩ := (hR.l.toSl encT 0).open_
  have c0 := one_cell hR.hb
  go_wp2_with fail
  go_quiet ((go_at_call 17; exact hq _))
  have b0 := below_drewN (Below.refl w0.heap.size w0) nq
  clear hq c0
  go_wp2_with fail
  go_loopw [6] (fun i wr => ∃ j : Nat, j ≤ ts.length ∧ i = .int .i64 j ∧ Below w0.heap.size w0 wr) (fun i _ => ts.length - (Go.RowKit.intOf i).toNat)
  case atStart => exact ⟨0, Nat.zero_le _, rfl, b0⟩
  case round =>
    clear b0
    obtain ⟨j, hj, rfl, hb⟩ := hrel
    have hD1 := hD.below hb
    have hR1 := hR.below hb
    have c1 := one_cell hR1.hb
    by_cases hlt : j < ts.length
    · have hlt' : (j : Int) < ts.length := by omega
      have hN := node_any K d j ts hl hlt wr hD1
      generalize ht : ts.getD j default = t at hN
      unfold tv at hN
      go_wp2_with fail
      refine hN.mono ?_
      rintro r w1 ⟨rfl, b1⟩
      have hR2 := (hR1.below b1).below ((Below.refl _ _).alloc (Nat.le_refl _) (.cells #[.int .i64 t.k, .int .u32 t.v, .int .i64 t.op, .int .i64 t.a, .int .i64 t.b] 44))
      have b2 := (below_then hb b1).alloc (Nat.le_trans hb.size b1.size) (.cells #[.int .i64 t.k, .int .u32 t.v, .int .i64 t.op, .int .i64 t.a, .int .i64 t.b] 44)
      obtain ⟨z0, z1, z2, z3, z4⟩ := five_cells (blk_new w1 (.cells #[.int .i64 t.k, .int .u32 t.v, .int .i64 t.op, .int .i64 t.a, .int .i64 t.b] 44))
      obtain ⟨bb, off, eA, hat, hbl⟩ := (hR2.l.toSl encT 0).at_ hlt
      subst eA
      rw [show ts[j] = ts.getD j default by simp [List.getD, hlt], ht] at hat
      have d0 := hat 0 _ rfl
      have d1 := hat 1 _ rfl
      have d2 := hat 2 _ rfl
      have d3 := hat 3 _ rfl
      have d4 := hat 4 _ rfl
      simp only [Nat.add_zero] at d0
      have c2 := one_cell hR2.hb
      have hne := fun W => neq_same W t
      unfold tv at hne
      have HE := Lib.hid hend2
      clear hat ht hR2 hN hD1 hR1 c1 hb b1 hR hD hend2
      go_wp2_with fail
      go_quiet (fail)
      go_wp2_with fail
      go_roundw
      case rel => exact ⟨j + 1, by omega, by go_num, below_drewN b2 nq⟩
      case measure => simp [Go.RowKit.intOf]; omega
    · have hlt' : ¬ (j : Int) < ts.length := by omega
      have hN := fun w h => node_no K d (ts.length : Int) ts hl (by unfold inR; simp) w h
      have hM := fun w h => node_no K d (-1) ts hl (by unfold inR; simp) w h
      unfold tv constT at hN hM
      go_wp2_with fail
      refine (hN _ hD1).mono ?_
      rintro r w1 ⟨rfl, b1⟩
      have hD2 := (hD1.below b1).below ((Below.refl _ _).alloc (Nat.le_refl _) (.cells #[.int .i64 0, .int .u32 0, .int .i64 0, .int .i64 0, .int .i64 0] 44))
      have b2 := below_alloc1 (below_then hb b1) (.cells #[.int .i64 0, .int .u32 0, .int .i64 0, .int .i64 0, .int .i64 0] 44)
      go_wp2_with fail
      refine (hM _ hD2).mono ?_
      rintro r w2 ⟨rfl, b3⟩
      have b4 := below_alloc1 (below_then b2 b3) (.cells #[.int .i64 0, .int .u32 0, .int .i64 0, .int .i64 0, .int .i64 0] 44)
      clear hN hM hD2 hD1 hR1 b1 b2 b3
      go_wp2_with fail
      refine (tfixed_any _).mono ?_
      rintro r w3 ⟨rfl, b5⟩
      have b6 := below_then b4 b5
      go_wp2_with fail
      go_ret
      exact ⟨rfl, hend2 _ b6⟩
end Go.Proofs.Ytkleidcepnmioaa
