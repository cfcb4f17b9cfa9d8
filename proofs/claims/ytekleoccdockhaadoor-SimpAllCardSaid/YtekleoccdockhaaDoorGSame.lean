/- Have both Dags the same terms: walked. -/
import Derived.Test.YtekleoccdockhaaDoorLBoth
set_option linter.unusedVariables false
set_option linter.unusedSimpArgs false
namespace Go.Proofs.YtekleoccdockhaaDoor
open Go.RowKit Go.Maps Go.MapKept

theorem neq_same (w : World) (t : Term) : (binOp .neq 33 (tv t) (tv t)).run Tryd.prog w = .ok (.bool false) w := by
  unfold tv
  rw [run_neq_struct]
  simp [go_sem, Tryd.underlying33]
set_option maxRecDepth 100000 in
theorem same_any (ts : List Term) (hl : ts.length < 1000000000000) (K0 : Nat → Prop) (d k : Nat) (w : World) (h : BothM K0 w d k ts ts) :
    Calls Tryd.prog 18 #[.pointer (some ⟨d, 0, none⟩), .pointer (some ⟨k, 0, none⟩)] w fun e w' => e = .returned (.bool true) ∧ Below w.heap.size w w' := by
  obtain ⟨K, vl, hX⟩ := h
  have hD := hX.dag
  have hR := hX.ref
  clear hX
  have hq : ∀ n, Calls Tryd.prog 19 #[.pointer (some ⟨d, 0, none⟩)] (w.drewN n) fun e w'' => e = .returned (.int .i64 (ts.length : Int)) ∧ ∃ m, w'' = w.drewN m := fun n => Calls.quiet_of_same ((len_any K d ts _ (hD.below (below_drewN (Below.refl _ _) n))).mono fun r w' ⟨e, h⟩ => ⟨e, h.symm⟩)
  obtain ⟨A, c, rfl, q1, q2, q3⟩ := (hR.l.toSl encT 0).open_
  have c0 := one_cell hR.hb
  go_enter Tryd.func18, Tryd.ntmps18
  go_wp2_with fail
  go_quiet ((go_at_call 19; exact hq _))
  have b0 := below_drewN (Below.refl w.heap.size w) nq
  clear hq c0
  go_wp2_with fail
  go_loopw [5] (fun i wr => ∃ j : Nat, j ≤ ts.length ∧ i = .int .i64 j ∧ Below w.heap.size w wr) (fun i _ => ts.length - (intOf i).toNat)
  case atStart => exact ⟨0, Nat.zero_le _, rfl, b0⟩
  case round =>
    clear b0
    obtain ⟨j, hj, rfl, hb⟩ := hrel
    have hD1 := hD.below hb
    have hR1 := hR.below hb
    have c1 := one_cell hR1.hb
    by_cases hlt : j < ts.length
    · have hlt' : (j : Int) < ts.length := by omega
      have hN := node_any K d j ts hl hlt wr hD1
      generalize ht : ts.getD j default = t at hN
      unfold tv at hN
      go_wp2_with fail
      refine hN.mono ?_
      rintro r w1 ⟨rfl, b1⟩
      have hR2 := (hR1.below b1).below ((Below.refl _ _).alloc (Nat.le_refl _) (.cells #[.int .i64 t.k, .int .u32 t.v, .int .i64 t.op, .int .i64 t.a, .int .i64 t.b] 33))
      have b2 := (below_then hb b1).alloc (Nat.le_trans hb.size b1.size) (.cells #[.int .i64 t.k, .int .u32 t.v, .int .i64 t.op, .int .i64 t.a, .int .i64 t.b] 33)
      obtain ⟨z0, z1, z2, z3, z4⟩ := five_cells (blk_new w1 (.cells #[.int .i64 t.k, .int .u32 t.v, .int .i64 t.op, .int .i64 t.a, .int .i64 t.b] 33))
      obtain ⟨bb, off, eA, hat, hbl⟩ := (hR2.l.toSl encT 0).at_ hlt
      subst eA
      rw [show ts[j] = ts.getD j default by simp [List.getD, hlt], ht] at hat
      have d0 := hat 0 _ rfl
      have d1 := hat 1 _ rfl
      have d2 := hat 2 _ rfl
      have d3 := hat 3 _ rfl
      have d4 := hat 4 _ rfl
      simp only [Nat.add_zero] at d0
      have c2 := one_cell hR2.hb
      have hne := fun W => neq_same W t
      unfold tv at hne
      clear hat ht hR2 hN hD1 hR1 c1 hb b1 hR hD
      go_wp2_with fail
      go_quiet (fail)
      go_wp2_with fail
      go_roundw
      case rel => exact ⟨j + 1, by omega, by go_num, below_drewN b2 nq⟩
      case measure => simp [intOf]; omega
    · have hlt' : ¬ (j : Int) < ts.length := by omega
      go_wp2_with fail
      go_ret
      exact ⟨rfl, hb⟩
end Go.Proofs.YtekleoccdockhaaDoor
