/- Parse: the rows (written by genEP.py). -/
import Derived.Test.YtlpoebobfdmcmaaEParseA
import Derived.Deep.RegionHeld3
import Derived.Deep.RegionLaw
set_option linter.unusedVariables false
set_option linter.unusedSimpArgs false
namespace Go.Proofs.Ytlpoebobfdmcmaa
open Go.RowKit

set_option maxRecDepth 100000 in
set_option maxHeartbeats 800000 in
theorem parse_main (s : ByteArray) (N : Int → Int → Nat) (hN : Hid (∀ a n, num (toL s) a.toNat n.toNat = N a n)) (w : World) (hs : s.size ≤ 281474976710656) (h0 : 52 ≤ s.size) (h1 : (toL s).take 7 = magicL) (h2 : N 16 2 = 2) (h3 : N 18 2 = 243) (h4 : N 20 4 = 1) (h5 : N 40 2 = 52) (h6 : N 42 2 = 32) (h7 : N 44 2 ≤ 16) (h8 : N 28 4 + 32 * N 44 2 ≤ s.size) :
    Calls Try.prog 16 #[.string s] w fun r w' => ParseOutG w (tailOf s (N 24 4) (N 36 4) (N 28 4) (N 44 2)) r w' := by
  have hs2 : s.size ≤ maxLen := by unfold maxLen; omega
  have d0 : decide ((52 : Int) ≤ (s.size : Int)) = true := decide_eq_true (by omega)
  have d1 : decide ((toL s).take 7 = magicL) = true := decide_eq_true h1
  clear h1
  have q2 : Hid (¬ ((N 16 2 : Nat) : Int) ≠ 2) := Lib.hid (by omega)
  clear h2
  have q3 : Hid (¬ ((N 18 2 : Nat) : Int) ≠ 243) := Lib.hid (by omega)
  clear h3
  have q4 : Hid (¬ ((N 20 4 : Nat) : Int) ≠ 1) := Lib.hid (by omega)
  clear h4
  have q5 : Hid (¬ ((N 40 2 : Nat) : Int) ≠ 52) := Lib.hid (by omega)
  clear h5
  have q6 : Hid (¬ ((N 42 2 : Nat) : Int) ≠ 32) := Lib.hid (by omega)
  clear h6
  have d7 : decide ((N 44 2 : Int) ≤ 16) = true := decide_eq_true (by omega)
  have l28 : N 28 4 < 4294967296 := hN.out 28 4 ▸ num_lt4 _ _ (Nat.le_refl _)
  have hW1 : wrap64 ((N 44 2 : Int) * 32) = (N 44 2 : Int) * 32 := by unfold wrap64; omega
  have hW2 : wrap64 ((s.size : Int) - (N 28 4 : Int)) = (s.size : Int) - (N 28 4 : Int) := by unfold wrap64; omega
  have d8 : decide ((N 28 4 : Int) ≤ (s.size : Int)) = true := decide_eq_true (by omega)
  have d9 : decide ((N 44 2 : Int) * 32 ≤ (s.size : Int) - (N 28 4 : Int)) = true := decide_eq_true (by omega)
  have l24 : N 24 4 < 4294967296 := hN.out 24 4 ▸ num_lt4 _ _ (Nat.le_refl _)
  have l36 : N 36 4 < 4294967296 := hN.out 36 4 ▸ num_lt4 _ _ (Nat.le_refl _)
  have u24 : IntKind.u32.wrap (N 24 4 : Int) = (N 24 4 : Int) := by rw [IntKind.wrap_u32]; omega
  have u36 : IntKind.u32.wrap (N 36 4 : Int) = (N 36 4 : Int) := by rw [IntKind.wrap_u32]; omega
  go_enter_defers Try.func16, Try.ntmps16
  go_wp2_with (first | (go_at_call 22; refine (must_any _ _ _).mono ?_; rintro r w1 ⟨rfl, ⟨hm, rfl⟩ | ⟨hm, rfl⟩⟩ <;> first | exact absurd hm (by decide) | clear hm) | (go_at_call 24; refine (prefix_magic s _).mono ?_; rintro r w1 ⟨rfl, rfl⟩) | (go_at_call 25; refine (same_int s N hN.out _ _ _ _ (by omega) (by omega) (by omega) hs2 (by omega)).mono ?_; rintro r w1 ⟨rfl, ⟨hm, rfl⟩ | ⟨hm, rfl⟩⟩ <;> first | exact absurd hm q2.out | exact absurd hm q3.out | exact absurd hm q4.out | exact absurd hm q5.out | exact absurd hm q6.out | clear hm) | (go_at_call 26; refine (num_int s N hN.out _ _ _ (by omega) (by omega) hs2 (by omega)).mono ?_; rintro r w1 ⟨rfl, rfl⟩) | fail)
  obtain ⟨n, hn⟩ : ∃ n, n = N 44 2 := ⟨_, rfl⟩
  obtain ⟨a, ha⟩ : ∃ a, a = N 28 4 := ⟨_, rfl⟩
  rw [← hn, ← ha]
  rw [← hn] at h7 h8 hW1 d7 d9
  rw [← ha] at h8 hW2 d8 d9 l28
  replace hn := Lib.hid hn
  replace ha := Lib.hid ha
  have hbx := blk_alloc (blk_new w (.cells #[.int .u32 (N 24 4), .int .u32 (N 36 4), .slice none 0 0] 25)) (.cells #[.int .i64 0] 27)
  have hbe : ((w.alloc (.cells #[.int .u32 (N 24 4), .int .u32 (N 36 4), .slice none 0 0] 25)).alloc (.cells #[.int .i64 0] 27)).heap[w.heap.size + 1]? = _ := blk_top (by simp)
  have hb := ((Below.refl w.heap.size w).alloc (Nat.le_refl _) (.cells #[.int .u32 (N 24 4), .int .u32 (N 36 4), .slice none 0 0] 25)).alloc (by simp) (.cells #[.int .i64 0] 27)
  go_loopw [54] (fun i wr => ∃ (k : Nat) (ys : List Seg) (vx : Value), k ≤ n ∧ i = .int .i64 k ∧ Hid (rowsAt s a k = .ok ys) ∧ wr.heap[w.heap.size]? = some (.cells #[.int .u32 (N 24 4), .int .u32 (N 36 4), vx] 25 (0, 0)) ∧ wr.heap[w.heap.size + 1]? = some (.cells #[.int .i64 0] 27 (0, 0)) ∧ OwnG w.heap.size wr vx ys ∧ Below w.heap.size w wr) (fun i _ => n - (intOf i).toNat)
  case atStart => exact ⟨0, [], _, Nat.zero_le _, rfl, Lib.hid rfl, hbx, hbe, OwnG.nil _ _, hb⟩
  case round =>
    clear hbx hbe hb
    obtain ⟨k, ys, vx, hk, rfl, HR, hbx, hbe, ho, hb⟩ := hrel
    by_cases hlt : k < n
    · have hm : (a : Int) + (k : Int) * 32 = ((a + 32 * k : Nat) : Int) := by omega
      have hm2 : a + 32 * k + 32 ≤ s.size := by omega
      have hA1 : IntKind.i64.wrap ((k : Int) * 32) = (k : Int) * 32 := by rw [IntKind.wrap_i64]; omega
      have hA2 : IntKind.i64.wrap ((a : Int) + (k : Int) * 32) = (a : Int) + (k : Int) * 32 := by rw [IntKind.wrap_i64]; omega
      replace hm := Lib.hid hm
      have hyl := Lib.hid (rowsAt_len HR.out)
      have hbxd : wr.drew.heap[w.heap.size]? = some (.cells #[.int .u32 (N 24 4), .int .u32 (N 36 4), vx] 25 (0, 0)) := hbx
      have hod : OwnG w.heap.size wr.drew vx ys := ho.move (T := [36]) (Quiet.below ((Below.refl _ _).drew)) (by decide)
      have hc0 := cell_of hbx 2
      simp only [List.getElem?_toArray, List.getElem?_cons_zero, List.getElem?_cons_succ] at hc0
      cases hsg : segOf s (a + 32 * k) with
      | ok g =>
        have HR2 := Lib.hid (show rowsAt s a (k + 1) = .ok (ys ++ [g]) by rw [rowsAt, HR.out]; simp only [hsg])
        have hgf := segOf_fits hs hsg
        obtain ⟨ys2, hys2⟩ : ∃ z, z = ys ++ [g] := ⟨_, rfl⟩
        have HR3 := Lib.hid (show rowsAt s a (k + 1) = .ok ys2 by rw [hys2]; exact HR2.out)
        replace hys2 := Lib.hid hys2
        replace hsg := Lib.hid hsg
        go_wp2_with fail
        refine wp_region_noPanic ?_
        go_region_law (first
          | (go_simp; go_at_call 27; refine (seg_ok _ _ hm.out hs hm2 hsg.out).mono ?_; rintro r w4 ⟨rfl, hb4⟩; have hbx4 := blk_below hbxd hb4; have hbe4 := blk_below (w := wr.drew) hbe hb4; have hc4 := cell_of hbx4 2; simp only [List.getElem?_toArray, List.getElem?_cons_zero, List.getElem?_cons_succ] at hc4; have ho4 := hod.move (w' := w4) (T := [36]) (Quiet.below (w := wr.drew) hb4) (by decide); have hc5 := cell_alloc0 hc4 (.cells #[.int .u32 g.addr, .string g.data, .int .i64 g.size, .int .i64 g.flags] 36))
          | (refine step_pushG (w0 := w) (W := w4) w.heap.size (by rfl) (.tmp 58) (.tmp 65) (by rfl) ho4 g hgf (by rfl) (by rfl) (hb.drew.trans (hb4.mono hb.size)) (Nat.le_trans hb.size hb4.size) (by have := hyl.out; omega) ?_; intro v1 w11 ho1 hB1 hg1; rw [← hys2.out] at ho1; obtain ⟨A1, c1, rfl, _, _, _⟩ := (ho1.toSegs 0).open_; have hwr1 := ho4.other hg1 hbx4 (by simp); have hc1 := cell_of hwr1 2; simp only [List.getElem?_toArray, List.getElem?_cons_zero, List.getElem?_cons_succ] at hc1; have hf1 := frozen_of hwr1 2))
        all_goals
          refine NoPanic.normal ?_
          have hwr2 := blk_set hwr1 2 (.slice A1 ys2.length c1)
          have hbe1 := ho4.other hg1 hbe4 (by simp)
          have hbe2 := (Below.heap_setCell w11 ⟨w.heap.size, 2, none⟩ (.slice A1 ys2.length c1) (w.heap.size + 1) (by simp)).trans hbe1
          have ho2 := ho1.move (Quiet.set hwr1 (B := w.heap.size) (T := [36]) (Nat.le_refl _) (by decide) 2 (.slice A1 ys2.length c1)) (by decide)
          have hb2 : Below w.heap.size w (w11.setCell ⟨w.heap.size, 2, none⟩ (.slice A1 ys2.length c1)) := hB1.setCell (Nat.le_refl _) _
          go_wp2_with fail
          go_roundw
          case rel => exact ⟨k + 1, _, _, hlt, vsucc _, HR3, hwr2, hbe2, ho2, hb2⟩
          case measure => simp [intOf] <;> omega
      | error e =>
        have he := segOf_err hsg
        replace hsg := Lib.hid hsg
        go_wp2_with fail
        have hbed : wr.drew.heap[w.heap.size + 1]? = some (.cells #[.int .i64 0] 27 (0, 0)) := hbe
        refine Code.wp_mono (P := Try.prog) (Q := ParsePanic w.heap.size w e) ?_ ?_
        · intro x a' w' h
          cases x with
          | panic ch => exact ParsePanic.body he rfl h fun w' hb => ⟨by rw [tailOf, rowsAt_err (k := k + 1) (show rowsAt s (N 28 4) (k + 1) = .error e by rw [← ha.out, rowsAt, HR.out]; simp only [hsg.out]) (N 44 2) (by rw [← hn.out]; omega)], hb⟩
          | _ => exact (h : False).elim
        · refine wp_region_any (by kernel_rfl) ?_
          try (change wpAny _ _ _ _ _ _ _ (World.drew _))
          refine wpAny_take (i := 0) (v := ?_) rfl (by kernel_rfl) (by kernel_rfl) (by kernel_rfl) (fun c a w h => ParsePanic.put (by decide) (by decide) h) (Or.inl ⟨by rfl, ?_⟩) ?_
          rotate_left
          · intro w; go_simp; try with_reducible rfl
          refine wpAny_take (i := 2) (v := ?_) rfl (by kernel_rfl) (by kernel_rfl) (by kernel_rfl) (fun c a w h => ParsePanic.put (by decide) (by decide) h) (Or.inl ⟨by rfl, ?_⟩) ?_
          rotate_left
          · intro w; go_simp; try with_reducible rfl
          refine wpAny_take (i := 3) (v := ?_) rfl (by kernel_rfl) (by kernel_rfl) (by kernel_rfl) (fun c a w h => ParsePanic.put (by decide) (by decide) h) (Or.inl ⟨by rfl, ?_⟩) ?_
          rotate_left
          · intro w; go_simp; try with_reducible rfl
          refine wpAny_take (i := 4) (v := ?_) rfl (by kernel_rfl) (by kernel_rfl) (by kernel_rfl) (fun c a w h => ParsePanic.put (by decide) (by decide) h) (Or.inl ⟨by rfl, ?_⟩) ?_
          rotate_left
          · intro w; go_simp; try with_reducible rfl
          refine wpAny_take (i := 5) (v := ?_) rfl (by kernel_rfl) (by kernel_rfl) (by kernel_rfl) (fun c a w h => ParsePanic.put (by decide) (by decide) h) (Or.inl ⟨by rfl, ?_⟩) ?_
          rotate_left
          · intro w; go_simp; try with_reducible rfl
          refine wpAny_take (i := 6) (v := ?_) rfl (by kernel_rfl) (by kernel_rfl) (by kernel_rfl) (fun c a w h => ParsePanic.put (by decide) (by decide) h) (Or.inl ⟨by rfl, ?_⟩) ?_
          rotate_left
          · intro w; go_simp; try with_reducible rfl
          have hfin : ∀ w4, Below wr.drew.heap.size wr.drew w4 → Below w.heap.size w w4 ∧ (∃ x0 x1 x2, w4.heap[w.heap.size]? = some (.cells #[x0, x1, x2] 25 (0, 0))) ∧ w4.heap[w.heap.size + 1]? = some (.cells #[.int .i64 0] 27 (0, 0)) :=
            fun w4 hb4 => ⟨hb.drew.trans (hb4.mono hb.size), ⟨_, _, _, blk_below hbxd hb4⟩, blk_below hbed hb4⟩
          refine wpAny_ready (rs := [1, 7]) (by kernel_rfl) (by simp) ?_
          refine AllReady.cons rfl (fun K hK => ?_) ?_
          · go_simp
            refine hK _ _ ?_
            clear hK K
            refine wpAny_ready (rs := [7]) (by kernel_rfl) (by simp) ?_
            refine AllReady.cons rfl (fun K hK => ?_) ?_
            · go_simp
              refine (seg_no _ _ hm.out hs hm2 hsg.out).mono ?_
              rintro r w4 ⟨rfl, hb4⟩
              exact ⟨⟨rfl, rfl, rfl⟩, rfl, hfin w4 hb4⟩
            · exact AllReady.nil
          · refine AllReady.cons rfl (fun K hK => ?_) ?_
            · go_simp
              refine (seg_no _ _ hm.out hs hm2 hsg.out).mono ?_
              rintro r w4 ⟨rfl, hb4⟩
              exact ⟨⟨rfl, rfl, rfl⟩, rfl, hfin w4 hb4⟩
            · exact AllReady.nil
    · obtain ⟨Ax, cx, rfl, _, _, _⟩ := (ho.toSegs 0).open_
      have hF := Lib.hid (show rowsAt s a n = .ok ys by rw [← HR.out]; congr 1; omega)
      have hbxd : wr.drew.heap[w.heap.size]? = some (.cells #[.int .u32 (N 24 4), .int .u32 (N 36 4), .slice Ax ys.length cx] 25 (0, 0)) := hbx
      have hbed : wr.drew.heap[w.heap.size + 1]? = some (.cells #[.int .i64 0] 27 (0, 0)) := hbe
      have hod : OwnG w.heap.size wr.drew (.slice Ax ys.length cx) ys := ho.move (T := [36]) (Quiet.below ((Below.refl _ _).drew)) (by decide)
      have hyl := rowsAt_len hF.out
      have c0 := cell_of hbx 0
      have c1 := cell_of hbx 1
      have c2 := cell_of hbx 2
      simp only [List.getElem?_toArray, List.getElem?_cons_zero, List.getElem?_cons_succ] at c0 c1 c2
      replace hyl := Lib.hid hyl
      obtain ⟨q, hq⟩ : ∃ q, q = chk ys := ⟨_, rfl⟩
      have hcw := fun W => check_any w.heap.size (N 24 4) (N 36 4) (.slice Ax ys.length cx) ys W
      rw [← hq] at hcw
      replace hq := Lib.hid hq
      go_wp2_with fail
      refine wp_region_noPanic ?_
      go_region_law ((go_simp; go_at_call 14; refine (hcw _ (hod.toSegs _) (by have := hyl.out; omega)).mono ?_; rintro r w4 ⟨rfl, hb4⟩; have hbx4 := blk_below hbxd hb4; have hbe4 := blk_below hbed hb4; have e0 := cell_of hbx4 0; have e1 := cell_of hbx4 1; have e2 := cell_of hbx4 2; have g0 := cell_of hbe4 0; simp only [List.getElem?_toArray, List.getElem?_cons_zero, List.getElem?_cons_succ] at e0 e1 e2 g0; have f0 := frozen_of hbx4 0; have f1 := frozen_of hbx4 1; have f2 := frozen_of hbx4 2; have f3 := frozen_of hbe4 0))
      all_goals
        refine NoPanic.normal ?_
        have hbx5 := blk_set (blk_set (blk_set hbx4 0 (.int .u32 (N 24 4))) 1 (.int .u32 (N 36 4))) 2 (.slice Ax ys.length cx)
        have hbe5 : (((w4.setCell ⟨w.heap.size, 0, none⟩ (.int .u32 (N 24 4))).setCell ⟨w.heap.size, 1, none⟩ (.int .u32 (N 36 4))).setCell ⟨w.heap.size, 2, none⟩ (.slice Ax ys.length cx)).heap[w.heap.size + 1]? = some (.cells #[.int .i64 0] 27 (0, 0)) := by
          rw [Below.heap_setCell _ _ _ _ (by simp), Below.heap_setCell _ _ _ _ (by simp), Below.heap_setCell _ _ _ _ (by simp)]
          exact hbe4
        have hb5 : Below w.heap.size w (((w4.setCell ⟨w.heap.size, 0, none⟩ (.int .u32 (N 24 4))).setCell ⟨w.heap.size, 1, none⟩ (.int .u32 (N 36 4))).setCell ⟨w.heap.size, 2, none⟩ (.slice Ax ys.length cx)) := (((hb.drew.trans (hb4.mono hb.size)).setCell (Nat.le_refl _) _).setCell (Nat.le_refl _) _).setCell (Nat.le_refl _) _
        have ho5 : OwnG w.heap.size (((w4.setCell ⟨w.heap.size, 0, none⟩ (.int .u32 (N 24 4))).setCell ⟨w.heap.size, 1, none⟩ (.int .u32 (N 36 4))).setCell ⟨w.heap.size, 2, none⟩ (.slice Ax ys.length cx)) (.slice Ax ys.length cx) ys :=
          (((hod.move (T := [36]) (Quiet.below (w := wr.drew) hb4) (by decide)).move (Quiet.set hbx4 (B := w.heap.size) (T := [36]) (Nat.le_refl _) (by decide) _ _) (by decide)).move (Quiet.set (blk_set hbx4 _ _) (B := w.heap.size) (T := [36]) (Nat.le_refl _) (by decide) _ _) (by decide)).move (Quiet.set (blk_set (blk_set hbx4 _ _) _ _) (B := w.heap.size) (T := [36]) (Nat.le_refl _) (by decide) _ _) (by decide)
        go_wp2_with fail
        generalize (((w4.setCell ⟨w.heap.size, 0, none⟩ (.int .u32 (N 24 4))).setCell ⟨w.heap.size, 1, none⟩ (.int .u32 (N 36 4))).setCell ⟨w.heap.size, 2, none⟩ (.slice Ax ys.length cx)) = W5 at hbx5 hbe5 hb5 ho5
        have hbx6 := (Below.heap_setCell W5 ⟨w.heap.size + 1, 0, none⟩ (.int .i64 q) w.heap.size (by simp)).trans hbx5
        have hbe6 := blk_set hbe5 0 (.int .i64 q)
        have ho6 := ho5.move (Quiet.set hbe5 (B := w.heap.size) (T := [36]) (by omega) (by decide) 0 (.int .i64 q)) (by decide)
        have hb6 : Below w.heap.size w (W5.setCell ⟨w.heap.size + 1, 0, none⟩ (.int .i64 q)) := hb5.setCell (by simp) _
        have hT : Hid (tailOf s (N 24 4) (N 36 4) (N 28 4) (N 44 2) = if q = 0 then .ok (N 24 4, N 36 4, ys) else .error q) := Lib.hid (by rw [tailOf, ← ha.out, ← hn.out, hF.out, hq.out])
        refine parse_idle _ w.heap.size q hbx6 hbe6 ?_ ?_
        · intro hq0
          have r0 := cell_of hbx6 0
          have r1 := cell_of hbx6 1
          have r2 := cell_of hbx6 2
          have r3 := cell_of hbe6 0
          simp only [List.setIfInBounds_toArray, List.set_cons_zero, List.set_cons_succ, List.getElem?_toArray, List.getElem?_cons_zero, List.getElem?_cons_succ] at r0 r1 r2 r3
          simp only [Leaves, settle, results, Try.results16]
          simp [go_sem, r0, r1, r2, r3]
          rw [hT.out, if_pos hq0]
          exact ⟨⟨_, by rw [hq0], ho6⟩, hb6⟩
        · intro hq0 w9 k1 k2 k3
          have r0 := cell_of k1 0
          have r1 := cell_of k1 1
          have r2 := cell_of k1 2
          have r3 := cell_of k2 0
          simp only [List.getElem?_toArray, List.getElem?_cons_zero, List.getElem?_cons_succ] at r0 r1 r2 r3
          simp only [Leaves, settle, results, Try.results16]
          simp [go_sem, r0, r1, r2, r3]
          rw [hT.out, if_neg hq0]
          exact ⟨rfl, hb6.trans k3⟩
end Go.Proofs.Ytlpoebobfdmcmaa
