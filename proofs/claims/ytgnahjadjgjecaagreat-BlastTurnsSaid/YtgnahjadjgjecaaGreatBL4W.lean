/- Walk of the law BlastTurns. -/
import Derived.Test.YtgnahjadjgjecaaGreatBLawA
import Derived.Test.YtgnahjadjgjecaaGreatBRDif
import Derived.Test.YtgnahjadjgjecaaGreatTLen
set_option linter.unusedVariables false
set_option linter.unusedSimpArgs false
namespace Go.Proofs.YtgnahjadjgjecaaGreat
open Go.RowKit Go.Maps Go.MapKept

theorem chkO_swap (ts : List Term) (ax bx : List Int) : chkO ts bx ax = chkO ts ax bx := by
  unfold chkO
  by_cases h : ax.length = bx.length
  · rw [if_pos h, if_pos h.symm]
    unfold chkL
    rw [List.any_append, List.any_append, List.any_append, List.any_append, Bool.or_comm, Bool.or_comm (ax.any fun n => hardB ts n.toNat)]
  · rw [if_neg h, if_neg fun e => h e.symm]
theorem difP_swap (ts : List Term) (x : Nat → Nat) {ax bx : List Int} (hl : ax.length = bx.length) : difP ts x (prs bx ax) = difP ts x (prs ax bx) := by
  cases h : difP ts x (prs ax bx) with
  | false =>
    refine difP_no fun j hj => ?_
    by_cases he : ev ts x (bx.getD j 0).toNat = ev ts x (ax.getD j 0).toNat
    · exact he
    · rw [difP_yes (by omega) fun e => he e.symm] at h
      cases h
  | true =>
    cases h2 : difP ts x (prs bx ax) with
    | true => rfl
    | false =>
      rw [← h, ← h2]
      symm
      rw [h2]
      refine difP_no fun j hj => ?_
      by_cases he : ev ts x (ax.getD j 0).toNat = ev ts x (bx.getD j 0).toNat
      · exact he
      · rw [difP_yes (by omega) fun e => he e.symm] at h2
        cases h2
set_option maxRecDepth 100000 in
set_option maxHeartbeats 40000000 in
theorem blaw4_any (B : Nat) (e e1 e2 : TypeId) (vs va vb : Value) (xs : List SOp) (ax bx : List Int) (hf : ∀ x ∈ xs, x.Fits) (x : Nat → Nat) (hx : ∀ r, x r < 4294967296) (w : World) (hs : SlN B e 5 SOp.five w vs xs) (hva : Sl 0 e1 I64 w va ax) (hvb : Sl 0 e2 I64 w vb bx) :
    Calls Tryz.prog 6 #[.agg #[vs, va, vb], .agg (regB x)] w fun r w' => r = .returned (.bool true) ∧ Below w.heap.size w w' := by
  obtain ⟨A, c, rfl, _, _, _⟩ := hs.open_
  obtain ⟨A1, c1, rfl, _, _, _⟩ := hva.open_
  obtain ⟨A2, c2, rfl, _, _, _⟩ := hvb.open_
  go_enter Tryz.func6, Tryz.ntmps6
  have b2 : Below w.heap.size w ((w.alloc (.cells #[.slice A xs.length c, .slice A1 ax.length c1, .slice A2 bx.length c2] 25)).alloc (.cells (regB x) 27)) := ((Below.refl w.heap.size w).alloc (Nat.le_refl _) _).alloc (by simp) _
  have ya := blk_alloc (blk_new w (.cells #[.slice A xs.length c, .slice A1 ax.length c1, .slice A2 bx.length c2] 25)) (.cells (regB x) 27)
  have yr := blk_top (w := w.alloc (.cells #[.slice A xs.length c, .slice A1 ax.length c1, .slice A2 bx.length c2] 25)) (o := .cells (regB x) 27) (g := w.heap.size + 1) (by simp)
  have sz : ((w.alloc (.cells #[.slice A xs.length c, .slice A1 ax.length c1, .slice A2 bx.length c2] 25)).alloc (.cells (regB x) 27)).heap.size = w.heap.size + 2 := by simp
  have hL := blaid_any B e e1 e2 _ _ _ xs ax bx hf _ (hs.below b2) (Sl.later hva b2) (Sl.later hvb b2)
  go_wp2_with fail
  generalize ((w.alloc (.cells #[.slice A xs.length c, .slice A1 ax.length c1, .slice A2 bx.length c2] 25)).alloc (.cells (regB x) 27)) = w1 at *
  refine hL.mono ?_
  rintro r w2 ⟨d, k, ts, vs', va', vb', rfl, hB, hG, hfew, hK, ov, cva, cvb⟩
  have yo : (#[vs', va', vb'] : Array Value).all (·.oneCell') = true := by simp [Array.all, ov, cva.1, cvb.1]
  have ha' := cva.2 _ _ _ hva
  have hb' := cvb.2 _ _ _ hvb
  have ya := hK.blk (show w.heap.size < w1.heap.size by omega) ya
  have yr := hK.blk (show w.heap.size + 1 < w1.heap.size by omega) yr
  have ks := row_kept w2 w.heap.size #[vs', va', vb']
  have hL : LAt w w.heap.size (w.heap.size + 1) vs' va' vb' x d k ts (w2.setRow w.heap.size #[vs', va', vb']) := by
    refine ⟨(Kept.below b2).trans ((hK.mono fun i hi => (show i < w1.heap.size by omega)).trans (ks.mono fun i hi => (show i ≠ w.heap.size by omega))), setRow_heap _ _ _ _ _ _ ya, ks.blk (show w.heap.size + 1 ≠ w.heap.size by omega) yr, ?_⟩
    rw [← sz]
    exact hB.moved ks (show w.heap.size < w1.heap.size by omega)
  clear hK hB cva cvb hs hva hvb ks yr b2 sz
  have la : (ax.take 6).length ≤ 6 := List.length_take_le _ _
  have lb : (bx.take 6).length ≤ 6 := List.length_take_le _ _
  generalize ax.take 6 = ay at *
  generalize bx.take 6 = by_ at *
  obtain ⟨c1, c2⟩ : (w2.setRow w.heap.size #[vs', va', vb']).cell? ⟨w.heap.size, 1, none⟩ = some va' ∧ (w2.setRow w.heap.size #[vs', va', vb']).cell? ⟨w.heap.size, 2, none⟩ = some vb' := ⟨(cell_of hL.ya 1).trans rfl, (cell_of hL.ya 2).trans rfl⟩
  go_wp2_with (first | (refine wpList_store_row rfl 25 (.tmp 2) (.tmp 18) rfl w.heap.size #[vs', va', vb'] rfl rfl 25 _ ya (by kernel_rfl) rfl yo ?_) | fail)
  clear ya
  generalize w2.setRow w.heap.size #[vs', va', vb'] = w3 at *
  clear c1 c2
  obtain ⟨Kd, hD⟩ := hL.dag
  refine (len_any Kd d ts w3 hD).mono ?_
  rintro r w4 ⟨rfl, rfl⟩
  obtain ⟨c1, c2⟩ : w3.cell? ⟨w.heap.size, 1, none⟩ = some va' ∧ w3.cell? ⟨w.heap.size, 2, none⟩ = some vb' := ⟨(cell_of hL.ya 1).trans rfl, (cell_of hL.ya 2).trans rfl⟩
  by_cases hc0 : chkO ts ay by_ = 0
  · have hc1 : chkO ts by_ ay = 0 := by rw [chkO_swap]; exact hc0
    go_wp2_with fail
    refine (dif_any Kd (fun i => i < w3.heap.size) d ts hG (by omega) ay by_ (by omega) (by omega) va' vb' e1 e2 w3 (fun i hi => hi) (hL.sl ha') (hL.sl hb') hD hc0).mono ?_
    rintro r w4 ⟨q, gs, sx, rfl, ⟨hQ, hok, b4⟩⟩
    have hL := hL.below b4
    have hD := hD.below b4
    clear b4 c1 c2
    obtain ⟨c1, c2⟩ : w4.cell? ⟨w.heap.size, 1, none⟩ = some va' ∧ w4.cell? ⟨w.heap.size, 2, none⟩ = some vb' := ⟨(cell_of hL.ya 1).trans rfl, (cell_of hL.ya 2).trans rfl⟩
    go_wp2_with fail
    refine (dif_any Kd (fun i => i < w4.heap.size) d ts hG (by omega) by_ ay (by omega) (by omega) vb' va' e2 e1 w4 (fun i hi => hi) (hL.sl hb') (hL.sl ha') hD hc1).mono ?_
    rintro r w5 ⟨q2, gs2, sx2, rfl, ⟨hQ2, hok2, b4⟩⟩
    have hL := hL.below b4
    have hD := hD.below b4
    have hQ := QAt.below hQ b4
    clear b4 c1 c2
    have hlen := (chk_ok hc0).1
    have hN := len_any Kd d ts w5 hD
    go_wp2_with fail
    refine hN.mono ?_
    rintro r w6 ⟨rfl, rfl⟩
    clear hN hD
    go_upto_region 11 with fail
    have bd : Below w5.heap.size w5 w5.drew := below_drewN (Below.refl _ _) 1
    have hL := hL.below bd
    have hQ := QAt.below hQ bd
    have hQ2 := QAt.below hQ2 bd
    clear bd
    refine wp_region_any (by kernel_rfl) (wpAny_of_held (S := fun w' => w'.rangeAt (w.heap.size + 1) 0 (regB x).toList) _ _ _ _ ?_)
    change wpAnyH _ _ _ _ _ 17 _ _ w5.drew
    generalize w5.drew = v0 at *
    have hSd : v0.rangeAt (w.heap.size + 1) 0 (regB x).toList := range_row hL.yr
    refine wpAnyH_val (i := 0) (v := (.pointer (some ⟨q, 0, none⟩))) (some 66) rfl rfl (by kernel_rfl) (by kernel_rfl) (by kernel_rfl) (fun _ _ _ h => h) (Or.inl ⟨by kernel_rfl, fun w9 hw9 => by kernel_rfl⟩) hSd ?_
    refine wpAnyH_val (i := 2) (v := (.pointer (some ⟨q, 0, none⟩))) (some 68) rfl rfl (by kernel_rfl) (by kernel_rfl) (by kernel_rfl) (fun _ _ _ h => h) (Or.inl ⟨by kernel_rfl, fun w9 hw9 => by kernel_rfl⟩) hSd ?_
    refine wpAnyH_val (i := 3) (v := (.agg (regB x))) (some 69) rfl rfl (by kernel_rfl) (by kernel_rfl) (by kernel_rfl) (fun _ _ _ h => h) (yieldsIf_load_mid (by kernel_rfl) 27 (.tmp 3) rfl (w.heap.size + 1) 0 (by kernel_rfl) (regB x).toList _ (fun w hw => hw) Tryz.underlying27 rfl (by rw [Array.length_toList, regB_size]; exact info_regs)) hSd ?_
    refine wpAnyH_val (i := 6) (v := (.pointer (some ⟨q2, 0, none⟩))) (some 72) rfl rfl (by kernel_rfl) (by kernel_rfl) (by kernel_rfl) (fun _ _ _ h => h) (Or.inl ⟨by kernel_rfl, fun w9 hw9 => by kernel_rfl⟩) hSd ?_
    refine wpAnyH_val (i := 8) (v := (.pointer (some ⟨q2, 0, none⟩))) (some 74) rfl rfl (by kernel_rfl) (by kernel_rfl) (by kernel_rfl) (fun _ _ _ h => h) (Or.inl ⟨by kernel_rfl, fun w9 hw9 => by kernel_rfl⟩) hSd ?_
    refine wpAnyH_val (i := 9) (v := (.agg (regB x))) (some 75) rfl rfl (by kernel_rfl) (by kernel_rfl) (by kernel_rfl) (fun _ _ _ h => h) (yieldsIf_load_mid (by kernel_rfl) 27 (.tmp 3) rfl (w.heap.size + 1) 0 (by kernel_rfl) (regB x).toList _ (fun w hw => hw) Tryz.underlying27 rfl (by rw [Array.length_toList, regB_size]; exact info_regs)) hSd ?_
    have hT := cnf_any (fun i => i < w3.heap.size) q gs _ hok.clen hok.rows v0 hQ
    refine wpAnyH_call (i := 1) (f := 12) (some 67) rfl rfl (by kernel_rfl) (by kernel_rfl) (by kernel_rfl) (Calls.mono (hT) ?_)
    rintro rr v1 ⟨vC1, rfl, rC1, bb⟩
    have hL := hL.below bb
    have hQ := QAt.below hQ bb
    have hQ2 := QAt.below hQ2 bb
    have hSd : v1.rangeAt (w.heap.size + 1) 0 (regB x).toList := range_row hL.yr
    refine ⟨_, rfl, hSd, ?_⟩
    clear hT bb
    have hT := values_any (fun i => i < w3.heap.size) q gs _ hok.q.good (by have := hok.glen; omega) x hx v1 hQ
    refine wpAnyH_call (i := 4) (f := 13) (some 70) rfl rfl (by kernel_rfl) (by kernel_rfl) (by kernel_rfl) (Calls.mono (hT) ?_)
    rintro rr v2 ⟨vV1, rfl, oV1, bb⟩
    have hL := hL.below bb
    have hQ := QAt.below hQ bb
    have hQ2 := QAt.below hQ2 bb
    have rC1 := Rows.later rC1 bb
    have hSd : v2.rangeAt (w.heap.size + 1) 0 (regB x).toList := range_row hL.yr
    refine ⟨_, rfl, hSd, ?_⟩
    clear hT bb
    have hT := ctrue_any 0 _ ((gs.length : Int) + 1) (vals x gs) (by rw [vals_len]; have := hok.glen; omega) vV1 vC1 _ hok.litsOk v2 rC1 (oV1.toSl 0)
    rw [hok.all hx] at hT
    refine wpAnyH_call (i := 5) (f := 20) (some 71) rfl rfl (by kernel_rfl) (by kernel_rfl) (by kernel_rfl) (Calls.mono (hT) ?_)
    rintro rr v3 ⟨rfl, bb⟩
    have hL := hL.below bb
    have hQ := QAt.below hQ bb
    have hQ2 := QAt.below hQ2 bb
    have rC1 := Rows.later rC1 bb
    have oV1 := OwnB.later oV1 bb
    have hSd : v3.rangeAt (w.heap.size + 1) 0 (regB x).toList := range_row hL.yr
    refine ⟨_, rfl, hSd, ?_⟩
    clear hT bb
    have hT := cnf_any (fun i => i < w4.heap.size) q2 gs2 _ hok2.clen hok2.rows v3 hQ2
    refine wpAnyH_call (i := 7) (f := 12) (some 73) rfl rfl (by kernel_rfl) (by kernel_rfl) (by kernel_rfl) (Calls.mono (hT) ?_)
    rintro rr v4 ⟨vC2, rfl, rC2, bb⟩
    have hL := hL.below bb
    have hQ := QAt.below hQ bb
    have hQ2 := QAt.below hQ2 bb
    have rC1 := Rows.later rC1 bb
    have oV1 := OwnB.later oV1 bb
    have hSd : v4.rangeAt (w.heap.size + 1) 0 (regB x).toList := range_row hL.yr
    refine ⟨_, rfl, hSd, ?_⟩
    clear hT bb
    have hT := values_any (fun i => i < w4.heap.size) q2 gs2 _ hok2.q.good (by have := hok2.glen; omega) x hx v4 hQ2
    refine wpAnyH_call (i := 10) (f := 13) (some 76) rfl rfl (by kernel_rfl) (by kernel_rfl) (by kernel_rfl) (Calls.mono (hT) ?_)
    rintro rr v5 ⟨vV2, rfl, oV2, bb⟩
    have hL := hL.below bb
    have hQ := QAt.below hQ bb
    have hQ2 := QAt.below hQ2 bb
    have rC1 := Rows.later rC1 bb
    have oV1 := OwnB.later oV1 bb
    have rC2 := Rows.later rC2 bb
    have hSd : v5.rangeAt (w.heap.size + 1) 0 (regB x).toList := range_row hL.yr
    refine ⟨_, rfl, hSd, ?_⟩
    clear hT bb
    have hT := ctrue_any 0 _ ((gs2.length : Int) + 1) (vals x gs2) (by rw [vals_len]; have := hok2.glen; omega) vV2 vC2 _ hok2.litsOk v5 rC2 (oV2.toSl 0)
    rw [hok2.all hx, difP_swap ts x hlen] at hT
    refine wpAnyH_call (i := 11) (f := 20) (some 77) rfl rfl (by kernel_rfl) (by kernel_rfl) (by kernel_rfl) (Calls.mono (hT) ?_)
    rintro rr v6 ⟨rfl, bb⟩
    have hL := hL.below bb
    have hQ := QAt.below hQ bb
    have hQ2 := QAt.below hQ2 bb
    have rC1 := Rows.later rC1 bb
    have oV1 := OwnB.later oV1 bb
    have rC2 := Rows.later rC2 bb
    have oV2 := OwnB.later oV2 bb
    have hSd : v6.rangeAt (w.heap.size + 1) 0 (regB x).toList := range_row hL.yr
    refine ⟨_, rfl, hSd, ?_⟩
    clear hT bb
    refine wpAnyH_val (i := 12) (v := (.bool true)) (some 78) rfl rfl (by kernel_rfl) (by kernel_rfl) (by kernel_rfl) (fun _ _ _ h => h) (Or.inl ⟨by kernel_rfl, fun w9 hw9 => eq_bool_exec (p := (difP ts x (prs ay by_))) (.tmp 71) (.tmp 77) 4 rfl (by kernel_rfl) (by kernel_rfl) w9⟩) hSd ?_
    refine wpAnyH_val (i := 13) (v := (.bool true)) (some 79) rfl rfl (by kernel_rfl) (by kernel_rfl) (by kernel_rfl) (fun _ _ _ h => h) (Or.inl ⟨by kernel_rfl, fun w9 hw9 => by kernel_rfl⟩) hSd ?_
    have hT := bfixed_any v6
    refine wpAnyH_call (i := 14) (f := 11) (some 80) rfl rfl (by kernel_rfl) (by kernel_rfl) (by kernel_rfl) (Calls.mono (hT) ?_)
    rintro rr v7 ⟨rfl, bb⟩
    have hL := hL.below bb
    have hQ := QAt.below hQ bb
    have hQ2 := QAt.below hQ2 bb
    have rC1 := Rows.later rC1 bb
    have oV1 := OwnB.later oV1 bb
    have rC2 := Rows.later rC2 bb
    have oV2 := OwnB.later oV2 bb
    have hSd : v7.rangeAt (w.heap.size + 1) 0 (regB x).toList := range_row hL.yr
    refine ⟨_, rfl, hSd, ?_⟩
    clear hT bb
    refine wpAnyH_val (i := 15) (v := (.bool true)) (some 81) rfl rfl (by kernel_rfl) (by kernel_rfl) (by kernel_rfl) (fun _ _ _ h => h) (Or.inl ⟨by kernel_rfl, fun w9 hw9 => by kernel_rfl⟩) hSd ?_
    refine wpAnyH_val (i := 16) (v := (.bool true)) (some 4) rfl rfl (by kernel_rfl) (by kernel_rfl) (by kernel_rfl) (fun _ _ _ h => h) (Or.inl ⟨by kernel_rfl, fun w9 hw9 => by kernel_rfl⟩) hSd ?_
    refine wpAnyH_done (by kernel_rfl) ?_ _
    simp only [Act.put, List.setIfInBounds_toArray, List.set_cons_succ, List.set_cons_zero]
    go_wp2_with fail
    go_ret
    exact ⟨rfl, below_kept hL.kz⟩
  · have hc1 : chkO ts by_ ay = chkO ts ay by_ := chkO_swap ts ay by_
    have hc2 : chkO ts by_ ay ≠ 0 := by rw [hc1]; exact hc0
    have hN := differ_no Kd d ts hG (by omega) ay by_ (by omega) (by omega) va' vb' e1 e2 w3 (hL.sl ha') (hL.sl hb') hD hc0
    have hN2 := fun (w' : World) (h : LAt w w.heap.size (w.heap.size + 1) vs' va' vb' x d k ts w') => (show Calls Tryz.prog 9 #[.pointer (some ⟨d, 0, none⟩), vb', va'] w' (fun r w'' => r = .returned (.tuple #[.pointer none, .int .i64 (chkO ts by_ ay)]) ∧ Below w'.heap.size w' w'') from by
      obtain ⟨Kd, hD⟩ := h.dag
      exact differ_no Kd d ts hG (by omega) by_ ay (by omega) (by omega) vb' va' e2 e1 w' (h.sl hb') (h.sl ha') hD hc2)
    rw [hc1] at hN2
    have hne : (chkO ts ay by_ != 0) = true := by simpa using hc0
    generalize chkO ts ay by_ = cc at *
    go_wp2_with fail
    refine hN.mono ?_
    rintro r w4 ⟨rfl, bb⟩
    have hL := hL.below bb
    have hD := hD.below bb
    clear hN bb c1 c2
    obtain ⟨c1, c2⟩ : w4.cell? ⟨w.heap.size, 1, none⟩ = some va' ∧ w4.cell? ⟨w.heap.size, 2, none⟩ = some vb' := ⟨(cell_of hL.ya 1).trans rfl, (cell_of hL.ya 2).trans rfl⟩
    have hN := hN2 w4 hL
    go_wp2_with fail
    refine hN.mono ?_
    rintro r w5 ⟨rfl, bb⟩
    have hL := hL.below bb
    have hD := hD.below bb
    clear hN bb hN2
    have hM := len_any Kd d ts w5 hD
    go_wp2_with fail
    refine hM.mono ?_
    rintro r w6 ⟨rfl, rfl⟩
    clear hM hD
    go_wp2_with fail
    refine (bfixed_any w5).mono ?_
    rintro r w7 ⟨rfl, bb⟩
    have hL := hL.below bb
    go_wp2_with fail
    go_ret
    exact ⟨rfl, below_kept hL.kz⟩
end Go.Proofs.YtgnahjadjgjecaaGreat
