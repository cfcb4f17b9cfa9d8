/- Walk of the law BlastHolds. -/
import Derived.Test.YtgnahjadjgjecaaGreatBLawA
import Derived.Test.YtgnahjadjgjecaaGreatBRDif
import Derived.Test.YtgnahjadjgjecaaGreatMask
set_option linter.unusedVariables false
set_option linter.unusedSimpArgs false
namespace Go.Proofs.YtgnahjadjgjecaaGreat
open Go.RowKit Go.Maps Go.MapKept

set_option maxRecDepth 100000 in
set_option maxHeartbeats 40000000 in
theorem blaw2_any (B : Nat) (e e1 e2 : TypeId) (vs va vb : Value) (xs : List SOp) (ax bx : List Int) (hf : ∀ x ∈ xs, x.Fits) (x : Nat → Nat) (hx : ∀ r, x r < 4294967296) (w : World) (hs : SlN B e 5 SOp.five w vs xs) (hva : Sl 0 e1 I64 w va ax) (hvb : Sl 0 e2 I64 w vb bx) (vt : Value) (xt : List Int) (e3 : TypeId) (hvt : Sl 0 e3 I64 w vt xt) :
    Calls Tryz.prog 4 #[.agg #[vs, va, vb], .agg (regB x), vt] w fun r w' => r = .returned (.bool true) ∧ Below w.heap.size w w' := by
  obtain ⟨A, c, rfl, _, _, _⟩ := hs.open_
  obtain ⟨A1, c1, rfl, _, _, _⟩ := hva.open_
  obtain ⟨A2, c2, rfl, _, _, _⟩ := hvb.open_
  obtain ⟨A3, c3, rfl, l31, l32, _⟩ := hvt.open_
  go_enter Tryz.func4, Tryz.ntmps4
  have b2 : Below w.heap.size w ((w.alloc (.cells #[.slice A xs.length c, .slice A1 ax.length c1, .slice A2 bx.length c2] 25)).alloc (.cells (regB x) 27)) := ((Below.refl w.heap.size w).alloc (Nat.le_refl _) _).alloc (by simp) _
  have ya := blk_alloc (blk_new w (.cells #[.slice A xs.length c, .slice A1 ax.length c1, .slice A2 bx.length c2] 25)) (.cells (regB x) 27)
  have yr := blk_top (w := w.alloc (.cells #[.slice A xs.length c, .slice A1 ax.length c1, .slice A2 bx.length c2] 25)) (o := .cells (regB x) 27) (g := w.heap.size + 1) (by simp)
  have sz : ((w.alloc (.cells #[.slice A xs.length c, .slice A1 ax.length c1, .slice A2 bx.length c2] 25)).alloc (.cells (regB x) 27)).heap.size = w.heap.size + 2 := by simp
  have hL := blaid_any B e e1 e2 _ _ _ xs ax bx hf _ (hs.below b2) (Sl.later hva b2) (Sl.later hvb b2)
  go_wp2_with fail
  generalize ((w.alloc (.cells #[.slice A xs.length c, .slice A1 ax.length c1, .slice A2 bx.length c2] 25)).alloc (.cells (regB x) 27)) = w1 at *
  refine hL.mono ?_
  rintro r w2 ⟨d, k, ts, vs', va', vb', rfl, hB, hG, hfew, hK, ov, cva, cvb⟩
  have yo : (#[vs', va', vb'] : Array Value).all (·.oneCell') = true := by simp [Array.all, ov, cva.1, cvb.1]
  have ha' := cva.2 _ _ _ hva
  have hb' := cvb.2 _ _ _ hvb
  have ya := hK.blk (show w.heap.size < w1.heap.size by omega) ya
  have yr := hK.blk (show w.heap.size + 1 < w1.heap.size by omega) yr
  have ks := row_kept w2 w.heap.size #[vs', va', vb']
  have hL : LAt w w.heap.size (w.heap.size + 1) vs' va' vb' x d k ts (w2.setRow w.heap.size #[vs', va', vb']) := by
    refine ⟨(Kept.below b2).trans ((hK.mono fun i hi => (show i < w1.heap.size by omega)).trans (ks.mono fun i hi => (show i ≠ w.heap.size by omega))), setRow_heap _ _ _ _ _ _ ya, ks.blk (show w.heap.size + 1 ≠ w.heap.size by omega) yr, ?_⟩
    rw [← sz]
    exact hB.moved ks (show w.heap.size < w1.heap.size by omega)
  clear hK hB cva cvb hs hva hvb ks yr b2 sz
  have la : (ax.take 6).length ≤ 6 := List.length_take_le _ _
  have lb : (bx.take 6).length ≤ 6 := List.length_take_le _ _
  generalize ax.take 6 = ay at *
  generalize bx.take 6 = by_ at *
  obtain ⟨c1, c2⟩ : (w2.setRow w.heap.size #[vs', va', vb']).cell? ⟨w.heap.size, 1, none⟩ = some va' ∧ (w2.setRow w.heap.size #[vs', va', vb']).cell? ⟨w.heap.size, 2, none⟩ = some vb' := ⟨(cell_of hL.ya 1).trans rfl, (cell_of hL.ya 2).trans rfl⟩
  go_wp2_with (first | (refine wpList_store_row rfl 25 (.tmp 3) (.tmp 21) rfl w.heap.size #[vs', va', vb'] rfl rfl 25 _ ya (by kernel_rfl) rfl yo ?_) | fail)
  clear ya
  generalize w2.setRow w.heap.size #[vs', va', vb'] = w3 at *
  clear c1 c2
  obtain ⟨Kd, hD⟩ := hL.dag
  by_cases hc0 : chkO ts ay by_ = 0
  · refine (dif_any Kd (fun i => i < w3.heap.size) d ts hG (by omega) ay by_ (by omega) (by omega) va' vb' e1 e2 w3 (fun i hi => hi) (hL.sl ha') (hL.sl hb') hD hc0).mono ?_
    rintro r w4 ⟨q, gs, sx, rfl, ⟨hQ, hok, b4⟩⟩
    have hL := hL.below b4
    clear hD b4
    have hL4 := hL
    have hQ4 := hQ
    go_upto_region 7 with fail
    go_cut [12, 13] from 45 to 49 (fun p p' wx => ∃ g3 vC, p = .pointer (some ⟨g3, 0, none⟩) ∧ LAt w w.heap.size (w.heap.size + 1) vs' va' vb' x d k ts wx ∧ CAt (fun i => i < w3.heap.size) q gs sx x g3 vC p' wx ∧ Below w4.heap.size w4 wx ∧ (∃ B, w4.heap.size ≤ B ∧ Own B 4 Bit wx p' (vals x gs)) ∧ (∃ B, w4.heap.size ≤ B ∧ Rows B wx vC (queryC gs sx)))
    case first =>
      have bd : Below w4.heap.size w4 w4.drew := below_drewN (Below.refl _ _) 1
      have hL := hL.below bd
      have hQ := QAt.below hQ bd
      have zd := bd.size
      refine wp_region_any (by kernel_rfl) (wpAny_of_held (S := fun w' => w'.rangeAt (w.heap.size + 1) 0 (regB x).toList) _ _ _ _ ?_)
      change wpAnyH _ _ _ _ _ 8 _ _ w4.drew
      generalize w4.drew = v0 at *
      have hSd : v0.rangeAt (w.heap.size + 1) 0 (regB x).toList := range_row hL.yr
      have b0 := Below.refl v0.heap.size v0
      refine wpAnyH_val (i := 0) (v := (.pointer (some ⟨q, 0, none⟩))) (some 45) rfl rfl (by kernel_rfl) (by kernel_rfl) (by kernel_rfl) (fun _ _ _ h => h) (Or.inl ⟨by kernel_rfl, fun w9 hw9 => by kernel_rfl⟩) hSd ?_
      refine wpAnyH_val (i := 2) (v := (.pointer (some ⟨q, 0, none⟩))) (some 47) rfl rfl (by kernel_rfl) (by kernel_rfl) (by kernel_rfl) (fun _ _ _ h => h) (Or.inl ⟨by kernel_rfl, fun w9 hw9 => by kernel_rfl⟩) hSd ?_
      refine wpAnyH_val (i := 3) (v := (.agg (regB x))) (some 48) rfl rfl (by kernel_rfl) (by kernel_rfl) (by kernel_rfl) (fun _ _ _ h => h) (yieldsIf_load_mid (by kernel_rfl) 27 (.tmp 4) rfl (w.heap.size + 1) 0 (by kernel_rfl) (regB x).toList _ (fun w hw => hw) Tryz.underlying27 rfl (by rw [Array.length_toList, regB_size]; exact info_regs)) hSd ?_
      refine wpAnyH_all (rs := [1, 5]) (by kernel_rfl) (by simp) (fun i hi => ?_)
      rcases (by simpa using hi : i = 1 ∨ i = 5) with rfl | rfl
      · have hT := cnf_any (fun i => i < w3.heap.size) q gs _ hok.clen hok.rows v0 (QAt.below hQ b0)
        refine wpOp_call (f := 12) (some 46) rfl rfl (by kernel_rfl) (by kernel_rfl) (Calls.mono (hT) ?_)
        rintro rr v1 ⟨vC, rfl, rC, bb⟩
        clear hT
        have s1 := bb.size
        obtain ⟨A9, c9, rfl, _, _, _⟩ := (Own.toSl rC 0).open_
        have b0 := below_then b0 bb
        have hSd : v1.rangeAt (w.heap.size + 1) 0 (regB x).toList := range_row (blk_below hL.yr b0)
        refine ⟨_, rfl, hSd, ?_⟩
        have b1 := Below.refl v1.heap.size v1
        refine wpAnyH_all (rs := [4, 5]) (by kernel_rfl) (by simp) (fun i hi => ?_)
        rcases (by simpa using hi : i = 4 ∨ i = 5) with rfl | rfl
        · have hT := values_any (fun i => i < w3.heap.size) q gs _ hok.q.good (by have := hok.glen; omega) x hx v1 (QAt.below hQ b0)
          refine wpOp_call (f := 13) (some 49) rfl rfl (by kernel_rfl) (by kernel_rfl) (Calls.mono (hT) ?_)
          rintro rr v2 ⟨va9, rfl, oV, bb⟩
          clear hT
          have b0 := below_then b0 bb
          have hSd : v2.rangeAt (w.heap.size + 1) 0 (regB x).toList := range_row (blk_below hL.yr b0)
          refine ⟨_, rfl, hSd, ?_⟩
          have b1 := below_then b1 bb
          have s2 := b1.size
          have b2 := Below.refl v2.heap.size v2
          refine wpAnyH_all (rs := [5]) (by kernel_rfl) (by simp) (fun i hi => ?_)
          obtain rfl : i = 5 := by simpa using hi
          refine wpOp_ok (v := .pointer (some ⟨v2.heap.size, 0, none⟩)) (w' := v2.alloc (.cells #[.int .i64 0, .slice none 0 0] 40)) (some 12) rfl rfl (by kernel_rfl) (by kernel_rfl) ?_
          have yz := blk_new v2 (.cells #[.int .i64 0, .slice none 0 0] 40)
          have bb := (Below.refl v2.heap.size v2).alloc (Nat.le_refl _) (.cells #[.int .i64 0, .slice none 0 0] 40)
          have g0 := b0.size
          have b0 := below_then b0 bb
          have hsz : (v2.alloc (.cells #[.int .i64 0, .slice none 0 0] 40)).heap.size = v2.heap.size + 1 := by simp
          generalize v2.alloc (.cells #[.int .i64 0, .slice none 0 0] 40) = v3 at *
          have hg : v2.heap.size < v3.heap.size := by omega
          have hSd : v3.rangeAt (w.heap.size + 1) 0 (regB x).toList := range_row (blk_below hL.yr b0)
          refine ⟨hSd, ?_⟩
          have b1 := below_then b1 bb
          have b2 := below_then b2 bb
          refine wpAnyH_all (rs := [6]) (by kernel_rfl) (by simp) (fun i hi => ?_)
          obtain rfl : i = 6 := by simpa using hi
          refine wpOp_store_row none rfl rfl (by kernel_rfl) 40 (.tmp 12) (.tmp 46) rfl (v2.heap.size) #[.int .i64 ((gs.length : Int) + 1), .slice A9 (queryC gs sx).length c9] (by kernel_rfl) (by kernel_rfl) 40 _ yz (by kernel_rfl) rfl (by kernel_rfl) ?_
          have b4 : Below v0.heap.size v0 (v3.setRow v2.heap.size #[.int .i64 ((gs.length : Int) + 1), .slice A9 (queryC gs sx).length c9]) := below_row b0 (by omega) _
          have hL4 := hL.below b4
          have rC4 : Rows _ (v3.setRow v2.heap.size #[.int .i64 ((gs.length : Int) + 1), .slice A9 (queryC gs sx).length c9]) _ (queryC gs sx) := Rows.later rC (below_row b1 (by omega) _)
          have oV4 : Own _ 4 Bit (v3.setRow v2.heap.size #[.int .i64 ((gs.length : Int) + 1), .slice A9 (queryC gs sx).length c9]) _ (vals x gs) := OwnB.later oV (below_row b2 (by omega) _)
          have hc4 : CAt (fun i => i < w3.heap.size) q gs sx x (v2.heap.size) (.slice A9 (queryC gs sx).length c9) va9 (v3.setRow v2.heap.size #[.int .i64 ((gs.length : Int) + 1), .slice A9 (queryC gs sx).length c9]) := ⟨QAt.below hQ b4, setRow_heap _ _ _ _ _ _ yz, ⟨_, rC4⟩, ⟨_, oV4⟩⟩
          have hSd := range_row hL4.yr
          refine ⟨hSd, ?_⟩
          refine wpAnyH_val (i := 7) (v := va9) (some 13) rfl rfl (by kernel_rfl) (by kernel_rfl) (by kernel_rfl) (fun _ _ _ h => h) (Or.inl ⟨by kernel_rfl, fun w9 hw9 => by kernel_rfl⟩) hSd ?_
          refine wpAnyH_done (by kernel_rfl) ?_ _
          clear b0 yz hSd hL hQ
          simp only [Act.put, List.setIfInBounds_toArray, List.set_cons_succ, List.set_cons_zero]
          go_wp2_with fail
          go_meet
          exact ⟨_, _, rfl, hL4, hc4, below_then bd b4, ⟨_, by omega, oV4⟩, ⟨_, by omega, rC4⟩⟩
        · refine wpOp_ok (v := .pointer (some ⟨v1.heap.size, 0, none⟩)) (w' := v1.alloc (.cells #[.int .i64 0, .slice none 0 0] 40)) (some 12) rfl rfl (by kernel_rfl) (by kernel_rfl) ?_
          have yz := blk_new v1 (.cells #[.int .i64 0, .slice none 0 0] 40)
          have bb := (Below.refl v1.heap.size v1).alloc (Nat.le_refl _) (.cells #[.int .i64 0, .slice none 0 0] 40)
          have g0 := b0.size
          have b0 := below_then b0 bb
          have hsz : (v1.alloc (.cells #[.int .i64 0, .slice none 0 0] 40)).heap.size = v1.heap.size + 1 := by simp
          generalize v1.alloc (.cells #[.int .i64 0, .slice none 0 0] 40) = v2 at *
          have hg : v1.heap.size < v2.heap.size := by omega
          have hSd : v2.rangeAt (w.heap.size + 1) 0 (regB x).toList := range_row (blk_below hL.yr b0)
          refine ⟨hSd, ?_⟩
          have b1 := below_then b1 bb
          refine wpAnyH_all (rs := [4]) (by kernel_rfl) (by simp) (fun i hi => ?_)
          obtain rfl : i = 4 := by simpa using hi
          have hT := values_any (fun i => i < w3.heap.size) q gs _ hok.q.good (by have := hok.glen; omega) x hx v2 (QAt.below hQ b0)
          refine wpOp_call (f := 13) (some 49) rfl rfl (by kernel_rfl) (by kernel_rfl) (Calls.mono (hT) ?_)
          rintro rr v3 ⟨va9, rfl, oV, bb⟩
          clear hT
          have b0 := below_then b0 bb
          have hSd : v3.rangeAt (w.heap.size + 1) 0 (regB x).toList := range_row (blk_below hL.yr b0)
          refine ⟨_, rfl, hSd, ?_⟩
          have b1 := below_then b1 bb
          have yz := blk_below yz bb
          refine wpAnyH_all (rs := [6]) (by kernel_rfl) (by simp) (fun i hi => ?_)
          obtain rfl : i = 6 := by simpa using hi
          refine wpOp_store_row none rfl rfl (by kernel_rfl) 40 (.tmp 12) (.tmp 46) rfl (v1.heap.size) #[.int .i64 ((gs.length : Int) + 1), .slice A9 (queryC gs sx).length c9] (by kernel_rfl) (by kernel_rfl) 40 _ yz (by kernel_rfl) rfl (by kernel_rfl) ?_
          have b4 : Below v0.heap.size v0 (v3.setRow v1.heap.size #[.int .i64 ((gs.length : Int) + 1), .slice A9 (queryC gs sx).length c9]) := below_row b0 (by omega) _
          have hL4 := hL.below b4
          have rC4 : Rows _ (v3.setRow v1.heap.size #[.int .i64 ((gs.length : Int) + 1), .slice A9 (queryC gs sx).length c9]) _ (queryC gs sx) := Rows.later rC (below_row b1 (by omega) _)
          have oV4 : Own _ 4 Bit (v3.setRow v1.heap.size #[.int .i64 ((gs.length : Int) + 1), .slice A9 (queryC gs sx).length c9]) _ (vals x gs) := OwnB.row_lo oV (by omega) _
          have hc4 : CAt (fun i => i < w3.heap.size) q gs sx x (v1.heap.size) (.slice A9 (queryC gs sx).length c9) va9 (v3.setRow v1.heap.size #[.int .i64 ((gs.length : Int) + 1), .slice A9 (queryC gs sx).length c9]) := ⟨QAt.below hQ b4, setRow_heap _ _ _ _ _ _ yz, ⟨_, rC4⟩, ⟨_, oV4⟩⟩
          have hSd := range_row hL4.yr
          refine ⟨hSd, ?_⟩
          refine wpAnyH_val (i := 7) (v := va9) (some 13) rfl rfl (by kernel_rfl) (by kernel_rfl) (by kernel_rfl) (fun _ _ _ h => h) (Or.inl ⟨by kernel_rfl, fun w9 hw9 => by kernel_rfl⟩) hSd ?_
          refine wpAnyH_done (by kernel_rfl) ?_ _
          clear b0 yz hSd hL hQ
          simp only [Act.put, List.setIfInBounds_toArray, List.set_cons_succ, List.set_cons_zero]
          go_wp2_with fail
          go_meet
          exact ⟨_, _, rfl, hL4, hc4, below_then bd b4, ⟨_, by omega, oV4⟩, ⟨_, by omega, rC4⟩⟩
      · refine wpOp_ok (v := .pointer (some ⟨v0.heap.size, 0, none⟩)) (w' := v0.alloc (.cells #[.int .i64 0, .slice none 0 0] 40)) (some 12) rfl rfl (by kernel_rfl) (by kernel_rfl) ?_
        have yz := blk_new v0 (.cells #[.int .i64 0, .slice none 0 0] 40)
        have bb := (Below.refl v0.heap.size v0).alloc (Nat.le_refl _) (.cells #[.int .i64 0, .slice none 0 0] 40)
        have g0 := b0.size
        have b0 := below_then b0 bb
        have hsz : (v0.alloc (.cells #[.int .i64 0, .slice none 0 0] 40)).heap.size = v0.heap.size + 1 := by simp
        generalize v0.alloc (.cells #[.int .i64 0, .slice none 0 0] 40) = v1 at *
        have hg : v0.heap.size < v1.heap.size := by omega
        have hSd : v1.rangeAt (w.heap.size + 1) 0 (regB x).toList := range_row (blk_below hL.yr b0)
        refine ⟨hSd, ?_⟩
        refine wpAnyH_all (rs := [1]) (by kernel_rfl) (by simp) (fun i hi => ?_)
        obtain rfl : i = 1 := by simpa using hi
        have hT := cnf_any (fun i => i < w3.heap.size) q gs _ hok.clen hok.rows v1 (QAt.below hQ b0)
        refine wpOp_call (f := 12) (some 46) rfl rfl (by kernel_rfl) (by kernel_rfl) (Calls.mono (hT) ?_)
        rintro rr v2 ⟨vC, rfl, rC, bb⟩
        clear hT
        have s1 := bb.size
        obtain ⟨A9, c9, rfl, _, _, _⟩ := (Own.toSl rC 0).open_
        have b0 := below_then b0 bb
        have hSd : v2.rangeAt (w.heap.size + 1) 0 (regB x).toList := range_row (blk_below hL.yr b0)
        refine ⟨_, rfl, hSd, ?_⟩
        have yz := blk_below yz bb
        refine wpAnyH_all (rs := [4]) (by kernel_rfl) (by simp) (fun i hi => ?_)
        obtain rfl : i = 4 := by simpa using hi
        have hT := values_any (fun i => i < w3.heap.size) q gs _ hok.q.good (by have := hok.glen; omega) x hx v2 (QAt.below hQ b0)
        refine wpOp_call (f := 13) (some 49) rfl rfl (by kernel_rfl) (by kernel_rfl) (Calls.mono (hT) ?_)
        rintro rr v3 ⟨va9, rfl, oV, bb⟩
        clear hT
        have b0 := below_then b0 bb
        have hSd : v3.rangeAt (w.heap.size + 1) 0 (regB x).toList := range_row (blk_below hL.yr b0)
        refine ⟨_, rfl, hSd, ?_⟩
        have rC := Rows.later rC bb
        have yz := blk_below yz bb
        refine wpAnyH_all (rs := [6]) (by kernel_rfl) (by simp) (fun i hi => ?_)
        obtain rfl : i = 6 := by simpa using hi
        refine wpOp_store_row none rfl rfl (by kernel_rfl) 40 (.tmp 12) (.tmp 46) rfl (v0.heap.size) #[.int .i64 ((gs.length : Int) + 1), .slice A9 (queryC gs sx).length c9] (by kernel_rfl) (by kernel_rfl) 40 _ yz (by kernel_rfl) rfl (by kernel_rfl) ?_
        have b4 : Below v0.heap.size v0 (v3.setRow v0.heap.size #[.int .i64 ((gs.length : Int) + 1), .slice A9 (queryC gs sx).length c9]) := below_row b0 (by omega) _
        have hL4 := hL.below b4
        have rC4 : Rows _ (v3.setRow v0.heap.size #[.int .i64 ((gs.length : Int) + 1), .slice A9 (queryC gs sx).length c9]) _ (queryC gs sx) := Rows.row_lo rC (by omega) _
        have oV4 : Own _ 4 Bit (v3.setRow v0.heap.size #[.int .i64 ((gs.length : Int) + 1), .slice A9 (queryC gs sx).length c9]) _ (vals x gs) := OwnB.row_lo oV (by have := hsz; omega) _
        have hc4 : CAt (fun i => i < w3.heap.size) q gs sx x (v0.heap.size) (.slice A9 (queryC gs sx).length c9) va9 (v3.setRow v0.heap.size #[.int .i64 ((gs.length : Int) + 1), .slice A9 (queryC gs sx).length c9]) := ⟨QAt.below hQ b4, setRow_heap _ _ _ _ _ _ yz, ⟨_, rC4⟩, ⟨_, oV4⟩⟩
        have hSd := range_row hL4.yr
        refine ⟨hSd, ?_⟩
        refine wpAnyH_val (i := 7) (v := va9) (some 13) rfl rfl (by kernel_rfl) (by kernel_rfl) (by kernel_rfl) (fun _ _ _ h => h) (Or.inl ⟨by kernel_rfl, fun w9 hw9 => by kernel_rfl⟩) hSd ?_
        refine wpAnyH_done (by kernel_rfl) ?_ _
        clear b0 yz hSd hL hQ
        simp only [Act.put, List.setIfInBounds_toArray, List.set_cons_succ, List.set_cons_zero]
        go_wp2_with fail
        go_meet
        exact ⟨_, _, rfl, hL4, hc4, below_then bd b4, ⟨_, by omega, oV4⟩, ⟨_, by omega, rC4⟩⟩
    case rest =>
    obtain ⟨g3, vC, rfl, hL, hc, bW, ⟨Bv, hBv, oV⟩, ⟨Bc, hBc, rC⟩⟩ := hcut
    have yc := hc.yc
    clear hc hL
    have hok2 := hok.q.good
    have hlen := (chk_ok hc0).1
    obtain ⟨A9, c9, rfl, _, _, _⟩ := (Own.toSl rC 0).open_
    obtain ⟨A8, c8, rfl, _, _, _⟩ := (oV.toSl 0).open_
    have hvl := vals_len x gs
    have hal0 : (vals x gs).length = (vals x gs).length := rfl
    generalize hNN : (vals x gs).length = N at *
    clear hal0
    have hgl := hok.glen
    have hNs : N ≤ 200000 := by omega
    have hN0 : 0 < N := by omega
    have HVL := Lib.hid hvl
    clear hvl
    have q31 : xt.length ≤ 9223372036854775807 := by unfold maxLen at l32; omega
    have HNN := Lib.hid hNN
    clear hNN
    go_wp2_with fail
    go_loopw [14, 15] (fun i _ wr => ∃ (j : Nat) (as_ : List Bool), j ≤ xt.length ∧ i = .int .i64 j ∧ Hid (as_.length = N) ∧ Own Bv 4 Bit wr (.slice A8 N c8) as_ ∧ Below w4.heap.size w4 wr ∧ wr.heap[g3]? = some (.cells #[.int .i64 ((gs.length : Int) + 1), .slice A9 (queryC gs sx).length c9] 40 (0, 0)) ∧ Rows Bc wr (.slice A9 (queryC gs sx).length c9) (queryC gs sx)) (fun i _ _ => xt.length - (Go.RowKit.intOf i).toNat)
    case atStart => exact ⟨0, vals x gs, Nat.zero_le _, rfl, HNN, oV, bW, yc, rC⟩
    case round =>
      clear oV bW yc rC
      obtain ⟨j, as_, hj, rfl, HAL, oV, bW, yc, rC⟩ := hrel
      have hal := HAL.out
      have hpos : (0 : Int) < (N : Int) := by omega
      have hL := hL4.below bW
      by_cases hlt : j < xt.length ∧ j < 40
      · obtain ⟨hlt, h40⟩ := hlt
        have hlt' : (j : Int) < xt.length := by omega
        have h40' : (j : Int) < 40 := by omega
        obtain ⟨bt, ot, ut, rfl, hct, hut⟩ := (hL.sl hvt).at_ hlt 0
        obtain ⟨rfl, _⟩ := hut
        generalize xt.getD j 0 = tn at hct
        obtain ⟨m, hm⟩ : ∃ m : Nat, tn % 16777216 = (m : Int) := ⟨(tn % 16777216).toNat, by omega⟩
        have hband := i64_ffffff tn
        rw [hm] at hband
        have hn : m % N < N := Nat.mod_lt _ (by omega)
        have hrem : (m : Int) % (N : Int) = ((m % N : Nat) : Int) := (Int.natCast_emod m N).symm
        generalize m % N = n at hn hrem
        have hn' : (n : Int) < (N : Int) := by omega
        obtain ⟨gv, cur, rfl, hgv, hbv, hcv⟩ := OwnB.at_ oV (by omega)
        have hcn := hcv n (by omega)
        clear hcv
        obtain ⟨pb, hpb⟩ : ∃ pb, as_.getD n false = pb := ⟨_, rfl⟩
        rw [hpb] at hcn
        clear hpb
        have hfz := frozen_of hbv n
        have oV2 := OwnB.set oV n (!pb)
        have hal2 : (as_.set n (!pb)).length = N := by rw [List.length_set]; exact hal
        have bW2 := below_set bW (show w4.heap.size ≤ gv by omega) n (.bool (!pb))
        have yc2 : (wr.setCell ⟨gv, n, none⟩ (.bool (!pb))).heap[g3]? = _ := (Below.heap_setCell wr ⟨gv, n, none⟩ _ g3 (fun e => type_ne yc hbv (by decide) e)).trans yc
        have rC2 := Rows.set_other rC hbv (by decide) (by decide) n (.bool (!pb))
        clear hm
        obtain ⟨bs, hbs⟩ : ∃ bs, as_.set n (!pb) = bs := ⟨_, rfl⟩
        rw [hbs] at oV2 hal2
        clear hbs
        go_upto_region 13 with fail
        clear oV yc rC hct hcn hfz hbv hband hrem hL HAL bW
        generalize wr.setCell ⟨gv, n, none⟩ (.bool (!pb)) = w5 at *
        have HB := Lib.hid hal2
        have hbl : bs.length ≤ 200000 := by omega
        clear hal2
        cases hTT : allT bs (queryC gs sx) with
        | false =>
          have hL := hL4.below bW2
          have hQ := QAt.below hQ4 bW2
          have bd : Below w5.heap.size w5 w5.drew := below_drewN (Below.refl _ _) 1
          have hL := hL.below bd
          have hQ := QAt.below hQ bd
          have yc := blk_below yc2 bd
          have rC := Rows.later rC2 bd
          have oV := OwnB.later oV2 bd
          have bW := bW2.trans (bd.mono bW2.size)
          clear bd hQ4
          refine wp_region_any (by kernel_rfl) (wpAny_of_held (S := fun w' => w'.rangeAt w.heap.size 0 [vs', va', vb'] ∧ w'.rangeAt g3 0 [.int .i64 ((gs.length : Int) + 1), .slice A9 (queryC gs sx).length c9]) _ _ _ _ ?_)
          change wpAnyH _ _ _ _ _ 15 _ _ w5.drew
          generalize w5.drew = v0 at *
          have hSd : v0.rangeAt w.heap.size 0 [vs', va', vb'] ∧ v0.rangeAt g3 0 [.int .i64 ((gs.length : Int) + 1), .slice A9 (queryC gs sx).length c9] := ⟨range_row hL.ya, range_row yc⟩
          refine wpAnyH_val (i := 0) (v := (.agg #[.int .i64 ((gs.length : Int) + 1), .slice A9 (queryC gs sx).length c9])) (some 81) rfl rfl (by kernel_rfl) (by kernel_rfl) (by kernel_rfl) (fun _ _ _ h => h) (yieldsIf_load_mid (by kernel_rfl) 40 (.tmp 12) rfl g3 0 (by kernel_rfl) [.int .i64 ((gs.length : Int) + 1), .slice A9 (queryC gs sx).length c9] _ (fun w hw => hw.2) Tryz.underlying40 rfl (by kernel_rfl)) hSd ?_
          refine wpAnyH_val (i := 1) (v := (.slice (some ⟨gv, 0, none⟩) N c8)) (some 82) rfl rfl (by kernel_rfl) (by kernel_rfl) (by kernel_rfl) (fun _ _ _ h => h) (Or.inl ⟨by kernel_rfl, fun w9 hw9 => by kernel_rfl⟩) hSd ?_
          have hT := ctrue_any 0 _ ((gs.length : Int) + 1) bs (by omega) (.slice (some ⟨gv, 0, none⟩) N c8) (.slice A9 (queryC gs sx).length c9) _ hok.litsOk v0 rC (oV.toSl 0)
          rw [hTT] at hT
          refine wpAnyH_call (i := 2) (f := 20) (some 83) rfl rfl (by kernel_rfl) (by kernel_rfl) (by kernel_rfl) (Calls.mono (hT) ?_)
          rintro rr v1 ⟨rfl, bb⟩
          have hL := hL.below bb
          have hQ := QAt.below hQ bb
          have yc := blk_below yc bb
          have rC := Rows.later rC bb
          have oV := OwnB.later oV bb
          have bW := bW.trans (bb.mono bW.size)
          have hSd : v1.rangeAt w.heap.size 0 [vs', va', vb'] ∧ v1.rangeAt g3 0 [.int .i64 ((gs.length : Int) + 1), .slice A9 (queryC gs sx).length c9] := ⟨range_row hL.ya, range_row yc⟩
          refine ⟨_, rfl, hSd, ?_⟩
          clear hT bb
          refine wpAnyH_val (i := 3) (v := (.bool false)) (some 84) rfl rfl (by kernel_rfl) (by kernel_rfl) (by kernel_rfl) (fun _ _ _ h => h) (Or.inl ⟨by kernel_rfl, fun w9 hw9 => by kernel_rfl⟩) hSd ?_
          refine wpAnyH_val (i := 4) (v := undef) (some 85) rfl rfl (by kernel_rfl) (by kernel_rfl) (by kernel_rfl) (fun _ _ _ h => h) (Or.inr ⟨by kernel_rfl, rfl⟩) hSd ?_
          refine wpAnyH_val (i := 5) (v := undef) (some 86) rfl rfl (by kernel_rfl) (by kernel_rfl) (by kernel_rfl) (fun _ _ _ h => h) (Or.inr ⟨by kernel_rfl, rfl⟩) hSd ?_
          refine wpAnyH_val (i := 6) (v := undef) (some 87) rfl rfl (by kernel_rfl) (by kernel_rfl) (by kernel_rfl) (fun _ _ _ h => h) (Or.inr ⟨by kernel_rfl, rfl⟩) hSd ?_
          refine wpAnyH_val (i := 7) (v := undef) (some 88) rfl rfl (by kernel_rfl) (by kernel_rfl) (by kernel_rfl) (fun _ _ _ h => h) (Or.inr ⟨by kernel_rfl, rfl⟩) hSd ?_
          refine wpAnyH_val (i := 8) (v := undef) (some 89) rfl rfl (by kernel_rfl) (by kernel_rfl) (by kernel_rfl) (fun _ _ _ h => h) (Or.inr ⟨by kernel_rfl, rfl⟩) hSd ?_
          refine wpAnyH_val (i := 9) (v := undef) (some 90) rfl rfl (by kernel_rfl) (by kernel_rfl) (by kernel_rfl) (fun _ _ _ h => h) (Or.inr ⟨by kernel_rfl, rfl⟩) hSd ?_
          refine wpAnyH_val (i := 10) (v := undef) (some 91) rfl rfl (by kernel_rfl) (by kernel_rfl) (by kernel_rfl) (fun _ _ _ h => h) (Or.inr ⟨by kernel_rfl, rfl⟩) hSd ?_
          refine wpAnyH_val (i := 11) (v := undef) (some 92) rfl rfl (by kernel_rfl) (by kernel_rfl) (by kernel_rfl) (fun _ _ _ h => h) (Or.inr ⟨by kernel_rfl, rfl⟩) hSd ?_
          refine wpAnyH_val (i := 12) (v := undef) (some 93) rfl rfl (by kernel_rfl) (by kernel_rfl) (by kernel_rfl) (fun _ _ _ h => h) (Or.inr ⟨by kernel_rfl, rfl⟩) hSd ?_
          refine wpAnyH_val (i := 13) (v := undef) (some 94) rfl rfl (by kernel_rfl) (by kernel_rfl) (by kernel_rfl) (fun _ _ _ h => h) (Or.inr ⟨by kernel_rfl, rfl⟩) hSd ?_
          refine wpAnyH_val (i := 14) (v := (.bool false)) (some 95) rfl rfl (by kernel_rfl) (by kernel_rfl) (by kernel_rfl) (fun _ _ _ h => h) (Or.inl ⟨by kernel_rfl, fun w9 hw9 => by kernel_rfl⟩) hSd ?_
          refine wpAnyH_done (by kernel_rfl) ?_ _
          clear hSd hQ hL hTT yc2 oV2 rC2 bW2
          simp only [Act.put, List.setIfInBounds_toArray, List.set_cons_succ, List.set_cons_zero]
          go_wp2_with fail
          go_roundw
          case rel => exact ⟨j + 1, bs, by omega, by go_num, HB, oV, bW, yc, rC⟩
          case measure => simp [Go.RowKit.intOf]; omega
        | true =>
          have hDD : difP ts (regsOf bs gs) (prs ay by_) = true := hok.q.holds (by rw [HB.out]; exact HVL.out) hTT
          have hL := hL4.below bW2
          have hQ := QAt.below hQ4 bW2
          have bd : Below w5.heap.size w5 w5.drew := below_drewN (Below.refl _ _) 1
          have hL := hL.below bd
          have hQ := QAt.below hQ bd
          have yc := blk_below yc2 bd
          have rC := Rows.later rC2 bd
          have oV := OwnB.later oV2 bd
          have bW := bW2.trans (bd.mono bW2.size)
          clear bd hQ4
          refine wp_region_any (by kernel_rfl) (wpAny_of_held (S := fun w' => w'.rangeAt w.heap.size 0 [vs', va', vb'] ∧ w'.rangeAt g3 0 [.int .i64 ((gs.length : Int) + 1), .slice A9 (queryC gs sx).length c9]) _ _ _ _ ?_)
          change wpAnyH _ _ _ _ _ 15 _ _ w5.drew
          generalize w5.drew = v0 at *
          have hSd : v0.rangeAt w.heap.size 0 [vs', va', vb'] ∧ v0.rangeAt g3 0 [.int .i64 ((gs.length : Int) + 1), .slice A9 (queryC gs sx).length c9] := ⟨range_row hL.ya, range_row yc⟩
          refine wpAnyH_val (i := 0) (v := (.agg #[.int .i64 ((gs.length : Int) + 1), .slice A9 (queryC gs sx).length c9])) (some 81) rfl rfl (by kernel_rfl) (by kernel_rfl) (by kernel_rfl) (fun _ _ _ h => h) (yieldsIf_load_mid (by kernel_rfl) 40 (.tmp 12) rfl g3 0 (by kernel_rfl) [.int .i64 ((gs.length : Int) + 1), .slice A9 (queryC gs sx).length c9] _ (fun w hw => hw.2) Tryz.underlying40 rfl (by kernel_rfl)) hSd ?_
          refine wpAnyH_val (i := 1) (v := (.slice (some ⟨gv, 0, none⟩) N c8)) (some 82) rfl rfl (by kernel_rfl) (by kernel_rfl) (by kernel_rfl) (fun _ _ _ h => h) (Or.inl ⟨by kernel_rfl, fun w9 hw9 => by kernel_rfl⟩) hSd ?_
          have hT := ctrue_any 0 _ ((gs.length : Int) + 1) bs (by omega) (.slice (some ⟨gv, 0, none⟩) N c8) (.slice A9 (queryC gs sx).length c9) _ hok.litsOk v0 rC (oV.toSl 0)
          rw [hTT] at hT
          refine wpAnyH_call (i := 2) (f := 20) (some 83) rfl rfl (by kernel_rfl) (by kernel_rfl) (by kernel_rfl) (Calls.mono (hT) ?_)
          rintro rr v1 ⟨rfl, bb⟩
          have hL := hL.below bb
          have hQ := QAt.below hQ bb
          have yc := blk_below yc bb
          have rC := Rows.later rC bb
          have oV := OwnB.later oV bb
          have bW := bW.trans (bb.mono bW.size)
          have hSd : v1.rangeAt w.heap.size 0 [vs', va', vb'] ∧ v1.rangeAt g3 0 [.int .i64 ((gs.length : Int) + 1), .slice A9 (queryC gs sx).length c9] := ⟨range_row hL.ya, range_row yc⟩
          refine ⟨_, rfl, hSd, ?_⟩
          clear hT bb
          refine wpAnyH_val (i := 3) (v := (.bool true)) (some 84) rfl rfl (by kernel_rfl) (by kernel_rfl) (by kernel_rfl) (fun _ _ _ h => h) (Or.inl ⟨by kernel_rfl, fun w9 hw9 => by kernel_rfl⟩) hSd ?_
          refine wpAnyH_val (i := 4) (v := (.pointer (some ⟨k, 0, none⟩))) (some 85) rfl rfl (by kernel_rfl) (by kernel_rfl) (by kernel_rfl) (fun _ _ _ h => h) (Or.inl ⟨by kernel_rfl, fun w9 hw9 => by kernel_rfl⟩) hSd ?_
          refine wpAnyH_val (i := 5) (v := (.pointer (some ⟨w.heap.size, 1, none⟩))) (some 86) rfl rfl (by kernel_rfl) (by kernel_rfl) (by kernel_rfl) (fun _ _ _ h => h) (Or.inl ⟨by kernel_rfl, fun w9 hw9 => by kernel_rfl⟩) hSd ?_
          refine wpAnyH_val (i := 6) (v := va') (some 87) rfl rfl (by kernel_rfl) (by kernel_rfl) (by kernel_rfl) (fun _ _ _ h => h) (yieldsIf_cell (by kernel_rfl) 23 (.tmp 86) rfl (w.heap.size) 1 (by kernel_rfl) va' (fun w => by kernel_rfl) (fun w hw => range_cell (i := 1) hw.1 rfl)) hSd ?_
          refine wpAnyH_val (i := 7) (v := (.pointer (some ⟨w.heap.size, 2, none⟩))) (some 88) rfl rfl (by kernel_rfl) (by kernel_rfl) (by kernel_rfl) (fun _ _ _ h => h) (Or.inl ⟨by kernel_rfl, fun w9 hw9 => by kernel_rfl⟩) hSd ?_
          refine wpAnyH_val (i := 8) (v := vb') (some 89) rfl rfl (by kernel_rfl) (by kernel_rfl) (by kernel_rfl) (fun _ _ _ h => h) (yieldsIf_cell (by kernel_rfl) 23 (.tmp 88) rfl (w.heap.size) 2 (by kernel_rfl) vb' (fun w => by kernel_rfl) (fun w hw => range_cell (i := 2) hw.1 rfl)) hSd ?_
          refine wpAnyH_val (i := 9) (v := (.pointer (some ⟨q, 0, none⟩))) (some 90) rfl rfl (by kernel_rfl) (by kernel_rfl) (by kernel_rfl) (fun _ _ _ h => h) (Or.inl ⟨by kernel_rfl, fun w9 hw9 => by kernel_rfl⟩) hSd ?_
          refine wpAnyH_val (i := 10) (v := (.slice (some ⟨gv, 0, none⟩) N c8)) (some 91) rfl rfl (by kernel_rfl) (by kernel_rfl) (by kernel_rfl) (fun _ _ _ h => h) (Or.inl ⟨by kernel_rfl, fun w9 hw9 => by kernel_rfl⟩) hSd ?_
          have hT := regs_any (fun i => i < w3.heap.size) q gs _ hok.q.good (by omega) 0 (.slice (some ⟨gv, 0, none⟩) N c8) bs (by omega) v1 (oV.toSl 0) hQ
          refine wpAnyH_call (i := 11) (f := 18) (some 92) rfl rfl (by kernel_rfl) (by kernel_rfl) (by kernel_rfl) (Calls.mono (hT) ?_)
          rintro rr v2 ⟨rfl, bb⟩
          have hL := hL.below bb
          have hQ := QAt.below hQ bb
          have yc := blk_below yc bb
          have rC := Rows.later rC bb
          have oV := OwnB.later oV bb
          have bW := bW.trans (bb.mono bW.size)
          have hSd : v2.rangeAt w.heap.size 0 [vs', va', vb'] ∧ v2.rangeAt g3 0 [.int .i64 ((gs.length : Int) + 1), .slice A9 (queryC gs sx).length c9] := ⟨range_row hL.ya, range_row yc⟩
          refine ⟨_, rfl, hSd, ?_⟩
          clear hT bb
          have hT : Calls Tryz.prog 17 #[.pointer (some ⟨k, 0, none⟩), va', vb', .agg (regB (regsOf bs gs))] v2 (fun r w' => r = .returned (.bool (difP ts (regsOf bs gs) (prs ay by_))) ∧ Below v2.heap.size v2 w') := by
            obtain ⟨vl, hR⟩ := hL.ref
            exact rdiffer_any k vl ts hG (by omega) ay by_ (by omega) hc0 (regsOf bs gs) (hok.q.regs_lt bs) va' vb' e1 e2 v2 (hL.sl ha') (hL.sl hb') hR
          rw [hDD] at hT
          refine wpAnyH_call (i := 12) (f := 17) (some 93) rfl rfl (by kernel_rfl) (by kernel_rfl) (by kernel_rfl) (Calls.mono (hT) ?_)
          rintro rr v3 ⟨rfl, bb⟩
          have hL := hL.below bb
          have hQ := QAt.below hQ bb
          have yc := blk_below yc bb
          have rC := Rows.later rC bb
          have oV := OwnB.later oV bb
          have bW := bW.trans (bb.mono bW.size)
          have hSd : v3.rangeAt w.heap.size 0 [vs', va', vb'] ∧ v3.rangeAt g3 0 [.int .i64 ((gs.length : Int) + 1), .slice A9 (queryC gs sx).length c9] := ⟨range_row hL.ya, range_row yc⟩
          refine ⟨_, rfl, hSd, ?_⟩
          clear hT bb
          refine wpAnyH_val (i := 13) (v := (.bool false)) (some 94) rfl rfl (by kernel_rfl) (by kernel_rfl) (by kernel_rfl) (fun _ _ _ h => h) (Or.inl ⟨by kernel_rfl, fun w9 hw9 => by kernel_rfl⟩) hSd ?_
          refine wpAnyH_val (i := 14) (v := (.bool false)) (some 95) rfl rfl (by kernel_rfl) (by kernel_rfl) (by kernel_rfl) (fun _ _ _ h => h) (Or.inl ⟨by kernel_rfl, fun w9 hw9 => by kernel_rfl⟩) hSd ?_
          refine wpAnyH_done (by kernel_rfl) ?_ _
          clear hSd hQ hL hDD hTT yc2 oV2 rC2 bW2
          simp only [Act.put, List.setIfInBounds_toArray, List.set_cons_succ, List.set_cons_zero]
          go_wp2_with fail
          go_roundw
          case rel => exact ⟨j + 1, bs, by omega, by go_num, HB, oV, bW, yc, rC⟩
          case measure => simp [Go.RowKit.intOf]; omega
      · clear hgl
        by_cases hlt1 : j < xt.length
        · have hlt' : (j : Int) < xt.length := by omega
          have h40' : (decide ((j : Int) < 40)) = false := by simp; omega
          go_wp2_with fail
          refine (bfixed_any wr).mono ?_
          rintro r w7 ⟨rfl, bb⟩
          have hL := hL.below bb
          go_wp2_with fail
          go_ret
          exact ⟨rfl, below_kept hL.kz⟩
        · have hlt' : (decide ((j : Int) < (xt.length : Int))) = false := by simp; omega
          go_wp2_with fail
          refine (bfixed_any wr).mono ?_
          rintro r w7 ⟨rfl, bb⟩
          have hL := hL.below bb
          go_wp2_with fail
          go_ret
          exact ⟨rfl, below_kept hL.kz⟩
  · have hN := differ_no Kd d ts hG (by omega) ay by_ (by omega) (by omega) va' vb' e1 e2 w3 (hL.sl ha') (hL.sl hb') hD hc0
    have hne : (chkO ts ay by_ != 0) = true := by simpa using hc0
    generalize chkO ts ay by_ = cc at *
    refine hN.mono ?_
    rintro r w4 ⟨rfl, bb⟩
    have hL := hL.below bb
    clear hN bb hD
    go_wp2_with fail
    refine (bfixed_any w4).mono ?_
    rintro r w7 ⟨rfl, bb⟩
    have hL := hL.below bb
    go_wp2_with fail
    go_ret
    exact ⟨rfl, below_kept hL.kz⟩
end Go.Proofs.YtgnahjadjgjecaaGreat
