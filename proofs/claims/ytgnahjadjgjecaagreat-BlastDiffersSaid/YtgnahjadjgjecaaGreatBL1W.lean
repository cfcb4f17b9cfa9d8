/- Walk of the law BlastDiffers. -/
import Derived.Test.YtgnahjadjgjecaaGreatBLawA
import Derived.Test.YtgnahjadjgjecaaGreatBRDif
set_option linter.unusedVariables false
set_option linter.unusedSimpArgs false
namespace Go.Proofs.YtgnahjadjgjecaaGreat
open Go.RowKit Go.Maps Go.MapKept

set_option maxRecDepth 100000 in
set_option maxHeartbeats 40000000 in
theorem blaw1_any (B : Nat) (e e1 e2 : TypeId) (vs va vb : Value) (xs : List SOp) (ax bx : List Int) (hf : ∀ x ∈ xs, x.Fits) (x : Nat → Nat) (hx : ∀ r, x r < 4294967296) (w : World) (hs : SlN B e 5 SOp.five w vs xs) (hva : Sl 0 e1 I64 w va ax) (hvb : Sl 0 e2 I64 w vb bx) :
    Calls Tryz.prog 3 #[.agg #[vs, va, vb], .agg (regB x)] w fun r w' => r = .returned (.bool true) ∧ Below w.heap.size w w' := by
  obtain ⟨A, c, rfl, _, _, _⟩ := hs.open_
  obtain ⟨A1, c1, rfl, _, _, _⟩ := hva.open_
  obtain ⟨A2, c2, rfl, _, _, _⟩ := hvb.open_
  go_enter Tryz.func3, Tryz.ntmps3
  have b2 : Below w.heap.size w ((w.alloc (.cells #[.slice A xs.length c, .slice A1 ax.length c1, .slice A2 bx.length c2] 25)).alloc (.cells (regB x) 27)) := ((Below.refl w.heap.size w).alloc (Nat.le_refl _) _).alloc (by simp) _
  have ya := blk_alloc (blk_new w (.cells #[.slice A xs.length c, .slice A1 ax.length c1, .slice A2 bx.length c2] 25)) (.cells (regB x) 27)
  have yr := blk_top (w := w.alloc (.cells #[.slice A xs.length c, .slice A1 ax.length c1, .slice A2 bx.length c2] 25)) (o := .cells (regB x) 27) (g := w.heap.size + 1) (by simp)
  have sz : ((w.alloc (.cells #[.slice A xs.length c, .slice A1 ax.length c1, .slice A2 bx.length c2] 25)).alloc (.cells (regB x) 27)).heap.size = w.heap.size + 2 := by simp
  have hL := blaid_any B e e1 e2 _ _ _ xs ax bx hf _ (hs.below b2) (Sl.later hva b2) (Sl.later hvb b2)
  go_wp2_with fail
  generalize ((w.alloc (.cells #[.slice A xs.length c, .slice A1 ax.length c1, .slice A2 bx.length c2] 25)).alloc (.cells (regB x) 27)) = w1 at *
  refine hL.mono ?_
  rintro r w2 ⟨d, k, ts, vs', va', vb', rfl, hB, hG, hfew, hK, ov, cva, cvb⟩
  have yo : (#[vs', va', vb'] : Array Value).all (·.oneCell') = true := by simp [Array.all, ov, cva.1, cvb.1]
  have ha' := cva.2 _ _ _ hva
  have hb' := cvb.2 _ _ _ hvb
  have ya := hK.blk (show w.heap.size < w1.heap.size by omega) ya
  have yr := hK.blk (show w.heap.size + 1 < w1.heap.size by omega) yr
  have ks := row_kept w2 w.heap.size #[vs', va', vb']
  have hL : LAt w w.heap.size (w.heap.size + 1) vs' va' vb' x d k ts (w2.setRow w.heap.size #[vs', va', vb']) := by
    refine ⟨(Kept.below b2).trans ((hK.mono fun i hi => (show i < w1.heap.size by omega)).trans (ks.mono fun i hi => (show i ≠ w.heap.size by omega))), setRow_heap _ _ _ _ _ _ ya, ks.blk (show w.heap.size + 1 ≠ w.heap.size by omega) yr, ?_⟩
    rw [← sz]
    exact hB.moved ks (show w.heap.size < w1.heap.size by omega)
  clear hK hB cva cvb hs hva hvb ks yr b2 sz
  have la : (ax.take 6).length ≤ 6 := List.length_take_le _ _
  have lb : (bx.take 6).length ≤ 6 := List.length_take_le _ _
  generalize ax.take 6 = ay at *
  generalize bx.take 6 = by_ at *
  obtain ⟨c1, c2⟩ : (w2.setRow w.heap.size #[vs', va', vb']).cell? ⟨w.heap.size, 1, none⟩ = some va' ∧ (w2.setRow w.heap.size #[vs', va', vb']).cell? ⟨w.heap.size, 2, none⟩ = some vb' := ⟨(cell_of hL.ya 1).trans rfl, (cell_of hL.ya 2).trans rfl⟩
  go_wp2_with (first | (refine wpList_store_row rfl 25 (.tmp 2) (.tmp 18) rfl w.heap.size #[vs', va', vb'] rfl rfl 25 _ ya (by kernel_rfl) rfl yo ?_) | fail)
  clear ya
  generalize w2.setRow w.heap.size #[vs', va', vb'] = w3 at *
  clear c1 c2
  obtain ⟨Kd, hD⟩ := hL.dag
  by_cases hc0 : chkO ts ay by_ = 0
  · refine (dif_any Kd (fun i => i < w3.heap.size) d ts hG (by omega) ay by_ (by omega) (by omega) va' vb' e1 e2 w3 (fun i hi => hi) (hL.sl ha') (hL.sl hb') hD hc0).mono ?_
    rintro r w4 ⟨q, gs, sx, rfl, ⟨hQ, hok, b4⟩⟩
    have hL := hL.below b4
    clear hD b4
    obtain ⟨vl, hR⟩ := hL.ref
    obtain ⟨c1, c2⟩ : w4.cell? ⟨w.heap.size, 1, none⟩ = some va' ∧ w4.cell? ⟨w.heap.size, 2, none⟩ = some vb' := ⟨(cell_of hL.ya 1).trans rfl, (cell_of hL.ya 2).trans rfl⟩
    have hC := rcheck14_any k vl ts hG (by omega) ay by_ (by omega) (by omega) va' vb' e1 e2 w4 (hL.sl ha') (hL.sl hb') hR
    rw [hc0] at hC
    go_wp2_with fail
    refine hC.mono ?_
    rintro r w5 ⟨rfl, bb⟩
    have hL := hL.below bb
    have hQ := QAt.below hQ bb
    clear hC bb c1 c2 hR
    go_upto_region 9 with fail
    go_cut [10, 11] from 50 to 54 (fun p p' wx => ∃ g3 vC, p = .pointer (some ⟨g3, 0, none⟩) ∧ LAt w w.heap.size (w.heap.size + 1) vs' va' vb' x d k ts wx ∧ CAt (fun i => i < w3.heap.size) q gs sx x g3 vC p' wx)
    case first =>
      have bd : Below w5.heap.size w5 w5.drew := below_drewN (Below.refl _ _) 1
      have hL := hL.below bd
      have hQ := QAt.below hQ bd
      clear bd
      refine wp_region_any (by kernel_rfl) (wpAny_of_held (S := fun w' => w'.rangeAt (w.heap.size + 1) 0 (regB x).toList) _ _ _ _ ?_)
      change wpAnyH _ _ _ _ _ 8 _ _ w5.drew
      generalize w5.drew = v0 at *
      have hSd : v0.rangeAt (w.heap.size + 1) 0 (regB x).toList := range_row hL.yr
      have b0 := Below.refl v0.heap.size v0
      refine wpAnyH_val (i := 0) (v := (.pointer (some ⟨q, 0, none⟩))) (some 50) rfl rfl (by kernel_rfl) (by kernel_rfl) (by kernel_rfl) (fun _ _ _ h => h) (Or.inl ⟨by kernel_rfl, fun w9 hw9 => by kernel_rfl⟩) hSd ?_
      refine wpAnyH_val (i := 2) (v := (.pointer (some ⟨q, 0, none⟩))) (some 52) rfl rfl (by kernel_rfl) (by kernel_rfl) (by kernel_rfl) (fun _ _ _ h => h) (Or.inl ⟨by kernel_rfl, fun w9 hw9 => by kernel_rfl⟩) hSd ?_
      refine wpAnyH_val (i := 3) (v := (.agg (regB x))) (some 53) rfl rfl (by kernel_rfl) (by kernel_rfl) (by kernel_rfl) (fun _ _ _ h => h) (yieldsIf_load_mid (by kernel_rfl) 27 (.tmp 3) rfl (w.heap.size + 1) 0 (by kernel_rfl) (regB x).toList _ (fun w hw => hw) Tryz.underlying27 rfl (by rw [Array.length_toList, regB_size]; exact info_regs)) hSd ?_
      refine wpAnyH_all (rs := [1, 5]) (by kernel_rfl) (by simp) (fun i hi => ?_)
      rcases (by simpa using hi : i = 1 ∨ i = 5) with rfl | rfl
      · have hT := cnf_any (fun i => i < w3.heap.size) q gs _ hok.clen hok.rows v0 (QAt.below hQ b0)
        refine wpOp_call (f := 12) (some 51) rfl rfl (by kernel_rfl) (by kernel_rfl) (Calls.mono (hT) ?_)
        rintro rr v1 ⟨vC, rfl, rC, bb⟩
        clear hT
        have s1 := bb.size
        obtain ⟨A9, c9, rfl, _, _, _⟩ := (Own.toSl rC 0).open_
        have b0 := below_then b0 bb
        have hSd : v1.rangeAt (w.heap.size + 1) 0 (regB x).toList := range_row (blk_below hL.yr b0)
        refine ⟨_, rfl, hSd, ?_⟩
        have b1 := Below.refl v1.heap.size v1
        refine wpAnyH_all (rs := [4, 5]) (by kernel_rfl) (by simp) (fun i hi => ?_)
        rcases (by simpa using hi : i = 4 ∨ i = 5) with rfl | rfl
        · have hT := values_any (fun i => i < w3.heap.size) q gs _ hok.q.good (by have := hok.glen; omega) x hx v1 (QAt.below hQ b0)
          refine wpOp_call (f := 13) (some 54) rfl rfl (by kernel_rfl) (by kernel_rfl) (Calls.mono (hT) ?_)
          rintro rr v2 ⟨va9, rfl, oV, bb⟩
          clear hT
          have b0 := below_then b0 bb
          have hSd : v2.rangeAt (w.heap.size + 1) 0 (regB x).toList := range_row (blk_below hL.yr b0)
          refine ⟨_, rfl, hSd, ?_⟩
          have b1 := below_then b1 bb
          have s2 := b1.size
          have b2 := Below.refl v2.heap.size v2
          refine wpAnyH_all (rs := [5]) (by kernel_rfl) (by simp) (fun i hi => ?_)
          obtain rfl : i = 5 := by simpa using hi
          refine wpOp_ok (v := .pointer (some ⟨v2.heap.size, 0, none⟩)) (w' := v2.alloc (.cells #[.int .i64 0, .slice none 0 0] 40)) (some 10) rfl rfl (by kernel_rfl) (by kernel_rfl) ?_
          have yz := blk_new v2 (.cells #[.int .i64 0, .slice none 0 0] 40)
          have bb := (Below.refl v2.heap.size v2).alloc (Nat.le_refl _) (.cells #[.int .i64 0, .slice none 0 0] 40)
          have g0 := b0.size
          have b0 := below_then b0 bb
          have hsz : (v2.alloc (.cells #[.int .i64 0, .slice none 0 0] 40)).heap.size = v2.heap.size + 1 := by simp
          generalize v2.alloc (.cells #[.int .i64 0, .slice none 0 0] 40) = v3 at *
          have hg : v2.heap.size < v3.heap.size := by omega
          have hSd : v3.rangeAt (w.heap.size + 1) 0 (regB x).toList := range_row (blk_below hL.yr b0)
          refine ⟨hSd, ?_⟩
          have b1 := below_then b1 bb
          have b2 := below_then b2 bb
          refine wpAnyH_all (rs := [6]) (by kernel_rfl) (by simp) (fun i hi => ?_)
          obtain rfl : i = 6 := by simpa using hi
          refine wpOp_store_row none rfl rfl (by kernel_rfl) 40 (.tmp 10) (.tmp 51) rfl (v2.heap.size) #[.int .i64 ((gs.length : Int) + 1), .slice A9 (queryC gs sx).length c9] (by kernel_rfl) (by kernel_rfl) 40 _ yz (by kernel_rfl) rfl (by kernel_rfl) ?_
          have b4 : Below v0.heap.size v0 (v3.setRow v2.heap.size #[.int .i64 ((gs.length : Int) + 1), .slice A9 (queryC gs sx).length c9]) := below_row b0 (by omega) _
          have hL4 := hL.below b4
          have hc4 : CAt (fun i => i < w3.heap.size) q gs sx x (v2.heap.size) (.slice A9 (queryC gs sx).length c9) va9 (v3.setRow v2.heap.size #[.int .i64 ((gs.length : Int) + 1), .slice A9 (queryC gs sx).length c9]) := ⟨QAt.below hQ b4, setRow_heap _ _ _ _ _ _ yz, ⟨_, Rows.later rC (below_row b1 (by omega) _)⟩, ⟨_, OwnB.later oV (below_row b2 (by omega) _)⟩⟩
          have hSd := range_row hL4.yr
          refine ⟨hSd, ?_⟩
          refine wpAnyH_val (i := 7) (v := va9) (some 11) rfl rfl (by kernel_rfl) (by kernel_rfl) (by kernel_rfl) (fun _ _ _ h => h) (Or.inl ⟨by kernel_rfl, fun w9 hw9 => by kernel_rfl⟩) hSd ?_
          refine wpAnyH_done (by kernel_rfl) ?_ _
          clear b0 b4 yz hSd hL hQ
          simp only [Act.put, List.setIfInBounds_toArray, List.set_cons_succ, List.set_cons_zero]
          go_wp2_with fail
          go_meet
          exact ⟨_, _, rfl, hL4, hc4⟩
        · refine wpOp_ok (v := .pointer (some ⟨v1.heap.size, 0, none⟩)) (w' := v1.alloc (.cells #[.int .i64 0, .slice none 0 0] 40)) (some 10) rfl rfl (by kernel_rfl) (by kernel_rfl) ?_
          have yz := blk_new v1 (.cells #[.int .i64 0, .slice none 0 0] 40)
          have bb := (Below.refl v1.heap.size v1).alloc (Nat.le_refl _) (.cells #[.int .i64 0, .slice none 0 0] 40)
          have g0 := b0.size
          have b0 := below_then b0 bb
          have hsz : (v1.alloc (.cells #[.int .i64 0, .slice none 0 0] 40)).heap.size = v1.heap.size + 1 := by simp
          generalize v1.alloc (.cells #[.int .i64 0, .slice none 0 0] 40) = v2 at *
          have hg : v1.heap.size < v2.heap.size := by omega
          have hSd : v2.rangeAt (w.heap.size + 1) 0 (regB x).toList := range_row (blk_below hL.yr b0)
          refine ⟨hSd, ?_⟩
          have b1 := below_then b1 bb
          refine wpAnyH_all (rs := [4]) (by kernel_rfl) (by simp) (fun i hi => ?_)
          obtain rfl : i = 4 := by simpa using hi
          have hT := values_any (fun i => i < w3.heap.size) q gs _ hok.q.good (by have := hok.glen; omega) x hx v2 (QAt.below hQ b0)
          refine wpOp_call (f := 13) (some 54) rfl rfl (by kernel_rfl) (by kernel_rfl) (Calls.mono (hT) ?_)
          rintro rr v3 ⟨va9, rfl, oV, bb⟩
          clear hT
          have b0 := below_then b0 bb
          have hSd : v3.rangeAt (w.heap.size + 1) 0 (regB x).toList := range_row (blk_below hL.yr b0)
          refine ⟨_, rfl, hSd, ?_⟩
          have b1 := below_then b1 bb
          have yz := blk_below yz bb
          refine wpAnyH_all (rs := [6]) (by kernel_rfl) (by simp) (fun i hi => ?_)
          obtain rfl : i = 6 := by simpa using hi
          refine wpOp_store_row none rfl rfl (by kernel_rfl) 40 (.tmp 10) (.tmp 51) rfl (v1.heap.size) #[.int .i64 ((gs.length : Int) + 1), .slice A9 (queryC gs sx).length c9] (by kernel_rfl) (by kernel_rfl) 40 _ yz (by kernel_rfl) rfl (by kernel_rfl) ?_
          have b4 : Below v0.heap.size v0 (v3.setRow v1.heap.size #[.int .i64 ((gs.length : Int) + 1), .slice A9 (queryC gs sx).length c9]) := below_row b0 (by omega) _
          have hL4 := hL.below b4
          have hc4 : CAt (fun i => i < w3.heap.size) q gs sx x (v1.heap.size) (.slice A9 (queryC gs sx).length c9) va9 (v3.setRow v1.heap.size #[.int .i64 ((gs.length : Int) + 1), .slice A9 (queryC gs sx).length c9]) := ⟨QAt.below hQ b4, setRow_heap _ _ _ _ _ _ yz, ⟨_, Rows.later rC (below_row b1 (by omega) _)⟩, ⟨_, OwnB.row_lo oV (by omega) _⟩⟩
          have hSd := range_row hL4.yr
          refine ⟨hSd, ?_⟩
          refine wpAnyH_val (i := 7) (v := va9) (some 11) rfl rfl (by kernel_rfl) (by kernel_rfl) (by kernel_rfl) (fun _ _ _ h => h) (Or.inl ⟨by kernel_rfl, fun w9 hw9 => by kernel_rfl⟩) hSd ?_
          refine wpAnyH_done (by kernel_rfl) ?_ _
          clear b0 b4 yz hSd hL hQ
          simp only [Act.put, List.setIfInBounds_toArray, List.set_cons_succ, List.set_cons_zero]
          go_wp2_with fail
          go_meet
          exact ⟨_, _, rfl, hL4, hc4⟩
      · refine wpOp_ok (v := .pointer (some ⟨v0.heap.size, 0, none⟩)) (w' := v0.alloc (.cells #[.int .i64 0, .slice none 0 0] 40)) (some 10) rfl rfl (by kernel_rfl) (by kernel_rfl) ?_
        have yz := blk_new v0 (.cells #[.int .i64 0, .slice none 0 0] 40)
        have bb := (Below.refl v0.heap.size v0).alloc (Nat.le_refl _) (.cells #[.int .i64 0, .slice none 0 0] 40)
        have g0 := b0.size
        have b0 := below_then b0 bb
        have hsz : (v0.alloc (.cells #[.int .i64 0, .slice none 0 0] 40)).heap.size = v0.heap.size + 1 := by simp
        generalize v0.alloc (.cells #[.int .i64 0, .slice none 0 0] 40) = v1 at *
        have hg : v0.heap.size < v1.heap.size := by omega
        have hSd : v1.rangeAt (w.heap.size + 1) 0 (regB x).toList := range_row (blk_below hL.yr b0)
        refine ⟨hSd, ?_⟩
        refine wpAnyH_all (rs := [1]) (by kernel_rfl) (by simp) (fun i hi => ?_)
        obtain rfl : i = 1 := by simpa using hi
        have hT := cnf_any (fun i => i < w3.heap.size) q gs _ hok.clen hok.rows v1 (QAt.below hQ b0)
        refine wpOp_call (f := 12) (some 51) rfl rfl (by kernel_rfl) (by kernel_rfl) (Calls.mono (hT) ?_)
        rintro rr v2 ⟨vC, rfl, rC, bb⟩
        clear hT
        have s1 := bb.size
        obtain ⟨A9, c9, rfl, _, _, _⟩ := (Own.toSl rC 0).open_
        have b0 := below_then b0 bb
        have hSd : v2.rangeAt (w.heap.size + 1) 0 (regB x).toList := range_row (blk_below hL.yr b0)
        refine ⟨_, rfl, hSd, ?_⟩
        have yz := blk_below yz bb
        refine wpAnyH_all (rs := [4]) (by kernel_rfl) (by simp) (fun i hi => ?_)
        obtain rfl : i = 4 := by simpa using hi
        have hT := values_any (fun i => i < w3.heap.size) q gs _ hok.q.good (by have := hok.glen; omega) x hx v2 (QAt.below hQ b0)
        refine wpOp_call (f := 13) (some 54) rfl rfl (by kernel_rfl) (by kernel_rfl) (Calls.mono (hT) ?_)
        rintro rr v3 ⟨va9, rfl, oV, bb⟩
        clear hT
        have b0 := below_then b0 bb
        have hSd : v3.rangeAt (w.heap.size + 1) 0 (regB x).toList := range_row (blk_below hL.yr b0)
        refine ⟨_, rfl, hSd, ?_⟩
        have rC := Rows.later rC bb
        have yz := blk_below yz bb
        refine wpAnyH_all (rs := [6]) (by kernel_rfl) (by simp) (fun i hi => ?_)
        obtain rfl : i = 6 := by simpa using hi
        refine wpOp_store_row none rfl rfl (by kernel_rfl) 40 (.tmp 10) (.tmp 51) rfl (v0.heap.size) #[.int .i64 ((gs.length : Int) + 1), .slice A9 (queryC gs sx).length c9] (by kernel_rfl) (by kernel_rfl) 40 _ yz (by kernel_rfl) rfl (by kernel_rfl) ?_
        have b4 : Below v0.heap.size v0 (v3.setRow v0.heap.size #[.int .i64 ((gs.length : Int) + 1), .slice A9 (queryC gs sx).length c9]) := below_row b0 (by omega) _
        have hL4 := hL.below b4
        have hc4 : CAt (fun i => i < w3.heap.size) q gs sx x (v0.heap.size) (.slice A9 (queryC gs sx).length c9) va9 (v3.setRow v0.heap.size #[.int .i64 ((gs.length : Int) + 1), .slice A9 (queryC gs sx).length c9]) := ⟨QAt.below hQ b4, setRow_heap _ _ _ _ _ _ yz, ⟨_, Rows.row_lo rC (by omega) _⟩, ⟨_, OwnB.row_lo oV (by have := hsz; omega) _⟩⟩
        have hSd := range_row hL4.yr
        refine ⟨hSd, ?_⟩
        refine wpAnyH_val (i := 7) (v := va9) (some 11) rfl rfl (by kernel_rfl) (by kernel_rfl) (by kernel_rfl) (fun _ _ _ h => h) (Or.inl ⟨by kernel_rfl, fun w9 hw9 => by kernel_rfl⟩) hSd ?_
        refine wpAnyH_done (by kernel_rfl) ?_ _
        clear b0 b4 yz hSd hL hQ
        simp only [Act.put, List.setIfInBounds_toArray, List.set_cons_succ, List.set_cons_zero]
        go_wp2_with fail
        go_meet
        exact ⟨_, _, rfl, hL4, hc4⟩
    case rest =>
    obtain ⟨g3, vC, rfl, hL, hc⟩ := hcut
    have hcc := hc0
    obtain ⟨hlen, hin, _⟩ := chk_ok hc0
    have hia : ∀ n, n ∈ ay → inR n ts.length = true := fun n hn => hin n (List.mem_append_left _ hn)
    have hib : ∀ n, n ∈ by_ → inR n ts.length = true := fun n hn => hin n (List.mem_append_right _ hn)
    have hmm : (needL ts ay ||| needL ts by_) < 4294967296 := Nat.or_lt_two_pow (n := 32) (needL_lt hG ay hia) (needL_lt hG by_ hib)
    go_upto_region 10 with fail
    go_cut [12] from 55 to 63 (fun p wx => p = .int .u32 ((needL ts ay ||| needL ts by_ : Nat) : Int) ∧ LAt w w.heap.size (w.heap.size + 1) vs' va' vb' x d k ts wx ∧ CAt (fun i => i < w3.heap.size) q gs sx x g3 vC u11 wx)
    case first =>
      have bd : Below wc.heap.size wc wc.drew := below_drewN (Below.refl _ _) 1
      have hL := hL.below bd
      have hc := hc.below bd
      clear bd
      refine wp_region_any (by kernel_rfl) (wpAny_of_held (S := fun w' => w'.rangeAt w.heap.size 0 [vs', va', vb']) _ _ _ _ ?_)
      change wpAnyH _ _ _ _ _ 10 _ _ wc.drew
      generalize wc.drew = v0 at *
      have hSd : v0.rangeAt w.heap.size 0 [vs', va', vb'] := range_row hL.ya
      refine wpAnyH_val (i := 0) (v := (.pointer (some ⟨k, 0, none⟩))) (some 55) rfl rfl (by kernel_rfl) (by kernel_rfl) (by kernel_rfl) (fun _ _ _ h => h) (Or.inl ⟨by kernel_rfl, fun w9 hw9 => by kernel_rfl⟩) hSd ?_
      refine wpAnyH_val (i := 1) (v := (.pointer (some ⟨w.heap.size, 1, none⟩))) (some 56) rfl rfl (by kernel_rfl) (by kernel_rfl) (by kernel_rfl) (fun _ _ _ h => h) (Or.inl ⟨by kernel_rfl, fun w9 hw9 => by kernel_rfl⟩) hSd ?_
      refine wpAnyH_val (i := 2) (v := va') (some 57) rfl rfl (by kernel_rfl) (by kernel_rfl) (by kernel_rfl) (fun _ _ _ h => h) (yieldsIf_cell (by kernel_rfl) 23 (.tmp 56) rfl (w.heap.size) 1 (by kernel_rfl) va' (fun w => by kernel_rfl) (fun w hw => range_cell (i := 1) hw rfl)) hSd ?_
      refine wpAnyH_val (i := 4) (v := (.pointer (some ⟨k, 0, none⟩))) (some 59) rfl rfl (by kernel_rfl) (by kernel_rfl) (by kernel_rfl) (fun _ _ _ h => h) (Or.inl ⟨by kernel_rfl, fun w9 hw9 => by kernel_rfl⟩) hSd ?_
      refine wpAnyH_val (i := 5) (v := (.pointer (some ⟨w.heap.size, 2, none⟩))) (some 60) rfl rfl (by kernel_rfl) (by kernel_rfl) (by kernel_rfl) (fun _ _ _ h => h) (Or.inl ⟨by kernel_rfl, fun w9 hw9 => by kernel_rfl⟩) hSd ?_
      refine wpAnyH_val (i := 6) (v := vb') (some 61) rfl rfl (by kernel_rfl) (by kernel_rfl) (by kernel_rfl) (fun _ _ _ h => h) (yieldsIf_cell (by kernel_rfl) 23 (.tmp 60) rfl (w.heap.size) 2 (by kernel_rfl) vb' (fun w => by kernel_rfl) (fun w hw => range_cell (i := 2) hw rfl)) hSd ?_
      have hT : Calls Tryz.prog 14 #[.pointer (some ⟨k, 0, none⟩), va'] v0 (fun r w' => r = .returned (.int .u32 (needL ts ay : Nat)) ∧ Below v0.heap.size v0 w') := by
        obtain ⟨vl, hR⟩ := hL.ref
        exact rneeds_any k vl ts hG (by omega) ay (by omega) hia (vr_lt hG) (needL_lts hG ay hia) va' e1 v0 (hL.sl ha') hR
      refine wpAnyH_call (i := 3) (f := 14) (some 58) rfl rfl (by kernel_rfl) (by kernel_rfl) (by kernel_rfl) (Calls.mono (hT) ?_)
      rintro rr v1 ⟨rfl, bb⟩
      have hL := hL.below bb
      have hc := hc.below bb
      have hSd : v1.rangeAt w.heap.size 0 [vs', va', vb'] := range_row hL.ya
      refine ⟨_, rfl, hSd, ?_⟩
      clear hT bb
      have hT : Calls Tryz.prog 14 #[.pointer (some ⟨k, 0, none⟩), vb'] v1 (fun r w' => r = .returned (.int .u32 (needL ts by_ : Nat)) ∧ Below v1.heap.size v1 w') := by
        obtain ⟨vl, hR⟩ := hL.ref
        exact rneeds_any k vl ts hG (by omega) by_ (by omega) hib (vr_lt hG) (needL_lts hG by_ hib) vb' e2 v1 (hL.sl hb') hR
      refine wpAnyH_call (i := 7) (f := 14) (some 62) rfl rfl (by kernel_rfl) (by kernel_rfl) (by kernel_rfl) (Calls.mono (hT) ?_)
      rintro rr v2 ⟨rfl, bb⟩
      have hL := hL.below bb
      have hc := hc.below bb
      have hSd : v2.rangeAt w.heap.size 0 [vs', va', vb'] := range_row hL.ya
      refine ⟨_, rfl, hSd, ?_⟩
      clear hT bb
      refine wpAnyH_val (i := 8) (v := (.int .u32 ((needL ts ay ||| needL ts by_ : Nat) : Int))) (some 63) rfl rfl (by kernel_rfl) (by kernel_rfl) (by kernel_rfl) (fun _ _ _ h => h) (Or.inl ⟨by kernel_rfl, fun w9 hw9 => or_exec (m := needL ts ay) (n := needL ts by_) (.tmp 58) (.tmp 62) 26 26 rfl (by kernel_rfl) (by kernel_rfl) (needL_lt hG ay hia) (needL_lt hG by_ hib) w9⟩) hSd ?_
      refine wpAnyH_val (i := 9) (v := (.int .u32 ((needL ts ay ||| needL ts by_ : Nat) : Int))) (some 12) rfl rfl (by kernel_rfl) (by kernel_rfl) (by kernel_rfl) (fun _ _ _ h => h) (Or.inl ⟨by kernel_rfl, fun w9 hw9 => by kernel_rfl⟩) hSd ?_
      refine wpAnyH_done (by kernel_rfl) ?_ _
      simp only [Act.put, List.setIfInBounds_toArray, List.set_cons_succ, List.set_cons_zero]
      go_wp2_with fail
      go_meet
      exact ⟨rfl, hL, hc⟩
    case rest =>
    obtain ⟨rfl, hL, hc⟩ := hcut
    go_upto_region 11 with fail
    obtain ⟨B9, rC⟩ := hc.rC
    obtain ⟨A9, c9, rfl, _, _, _⟩ := (Own.toSl rC 0).open_
    have hV := hc.bits
    obtain ⟨A8, c8, rfl, _, _, _⟩ := hV.open_
    rw [vals_len] at *
    have bd : Below wc.heap.size wc wc.drew := below_drewN (Below.refl _ _) 1
    have hL := hL.below bd
    have hc := hc.below bd
    have rC := Rows.later rC bd
    have hV := BitsB.below hV bd
    clear bd
    refine wp_region_any (by kernel_rfl) (wpAny_of_held (S := fun w' => w'.rangeAt w.heap.size 0 [vs', va', vb'] ∧ w'.rangeAt (w.heap.size + 1) 0 (regB x).toList ∧ w'.rangeAt g3 0 [.int .i64 ((gs.length : Int) + 1), .slice A9 (queryC gs sx).length c9]) _ _ _ _ ?_)
    change wpAnyH _ _ _ _ _ 36 _ _ wc.drew
    generalize wc.drew = v0 at *
    have hSd : v0.rangeAt w.heap.size 0 [vs', va', vb'] ∧ v0.rangeAt (w.heap.size + 1) 0 (regB x).toList ∧ v0.rangeAt g3 0 [.int .i64 ((gs.length : Int) + 1), .slice A9 (queryC gs sx).length c9] := ⟨range_row hL.ya, range_row hL.yr, range_row hc.yc⟩
    refine wpAnyH_val (i := 0) (v := (.agg #[.int .i64 ((gs.length : Int) + 1), .slice A9 (queryC gs sx).length c9])) (some 64) rfl rfl (by kernel_rfl) (by kernel_rfl) (by kernel_rfl) (fun _ _ _ h => h) (yieldsIf_load_mid (by kernel_rfl) 40 (.tmp 10) rfl g3 0 (by kernel_rfl) [.int .i64 ((gs.length : Int) + 1), .slice A9 (queryC gs sx).length c9] _ (fun w hw => hw.2.2) Tryz.underlying40 rfl (by kernel_rfl)) hSd ?_
    have hT := rcheck_ok _ (gs.length + 1) (by have := hok.glen; omega) _ hok.clen hok.lits _ v0 rC
    refine wpAnyH_call (i := 1) (f := 15) (some 65) rfl rfl (by kernel_rfl) (by kernel_rfl) (by kernel_rfl) (Calls.mono (hT) ?_)
    rintro rr v1 ⟨rfl, bb⟩
    have hL := hL.below bb
    have hc := hc.below bb
    have rC := Rows.later rC bb
    have hV := BitsB.below hV bb
    have hSd : v1.rangeAt w.heap.size 0 [vs', va', vb'] ∧ v1.rangeAt (w.heap.size + 1) 0 (regB x).toList ∧ v1.rangeAt g3 0 [.int .i64 ((gs.length : Int) + 1), .slice A9 (queryC gs sx).length c9] := ⟨range_row hL.ya, range_row hL.yr, range_row hc.yc⟩
    refine ⟨_, rfl, hSd, ?_⟩
    clear hT bb
    refine wpAnyH_val (i := 2) (v := (.bool true)) (some 66) rfl rfl (by kernel_rfl) (by kernel_rfl) (by kernel_rfl) (fun _ _ _ h => h) (Or.inl ⟨by kernel_rfl, fun w9 hw9 => by kernel_rfl⟩) hSd ?_
    refine wpAnyH_val (i := 3) (v := (.bool true)) (some 67) rfl rfl (by kernel_rfl) (by kernel_rfl) (by kernel_rfl) (fun _ _ _ h => h) (Or.inl ⟨by kernel_rfl, fun w9 hw9 => by kernel_rfl⟩) hSd ?_
    refine wpAnyH_val (i := 4) (v := (.slice A8 (gs.length + 1) c8)) (some 68) rfl rfl (by kernel_rfl) (by kernel_rfl) (by kernel_rfl) (fun _ _ _ h => h) (Or.inl ⟨by kernel_rfl, fun w9 hw9 => by kernel_rfl⟩) hSd ?_
    refine wpAnyH_val (i := 5) (v := (.int .i64 ((gs.length + 1 : Nat) : Int))) (some 69) rfl rfl (by kernel_rfl) (by kernel_rfl) (by kernel_rfl) (fun _ _ _ h => h) (Or.inl ⟨by kernel_rfl, fun w9 hw9 => by kernel_rfl⟩) hSd ?_
    refine wpAnyH_val (i := 6) (v := (.pointer (some ⟨g3, 0, none⟩))) (some 70) rfl rfl (by kernel_rfl) (by kernel_rfl) (by kernel_rfl) (fun _ _ _ h => h) (Or.inl ⟨by kernel_rfl, fun w9 hw9 => by kernel_rfl⟩) hSd ?_
    refine wpAnyH_val (i := 7) (v := (.int .i64 ((gs.length : Int) + 1))) (some 71) rfl rfl (by kernel_rfl) (by kernel_rfl) (by kernel_rfl) (fun _ _ _ h => h) (yieldsIf_cell (by kernel_rfl) 3 (.tmp 70) rfl (g3) 0 (by kernel_rfl) (.int .i64 ((gs.length : Int) + 1)) (fun w => by kernel_rfl) (fun w hw => range_cell (i := 0) hw.2.2 rfl)) hSd ?_
    refine wpAnyH_val (i := 8) (v := (.bool true)) (some 72) rfl rfl (by kernel_rfl) (by kernel_rfl) (by kernel_rfl) (fun _ _ _ h => h) (Or.inl ⟨by kernel_rfl, fun w9 hw9 => eq_int_exec (k := .i64) (i := ((gs.length + 1 : Nat) : Int)) (j := ((gs.length : Int) + 1)) (.tmp 69) (.tmp 71) 3 3 rfl (by kernel_rfl) (by kernel_rfl) (by omega) w9⟩) hSd ?_
    refine wpAnyH_val (i := 9) (v := (.bool true)) (some 73) rfl rfl (by kernel_rfl) (by kernel_rfl) (by kernel_rfl) (fun _ _ _ h => h) (Or.inl ⟨by kernel_rfl, fun w9 hw9 => by kernel_rfl⟩) hSd ?_
    refine wpAnyH_val (i := 10) (v := (.bool true)) (some 74) rfl rfl (by kernel_rfl) (by kernel_rfl) (by kernel_rfl) (fun _ _ _ h => h) (Or.inl ⟨by kernel_rfl, fun w9 hw9 => by kernel_rfl⟩) hSd ?_
    refine wpAnyH_val (i := 11) (v := (.agg #[.int .i64 ((gs.length : Int) + 1), .slice A9 (queryC gs sx).length c9])) (some 75) rfl rfl (by kernel_rfl) (by kernel_rfl) (by kernel_rfl) (fun _ _ _ h => h) (yieldsIf_load_mid (by kernel_rfl) 40 (.tmp 10) rfl g3 0 (by kernel_rfl) [.int .i64 ((gs.length : Int) + 1), .slice A9 (queryC gs sx).length c9] _ (fun w hw => hw.2.2) Tryz.underlying40 rfl (by kernel_rfl)) hSd ?_
    refine wpAnyH_val (i := 12) (v := (.slice A8 (gs.length + 1) c8)) (some 76) rfl rfl (by kernel_rfl) (by kernel_rfl) (by kernel_rfl) (fun _ _ _ h => h) (Or.inl ⟨by kernel_rfl, fun w9 hw9 => by kernel_rfl⟩) hSd ?_
    refine wpAnyH_val (i := 14) (v := (.pointer (some ⟨k, 0, none⟩))) (some 78) rfl rfl (by kernel_rfl) (by kernel_rfl) (by kernel_rfl) (fun _ _ _ h => h) (Or.inl ⟨by kernel_rfl, fun w9 hw9 => by kernel_rfl⟩) hSd ?_
    refine wpAnyH_val (i := 15) (v := (.pointer (some ⟨w.heap.size, 1, none⟩))) (some 79) rfl rfl (by kernel_rfl) (by kernel_rfl) (by kernel_rfl) (fun _ _ _ h => h) (Or.inl ⟨by kernel_rfl, fun w9 hw9 => by kernel_rfl⟩) hSd ?_
    refine wpAnyH_val (i := 16) (v := va') (some 80) rfl rfl (by kernel_rfl) (by kernel_rfl) (by kernel_rfl) (fun _ _ _ h => h) (yieldsIf_cell (by kernel_rfl) 23 (.tmp 79) rfl (w.heap.size) 1 (by kernel_rfl) va' (fun w => by kernel_rfl) (fun w hw => range_cell (i := 1) hw.1 rfl)) hSd ?_
    refine wpAnyH_val (i := 17) (v := (.pointer (some ⟨w.heap.size, 2, none⟩))) (some 81) rfl rfl (by kernel_rfl) (by kernel_rfl) (by kernel_rfl) (fun _ _ _ h => h) (Or.inl ⟨by kernel_rfl, fun w9 hw9 => by kernel_rfl⟩) hSd ?_
    refine wpAnyH_val (i := 18) (v := vb') (some 82) rfl rfl (by kernel_rfl) (by kernel_rfl) (by kernel_rfl) (fun _ _ _ h => h) (yieldsIf_cell (by kernel_rfl) 23 (.tmp 81) rfl (w.heap.size) 2 (by kernel_rfl) vb' (fun w => by kernel_rfl) (fun w hw => range_cell (i := 2) hw.1 rfl)) hSd ?_
    refine wpAnyH_val (i := 19) (v := (.agg (regB x))) (some 83) rfl rfl (by kernel_rfl) (by kernel_rfl) (by kernel_rfl) (fun _ _ _ h => h) (yieldsIf_load_mid (by kernel_rfl) 27 (.tmp 3) rfl (w.heap.size + 1) 0 (by kernel_rfl) (regB x).toList _ (fun w hw => hw.2.1) Tryz.underlying27 rfl (by rw [Array.length_toList, regB_size]; exact info_regs)) hSd ?_
    have hT := rtrue_any _ 0 ((gs.length : Int) + 1) _ (vals x gs) _ (.slice A8 (gs.length + 1) c8) (by rw [vals_len]; have := hok.glen; omega) v1 rC hV
    rw [hok.holds hx] at hT
    refine wpAnyH_call (i := 13) (f := 16) (some 77) rfl rfl (by kernel_rfl) (by kernel_rfl) (by kernel_rfl) (Calls.mono (hT) ?_)
    rintro rr v2 ⟨rfl, bb⟩
    have hL := hL.below bb
    have hc := hc.below bb
    have rC := Rows.later rC bb
    have hV := BitsB.below hV bb
    have hSd : v2.rangeAt w.heap.size 0 [vs', va', vb'] ∧ v2.rangeAt (w.heap.size + 1) 0 (regB x).toList ∧ v2.rangeAt g3 0 [.int .i64 ((gs.length : Int) + 1), .slice A9 (queryC gs sx).length c9] := ⟨range_row hL.ya, range_row hL.yr, range_row hc.yc⟩
    refine ⟨_, rfl, hSd, ?_⟩
    clear hT bb
    have hT : Calls Tryz.prog 17 #[.pointer (some ⟨k, 0, none⟩), va', vb', .agg (regB x)] v2 (fun r w' => r = .returned (.bool (difP ts x (prs ay by_))) ∧ Below v2.heap.size v2 w') := by
      obtain ⟨vl, hR⟩ := hL.ref
      exact rdiffer_any k vl ts hG (by omega) ay by_ (by omega) hcc x hx va' vb' e1 e2 v2 (hL.sl ha') (hL.sl hb') hR
    refine wpAnyH_call (i := 20) (f := 17) (some 84) rfl rfl (by kernel_rfl) (by kernel_rfl) (by kernel_rfl) (Calls.mono (hT) ?_)
    rintro rr v3 ⟨rfl, bb⟩
    have hL := hL.below bb
    have hc := hc.below bb
    have rC := Rows.later rC bb
    have hV := BitsB.below hV bb
    have hSd : v3.rangeAt w.heap.size 0 [vs', va', vb'] ∧ v3.rangeAt (w.heap.size + 1) 0 (regB x).toList ∧ v3.rangeAt g3 0 [.int .i64 ((gs.length : Int) + 1), .slice A9 (queryC gs sx).length c9] := ⟨range_row hL.ya, range_row hL.yr, range_row hc.yc⟩
    refine ⟨_, rfl, hSd, ?_⟩
    clear hT bb
    refine wpAnyH_val (i := 21) (v := (.bool true)) (some 85) rfl rfl (by kernel_rfl) (by kernel_rfl) (by kernel_rfl) (fun _ _ _ h => h) (Or.inl ⟨by kernel_rfl, fun w9 hw9 => eq_bool_exec (p := (difP ts x (prs ay by_))) (.tmp 77) (.tmp 84) 4 rfl (by kernel_rfl) (by kernel_rfl) w9⟩) hSd ?_
    refine wpAnyH_val (i := 22) (v := (.bool true)) (some 86) rfl rfl (by kernel_rfl) (by kernel_rfl) (by kernel_rfl) (fun _ _ _ h => h) (Or.inl ⟨by kernel_rfl, fun w9 hw9 => by kernel_rfl⟩) hSd ?_
    refine wpAnyH_val (i := 23) (v := (.bool true)) (some 87) rfl rfl (by kernel_rfl) (by kernel_rfl) (by kernel_rfl) (fun _ _ _ h => h) (Or.inl ⟨by kernel_rfl, fun w9 hw9 => by kernel_rfl⟩) hSd ?_
    refine wpAnyH_val (i := 24) (v := (.pointer (some ⟨q, 0, none⟩))) (some 88) rfl rfl (by kernel_rfl) (by kernel_rfl) (by kernel_rfl) (fun _ _ _ h => h) (Or.inl ⟨by kernel_rfl, fun w9 hw9 => by kernel_rfl⟩) hSd ?_
    refine wpAnyH_val (i := 25) (v := (.slice A8 (gs.length + 1) c8)) (some 89) rfl rfl (by kernel_rfl) (by kernel_rfl) (by kernel_rfl) (fun _ _ _ h => h) (Or.inl ⟨by kernel_rfl, fun w9 hw9 => by kernel_rfl⟩) hSd ?_
    refine wpAnyH_val (i := 27) (v := (.agg (regB x))) (some 91) rfl rfl (by kernel_rfl) (by kernel_rfl) (by kernel_rfl) (fun _ _ _ h => h) (yieldsIf_load_mid (by kernel_rfl) 27 (.tmp 3) rfl (w.heap.size + 1) 0 (by kernel_rfl) (regB x).toList _ (fun w hw => hw.2.1) Tryz.underlying27 rfl (by rw [Array.length_toList, regB_size]; exact info_regs)) hSd ?_
    refine wpAnyH_val (i := 28) (v := (.int .u32 ((needL ts ay ||| needL ts by_ : Nat) : Int))) (some 92) rfl rfl (by kernel_rfl) (by kernel_rfl) (by kernel_rfl) (fun _ _ _ h => h) (Or.inl ⟨by kernel_rfl, fun w9 hw9 => by kernel_rfl⟩) hSd ?_
    have hT := regs_any (fun i => i < w3.heap.size) q gs _ hok.q.good (by have := hok.glen; omega) 0 (.slice A8 (gs.length + 1) c8) (vals x gs) (by rw [vals_len]; have := hok.glen; omega) v3 hV hc.hQ
    rw [hok.regs hlen hx] at hT
    refine wpAnyH_call (i := 26) (f := 18) (some 90) rfl rfl (by kernel_rfl) (by kernel_rfl) (by kernel_rfl) (Calls.mono (hT) ?_)
    rintro rr v4 ⟨rfl, bb⟩
    have hL := hL.below bb
    have hc := hc.below bb
    have rC := Rows.later rC bb
    have hV := BitsB.below hV bb
    have hSd : v4.rangeAt w.heap.size 0 [vs', va', vb'] ∧ v4.rangeAt (w.heap.size + 1) 0 (regB x).toList ∧ v4.rangeAt g3 0 [.int .i64 ((gs.length : Int) + 1), .slice A9 (queryC gs sx).length c9] := ⟨range_row hL.ya, range_row hL.yr, range_row hc.yc⟩
    refine ⟨_, rfl, hSd, ?_⟩
    clear hT bb
    have hT := ronly_any x (needL ts ay ||| needL ts by_) hmm v4
    refine wpAnyH_call (i := 29) (f := 19) (some 93) rfl rfl (by kernel_rfl) (by kernel_rfl) (by kernel_rfl) (Calls.mono (hT) ?_)
    rintro rr v5 ⟨rfl, bb⟩
    have hL := hL.below bb
    have hc := hc.below bb
    have rC := Rows.later rC bb
    have hV := BitsB.below hV bb
    have hSd : v5.rangeAt w.heap.size 0 [vs', va', vb'] ∧ v5.rangeAt (w.heap.size + 1) 0 (regB x).toList ∧ v5.rangeAt g3 0 [.int .i64 ((gs.length : Int) + 1), .slice A9 (queryC gs sx).length c9] := ⟨range_row hL.ya, range_row hL.yr, range_row hc.yc⟩
    refine ⟨_, rfl, hSd, ?_⟩
    clear hT bb
    refine wpAnyH_val (i := 30) (v := (.bool true)) (some 94) rfl rfl (by kernel_rfl) (by kernel_rfl) (by kernel_rfl) (fun _ _ _ h => h) (Or.inl ⟨by kernel_rfl, fun w9 hw9 => eqR_exec (z := onlyX x (needL ts ay ||| needL ts by_)) (.tmp 90) (.tmp 93) 27 rfl (by kernel_rfl) (by kernel_rfl) w9⟩) hSd ?_
    refine wpAnyH_val (i := 31) (v := (.bool true)) (some 95) rfl rfl (by kernel_rfl) (by kernel_rfl) (by kernel_rfl) (fun _ _ _ h => h) (Or.inl ⟨by kernel_rfl, fun w9 hw9 => by kernel_rfl⟩) hSd ?_
    refine wpAnyH_val (i := 32) (v := (.bool true)) (some 96) rfl rfl (by kernel_rfl) (by kernel_rfl) (by kernel_rfl) (fun _ _ _ h => h) (Or.inl ⟨by kernel_rfl, fun w9 hw9 => by kernel_rfl⟩) hSd ?_
    have hT := bfixed_any v5
    refine wpAnyH_call (i := 33) (f := 11) (some 97) rfl rfl (by kernel_rfl) (by kernel_rfl) (by kernel_rfl) (Calls.mono (hT) ?_)
    rintro rr v6 ⟨rfl, bb⟩
    have hL := hL.below bb
    have hc := hc.below bb
    have rC := Rows.later rC bb
    have hV := BitsB.below hV bb
    have hSd : v6.rangeAt w.heap.size 0 [vs', va', vb'] ∧ v6.rangeAt (w.heap.size + 1) 0 (regB x).toList ∧ v6.rangeAt g3 0 [.int .i64 ((gs.length : Int) + 1), .slice A9 (queryC gs sx).length c9] := ⟨range_row hL.ya, range_row hL.yr, range_row hc.yc⟩
    refine ⟨_, rfl, hSd, ?_⟩
    clear hT bb
    refine wpAnyH_val (i := 34) (v := (.bool true)) (some 98) rfl rfl (by kernel_rfl) (by kernel_rfl) (by kernel_rfl) (fun _ _ _ h => h) (Or.inl ⟨by kernel_rfl, fun w9 hw9 => by kernel_rfl⟩) hSd ?_
    refine wpAnyH_val (i := 35) (v := (.bool true)) (some 4) rfl rfl (by kernel_rfl) (by kernel_rfl) (by kernel_rfl) (fun _ _ _ h => h) (Or.inl ⟨by kernel_rfl, fun w9 hw9 => by kernel_rfl⟩) hSd ?_
    refine wpAnyH_done (by kernel_rfl) ?_ _
    simp only [Act.put, List.setIfInBounds_toArray, List.set_cons_succ, List.set_cons_zero]
    go_wp2_with fail
    go_ret
    exact ⟨rfl, below_kept hL.kz⟩
  · have hN := differ_no Kd d ts hG (by omega) ay by_ (by omega) (by omega) va' vb' e1 e2 w3 (hL.sl ha') (hL.sl hb') hD hc0
    have hR := fun w' (h : LAt w w.heap.size (w.heap.size + 1) vs' va' vb' x d k ts w') => (show Calls Tryz.prog 10 #[.pointer (some ⟨k, 0, none⟩), va', vb'] w' (fun r w'' => r = .returned (.int .i64 (chkO ts ay by_)) ∧ Below w'.heap.size w' w'') from by
      obtain ⟨vl, hR⟩ := h.ref
      exact rcheck14_any k vl ts hG (by omega) ay by_ (by omega) (by omega) va' vb' e1 e2 w' (h.sl ha') (h.sl hb') hR)
    have hne : (chkO ts ay by_ != 0) = true := by simpa using hc0
    generalize chkO ts ay by_ = cc at *
    refine hN.mono ?_
    rintro r w4 ⟨rfl, bb⟩
    have hL := hL.below bb
    clear hN bb hD
    obtain ⟨c1, c2⟩ : w4.cell? ⟨w.heap.size, 1, none⟩ = some va' ∧ w4.cell? ⟨w.heap.size, 2, none⟩ = some vb' := ⟨(cell_of hL.ya 1).trans rfl, (cell_of hL.ya 2).trans rfl⟩
    have hC := hR w4 hL
    go_wp2_with fail
    refine hC.mono ?_
    rintro r w5 ⟨rfl, bb⟩
    have hL := hL.below bb
    clear hC bb c1 c2 hR
    go_wp2_with fail
    refine (bfixed_any w5).mono ?_
    rintro r w6 ⟨rfl, bb⟩
    have hL := hL.below bb
    go_wp2_with fail
    go_ret
    exact ⟨rfl, below_kept hL.kz⟩
end Go.Proofs.YtgnahjadjgjecaaGreat
