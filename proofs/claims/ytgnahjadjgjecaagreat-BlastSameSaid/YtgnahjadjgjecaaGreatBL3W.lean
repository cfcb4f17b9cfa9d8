/- Walk of the law BlastSame. -/
import Derived.Test.YtgnahjadjgjecaaGreatBLawA
import Derived.Test.YtgnahjadjgjecaaGreatBRDif
set_option linter.unusedVariables false
set_option linter.unusedSimpArgs false
namespace Go.Proofs.YtgnahjadjgjecaaGreat
open Go.RowKit Go.Maps Go.MapKept Go.Deep Go.WideShapes

/-- An own row of numbers: its block, its cells. -/
theorem OwnI.at_ {B : Nat} {w : World} {v : Value} {l : List Int} (h : Own B 3 I64 w v l) (h0 : 0 < l.length) : ∃ g cur c, v = .slice (some ⟨g, 0, none⟩) l.length c ∧ B ≤ g ∧ w.heap[g]? = some (.cells cur 3 (0, 0)) ∧ ∀ k, k < l.length → w.cell? ⟨g, k, none⟩ = some (.int .i64 (l.getD k 0)) := by
  obtain ⟨A, c, rfl, _, _, _⟩ := (h.toSl 0).open_
  have hs := h.toSl 0
  obtain ⟨vs, h1, h2, h3⟩ := h
  rcases h2.2 with ⟨e, hn⟩ | ⟨g, cap, cur, e, hb, hh, _⟩
  · omega
  · injection e with e1 _ _
    subst e1
    refine ⟨g, cur, c, rfl, hb, hh, fun k hk => ?_⟩
    obtain ⟨b, off, u, e2, hc, hu⟩ := hs.at_ hk 0
    injection e2 with e2
    injection e2 with e3 e4 _
    subst e3 e4
    have hu : u = .int .i64 (l.getD k 0) := hu.1
    rw [hu, Nat.zero_add] at hc
    exact hc
theorem OwnI.set_any {B g : Nat} {w : World} {v : Value} {l : List Int} (h : Own B 3 I64 w v l) (m : Nat) : ∃ l', l'.length = l.length ∧ Own B 3 I64 (w.setCell ⟨g, m, none⟩ (.int .i64 1)) v l' := by
  by_cases hv : v.ownBlock = some g
  · obtain ⟨vs, h1, h2, h3⟩ := h
    rcases h2.2 with ⟨e, hn⟩ | ⟨g', cap, cur, e, hb, hh, hcc⟩
    · subst e
      cases hv
    · subst e
      have hv : some g' = some g := hv
      injection hv with hv
      subst hv
      refine ⟨l.set m 1, by simp, vs.set m (.int .i64 1), by simp [h1], by rw [List.length_set]; exact (World.ownsRow.stored h2 m (.int .i64 1)).1, fun i y hi => ?_⟩
      rw [List.getElem?_set] at hi ⊢
      by_cases hk : m = i
      · subst hk
        rw [if_pos rfl] at hi ⊢
        by_cases hl : m < l.length
        · rw [if_pos hl] at hi
          injection hi with hi
          subst hi
          rw [if_pos (by omega)]
          exact ⟨_, rfl, rfl, by omega, by omega⟩
        · rw [if_neg hl] at hi
          cases hi
      · rw [if_neg hk] at hi ⊢
        exact h3 i y hi
  · refine ⟨l, rfl, Own.blocks h (fun q hq => Below.heap_setCell w ⟨g, m, none⟩ _ q fun e1 => hv ?_) (fun _ _ h => h)⟩
    rw [hq]
    exact congrArg some e1
/-- One literal of the rows turns to 1: rows of the same lengths. -/
theorem Rows.set_one {B g : Nat} {w : World} {v : Value} {cs : List (List Int)} (h : Rows B w v cs) {cur : Array Value} (hg : w.heap[g]? = some (.cells cur 3 (0, 0))) (m : Nat) : ∃ cs', cs'.length = cs.length ∧ (∀ i, (cs'.getD i []).length = (cs.getD i []).length) ∧ Rows B (w.setCell ⟨g, m, none⟩ (.int .i64 1)) v cs' := by
  obtain ⟨vs, h1, h2, h3⟩ := h
  obtain ⟨f, hf⟩ := choose_lt (n := cs.length) (p := fun i (l' : List Int) => l'.length = (cs.getD i []).length ∧ ∃ u, vs[i]? = some u ∧ Own B 3 I64 (w.setCell ⟨g, m, none⟩ (.int .i64 1)) u l') (fun i hi => by
    obtain ⟨u, hu, ho⟩ := h3 i (cs.getD i []) (by simp [List.getD, hi])
    obtain ⟨l', e1, e2⟩ := OwnI.set_any (g := g) ho m
    exact ⟨l', e1, u, hu, e2⟩)
  refine ⟨(List.range cs.length).map f, by simp, fun i => ?_, vs, by simpa using h1, ?_, fun i y hi => ?_⟩
  · by_cases hi : i < cs.length
    · rw [← (hf i hi).1]
      simp [List.getD, hi]
    · simp [List.getD, List.getElem?_eq_none (by omega : cs.length ≤ i), hi]
  · rw [List.length_map, List.length_range]
    refine ⟨h2.1, ?_⟩
    rcases h2.2 with hl | ⟨g', cap, cur', e, hb, hh, r⟩
    · exact Or.inl hl
    · exact Or.inr ⟨g', cap, cur', e, hb, (Below.heap_setCell w ⟨g, m, none⟩ _ g' (fun e1 => type_ne hh hg (by decide) e1)).trans hh, r⟩
  · have hi' : i < cs.length := by have := (List.getElem?_eq_some_iff.1 hi).1; simpa using this
    have : y = f i := by simpa [hi'] using hi.symm
    subst this
    exact (hf i hi').2
theorem chkO_nil (ts : List Term) : chkO ts [] [] = 0 := rfl
theorem difP_same (ts : List Term) (x : Nat → Nat) (l : List Int) : difP ts x (prs l l) = false := difP_no fun _ _ => rfl
set_option maxRecDepth 100000 in
set_option maxHeartbeats 40000000 in
theorem blaw3_any (B : Nat) (e e1 e2 : TypeId) (vs va vb : Value) (xs : List SOp) (ax bx : List Int) (hf : ∀ x ∈ xs, x.Fits) (x : Nat → Nat) (hx : ∀ r, x r < 4294967296) (w : World) (hs : SlN B e 5 SOp.five w vs xs) (hva : Sl 0 e1 I64 w va ax) (hvb : Sl 0 e2 I64 w vb bx) :
    Calls Tryz.prog 5 #[.agg #[vs, va, vb], .agg (regB x)] w fun r w' => r = .returned (.bool true) ∧ Below w.heap.size w w' := by
  obtain ⟨A, c, rfl, _, _, _⟩ := hs.open_
  obtain ⟨A1, c1, rfl, _, _, _⟩ := hva.open_
  obtain ⟨A2, c2, rfl, _, _, _⟩ := hvb.open_
  go_enter Tryz.func5, Tryz.ntmps5
  have b2 : Below w.heap.size w ((w.alloc (.cells #[.slice A xs.length c, .slice A1 ax.length c1, .slice A2 bx.length c2] 25)).alloc (.cells (regB x) 27)) := ((Below.refl w.heap.size w).alloc (Nat.le_refl _) _).alloc (by simp) _
  have ya := blk_alloc (blk_new w (.cells #[.slice A xs.length c, .slice A1 ax.length c1, .slice A2 bx.length c2] 25)) (.cells (regB x) 27)
  have yr := blk_top (w := w.alloc (.cells #[.slice A xs.length c, .slice A1 ax.length c1, .slice A2 bx.length c2] 25)) (o := .cells (regB x) 27) (g := w.heap.size + 1) (by simp)
  have sz : ((w.alloc (.cells #[.slice A xs.length c, .slice A1 ax.length c1, .slice A2 bx.length c2] 25)).alloc (.cells (regB x) 27)).heap.size = w.heap.size + 2 := by simp
  have hL := blaid_any B e e1 e2 _ _ _ xs ax bx hf _ (hs.below b2) (Sl.later hva b2) (Sl.later hvb b2)
  go_wp2_with fail
  generalize ((w.alloc (.cells #[.slice A xs.length c, .slice A1 ax.length c1, .slice A2 bx.length c2] 25)).alloc (.cells (regB x) 27)) = w1 at *
  refine hL.mono ?_
  rintro r w2 ⟨d, k, ts, vs', va', vb', rfl, hB, hG, hfew, hK, ov, cva, cvb⟩
  have yo : (#[vs', va', vb'] : Array Value).all (·.oneCell') = true := by simp [Array.all, ov, cva.1, cvb.1]
  have ha' := cva.2 _ _ _ hva
  have hb' := cvb.2 _ _ _ hvb
  have ya := hK.blk (show w.heap.size < w1.heap.size by omega) ya
  have yr := hK.blk (show w.heap.size + 1 < w1.heap.size by omega) yr
  have ks := row_kept w2 w.heap.size #[vs', va', vb']
  have hL : LAt w w.heap.size (w.heap.size + 1) vs' va' vb' x d k ts (w2.setRow w.heap.size #[vs', va', vb']) := by
    refine ⟨(Kept.below b2).trans ((hK.mono fun i hi => (show i < w1.heap.size by omega)).trans (ks.mono fun i hi => (show i ≠ w.heap.size by omega))), setRow_heap _ _ _ _ _ _ ya, ks.blk (show w.heap.size + 1 ≠ w.heap.size by omega) yr, ?_⟩
    rw [← sz]
    exact hB.moved ks (show w.heap.size < w1.heap.size by omega)
  clear hK hB cva cvb hs hva hvb ks yr b2 sz
  have la : (ax.take 6).length ≤ 6 := List.length_take_le _ _
  have lb : (bx.take 6).length ≤ 6 := List.length_take_le _ _
  generalize ax.take 6 = ay at *
  generalize bx.take 6 = by_ at *
  obtain ⟨c1, c2⟩ : (w2.setRow w.heap.size #[vs', va', vb']).cell? ⟨w.heap.size, 1, none⟩ = some va' ∧ (w2.setRow w.heap.size #[vs', va', vb']).cell? ⟨w.heap.size, 2, none⟩ = some vb' := ⟨(cell_of hL.ya 1).trans rfl, (cell_of hL.ya 2).trans rfl⟩
  go_wp2_with (first | (refine wpList_store_row rfl 25 (.tmp 2) (.tmp 20) rfl w.heap.size #[vs', va', vb'] rfl rfl 25 _ ya (by kernel_rfl) rfl yo ?_) | fail)
  clear ya
  generalize w2.setRow w.heap.size #[vs', va', vb'] = w3 at *
  clear c1 c2
  obtain ⟨Kd, hD⟩ := hL.dag
  by_cases hc0 : chkO ts ay ay = 0
  · refine (dif_any Kd (fun i => i < w3.heap.size) d ts hG (by omega) ay ay (by omega) (by omega) va' va' e1 e1 w3 (fun i hi => hi) (hL.sl ha') (hL.sl ha') hD hc0).mono ?_
    rintro r w4 ⟨q, gs, sx, rfl, ⟨hQ, hok, b4⟩⟩
    have hL := hL.below b4
    clear hD b4
    have hL4 := hL
    have hQ4 := hQ
    have hC := cnf_any (fun i => i < w3.heap.size) q gs _ hok.clen hok.rows w4 hQ
    go_wp2_with fail
    refine hC.mono ?_
    rintro r w5 ⟨vC, rfl, rC, bb⟩
    obtain ⟨A9, c9, rfl, _, l92, _⟩ := (Own.toSl rC 0).open_
    have yc := blk_new w5 (.cells #[.int .i64 ((gs.length : Int) + 1), .slice A9 (queryC gs sx).length c9] 40)
    have bx := (Below.refl w5.heap.size w5).alloc (Nat.le_refl _) (.cells #[.int .i64 ((gs.length : Int) + 1), .slice A9 (queryC gs sx).length c9] 40)
    have bW := below_then bb bx
    have rC := Rows.later rC bx
    have hBc : w4.heap.size ≤ w4.heap.size := Nat.le_refl _
    clear hC bx
    clear hL hQ
    have q91 : (queryC gs sx).length ≤ 9223372036854775807 := by unfold maxLen at l92; omega
    have hgl := hok.glen
    have hln : ∀ i, ((queryC gs sx).getD i []).length = ((queryC gs sx).getD i []).length := fun _ => rfl
    have HL := Lib.hid (And.intro (rfl : (queryC gs sx).length = (queryC gs sx).length) hln)
    have hrows := hok.rows
    have HR := Lib.hid (fun i => (show ((queryC gs sx).getD i []).length ≤ 1000000 from by
      by_cases hi : i < (queryC gs sx).length
      · exact Nat.le_of_lt (hrows _ (getD_mem hi []))
      · simp [List.getD, List.getElem?_eq_none (by omega : (queryC gs sx).length ≤ i)]))
    clear hln hrows
    generalize hcs0 : queryC gs sx = cs0 at *
    have HC0 := Lib.hid hcs0
    clear hcs0
    go_wp2_with fail
    generalize w5.alloc (.cells #[.int .i64 ((gs.length : Int) + 1), .slice A9 cs0.length c9] 40) = wc at *
    generalize hg3 : w5.heap.size = g3 at *
    clear hg3 bb
    go_loopw [11, 12] (fun i _ wr => ∃ (j : Nat) (cs : List (List Int)), j ≤ cs0.length ∧ i = .int .i64 j ∧ Below w4.heap.size w4 wr ∧ wr.heap[g3]? = some (.cells #[.int .i64 ((gs.length : Int) + 1), .slice A9 cs0.length c9] 40 (0, 0)) ∧ Hid (cs.length = cs0.length ∧ ∀ i, (cs.getD i []).length = (cs0.getD i []).length) ∧ Rows w4.heap.size wr (.slice A9 cs0.length c9) cs) (fun i _ _ => cs0.length - (Go.RowKit.intOf i).toNat)
    case atStart => exact ⟨0, cs0, Nat.zero_le _, rfl, bW, yc, Lib.hid ⟨rfl, fun _ => rfl⟩, rC⟩
    case round =>
      clear bW yc rC
      obtain ⟨j, cs, hj, rfl, bW, yc, HL, rC⟩ := hrel
      obtain ⟨d0, d1⟩ : wr.cell? ⟨g3, 0, none⟩ = some (.int .i64 ((gs.length : Int) + 1)) ∧ wr.cell? ⟨g3, 1, none⟩ = some (.slice A9 cs0.length c9) := ⟨(cell_of yc 0).trans rfl, (cell_of yc 1).trans rfl⟩
      by_cases hlt : j < cs0.length
      · have hlt' : (j : Int) < cs0.length := by omega
        obtain ⟨m0, hm0⟩ : ∃ m0, (cs0.getD j []).length = m0 := ⟨_, rfl⟩
        have hm1 := HR.out j
        rw [hm0] at hm1
        have HM := Lib.hid hm0
        clear hm0
        go_wp2_with fail
        obtain ⟨wo, rfl⟩ : ∃ wo, wo = wr := ⟨_, rfl⟩
        go_loopw [12] (fun i wr => ∃ (m : Nat) (cs : List (List Int)), m ≤ m0 ∧ i = .int .i64 m ∧ Below w4.heap.size w4 wr ∧ wr.heap[g3]? = some (.cells #[.int .i64 ((gs.length : Int) + 1), .slice A9 cs0.length c9] 40 (0, 0)) ∧ Hid (cs.length = cs0.length ∧ ∀ i, (cs.getD i []).length = (cs0.getD i []).length) ∧ Rows w4.heap.size wr (.slice A9 cs0.length c9) cs) (fun i _ => m0 - (Go.RowKit.intOf i).toNat)
        case atStart => exact ⟨0, cs, Nat.zero_le _, rfl, bW, yc, HL, rC⟩
        case round =>
          clear bW yc rC d0 d1 HL
          obtain ⟨m, cs, hm, rfl, bW, yc, HL, rC⟩ := hrel
          obtain ⟨d0, d1⟩ : wr.cell? ⟨g3, 0, none⟩ = some (.int .i64 ((gs.length : Int) + 1)) ∧ wr.cell? ⟨g3, 1, none⟩ = some (.slice A9 cs0.length c9) := ⟨(cell_of yc 0).trans rfl, (cell_of yc 1).trans rfl⟩
          have hcl := HL.out.1
          have hrl : (cs.getD j []).length = m0 := by rw [HL.out.2 j]; exact HM.out
          have rC' := rC
          obtain ⟨A7, c7, e7, _, _, _⟩ := (Own.toSl rC' 0).open_
          have hcell := (Own.toSl rC 0).at_ (show j < cs.length by omega) []
          obtain ⟨bb, off, u, eA, hc1, hu⟩ := hcell
          subst eA
          clear rC' e7
          by_cases hml : m < m0
          · have hml' : (m : Int) < m0 := by omega
            obtain ⟨g, cur, c7, e7, hgB, hgb, hgc⟩ := OwnI.at_ hu (by omega)
            rw [hrl] at e7
            subst e7
            have hgm := hgc m (by omega)
            have hfz := frozen_of hgb m
            obtain ⟨cs2, hl1, hl2, rC2⟩ := Rows.set_one rC hgb m
            have HL2 := Lib.hid (And.intro (hl1.trans hcl) (fun i => (hl2 i).trans (HL.out.2 i)))
            have bW2 := below_set bW (show w4.heap.size ≤ g by omega) m (.int .i64 1)
            have yc2 : (wr.setCell ⟨g, m, none⟩ (.int .i64 1)).heap[g3]? = _ := (Below.heap_setCell wr ⟨g, m, none⟩ _ g3 (fun e => type_ne yc hgb (by decide) e)).trans yc
            clear hl1 hl2 hcl hrl hgc hu
            go_wp2_with fail
            go_roundw
            case rel => exact ⟨m + 1, cs2, by omega, by go_num, bW2, yc2, HL2, rC2⟩
            case measure => simp [Go.RowKit.intOf]; omega
          · have hml' : ¬ (m : Int) < m0 := by omega
            obtain ⟨A6, c6, e6, _, _, _⟩ := (Own.toSl hu 0).open_
            rw [hrl] at e6
            subst e6
            clear hcl hrl hu
            go_wp2_with fail
            go_roundw
            case rel => exact ⟨j + 1, cs, by omega, by go_num, bW, yc, HL, rC⟩
            case measure => simp [Go.RowKit.intOf]; omega
      · have hlt' : ¬ (j : Int) < cs0.length := by omega
        have hL := hL4.below bW
        have hQ := QAt.below hQ4 bW
        obtain ⟨Kd2, hD⟩ := hL.dag
        clear yc rC bW HL HR
        go_wp2_with fail
        refine (dif_any Kd2 (fun i => i < wr.heap.size) d ts hG (by omega) [] [] (by simp) (by simp) (.slice none 0 0) (.slice none 0 0) 3 3 wr (fun i hi => hi) Sl.nil_ Sl.nil_ hD (chkO_nil ts)).mono ?_
        rintro r w5 ⟨q2, gs2, sx2, rfl, ⟨hQ2, hok2, b4⟩⟩
        have hL := hL.below b4
        have hQ := QAt.below hQ b4
        clear b4 hD d0 d1
        have hcs0 := HC0.out
        subst hcs0
        go_upto_region 16 with fail
        have bd : Below w5.heap.size w5 w5.drew := below_drewN (Below.refl _ _) 1
        have hL := hL.below bd
        have hQ := QAt.below hQ bd
        have hQ2 := QAt.below hQ2 bd
        clear bd
        refine wp_region_any (by kernel_rfl) (wpAny_of_held (S := fun w' => w'.rangeAt (w.heap.size + 1) 0 (regB x).toList) _ _ _ _ ?_)
        change wpAnyH _ _ _ _ _ 28 _ _ w5.drew
        generalize w5.drew = v0 at *
        have hSd : v0.rangeAt (w.heap.size + 1) 0 (regB x).toList := range_row hL.yr
        refine wpAnyH_val (i := 0) (v := (.pointer (some ⟨q, 0, none⟩))) (some 75) rfl rfl (by kernel_rfl) (by kernel_rfl) (by kernel_rfl) (fun _ _ _ h => h) (Or.inl ⟨by kernel_rfl, fun w9 hw9 => by kernel_rfl⟩) hSd ?_
        refine wpAnyH_val (i := 2) (v := (.pointer (some ⟨q, 0, none⟩))) (some 77) rfl rfl (by kernel_rfl) (by kernel_rfl) (by kernel_rfl) (fun _ _ _ h => h) (Or.inl ⟨by kernel_rfl, fun w9 hw9 => by kernel_rfl⟩) hSd ?_
        refine wpAnyH_val (i := 3) (v := (.agg (regB x))) (some 78) rfl rfl (by kernel_rfl) (by kernel_rfl) (by kernel_rfl) (fun _ _ _ h => h) (yieldsIf_load_mid (by kernel_rfl) 27 (.tmp 3) rfl (w.heap.size + 1) 0 (by kernel_rfl) (regB x).toList _ (fun w hw => hw) Tryz.underlying27 rfl (by rw [Array.length_toList, regB_size]; exact info_regs)) hSd ?_
        have hT := cnf_any (fun i => i < w3.heap.size) q gs _ hok.clen hok.rows v0 hQ
        refine wpAnyH_call (i := 1) (f := 12) (some 76) rfl rfl (by kernel_rfl) (by kernel_rfl) (by kernel_rfl) (Calls.mono (hT) ?_)
        rintro rr v1 ⟨vC1, rfl, rC1, bb⟩
        have hL := hL.below bb
        have hQ := QAt.below hQ bb
        have hQ2 := QAt.below hQ2 bb
        have hSd : v1.rangeAt (w.heap.size + 1) 0 (regB x).toList := range_row hL.yr
        refine ⟨_, rfl, hSd, ?_⟩
        clear hT bb
        have hT := values_any (fun i => i < w3.heap.size) q gs _ hok.q.good (by have := hok.glen; omega) x hx v1 hQ
        refine wpAnyH_call (i := 4) (f := 13) (some 79) rfl rfl (by kernel_rfl) (by kernel_rfl) (by kernel_rfl) (Calls.mono (hT) ?_)
        rintro rr v2 ⟨vV1, rfl, oV1, bb⟩
        have hL := hL.below bb
        have hQ := QAt.below hQ bb
        have hQ2 := QAt.below hQ2 bb
        have rC1 := Rows.later rC1 bb
        have hSd : v2.rangeAt (w.heap.size + 1) 0 (regB x).toList := range_row hL.yr
        refine ⟨_, rfl, hSd, ?_⟩
        clear hT bb
        have hT := ctrue_any 0 _ ((gs.length : Int) + 1) (vals x gs) (by rw [vals_len]; have := hok.glen; omega) vV1 vC1 _ hok.litsOk v2 rC1 (oV1.toSl 0)
        rw [hok.all hx, difP_same] at hT
        refine wpAnyH_call (i := 5) (f := 20) (some 80) rfl rfl (by kernel_rfl) (by kernel_rfl) (by kernel_rfl) (Calls.mono (hT) ?_)
        rintro rr v3 ⟨rfl, bb⟩
        have hL := hL.below bb
        have hQ := QAt.below hQ bb
        have hQ2 := QAt.below hQ2 bb
        have rC1 := Rows.later rC1 bb
        have oV1 := OwnB.later oV1 bb
        have hSd : v3.rangeAt (w.heap.size + 1) 0 (regB x).toList := range_row hL.yr
        refine ⟨_, rfl, hSd, ?_⟩
        clear hT bb
        refine wpAnyH_val (i := 6) (v := (.bool true)) (some 81) rfl rfl (by kernel_rfl) (by kernel_rfl) (by kernel_rfl) (fun _ _ _ h => h) (Or.inl ⟨by kernel_rfl, fun w9 hw9 => by kernel_rfl⟩) hSd ?_
        refine wpAnyH_val (i := 7) (v := (.bool true)) (some 82) rfl rfl (by kernel_rfl) (by kernel_rfl) (by kernel_rfl) (fun _ _ _ h => h) (Or.inl ⟨by kernel_rfl, fun w9 hw9 => by kernel_rfl⟩) hSd ?_
        refine wpAnyH_val (i := 8) (v := (.int .i64 0)) (some 83) rfl rfl (by kernel_rfl) (by kernel_rfl) (by kernel_rfl) (fun _ _ _ h => h) (Or.inl ⟨by kernel_rfl, fun w9 hw9 => by kernel_rfl⟩) hSd ?_
        refine wpAnyH_val (i := 9) (v := (.bool true)) (some 84) rfl rfl (by kernel_rfl) (by kernel_rfl) (by kernel_rfl) (fun _ _ _ h => h) (Or.inl ⟨by kernel_rfl, fun w9 hw9 => by kernel_rfl⟩) hSd ?_
        refine wpAnyH_val (i := 10) (v := (.bool true)) (some 85) rfl rfl (by kernel_rfl) (by kernel_rfl) (by kernel_rfl) (fun _ _ _ h => h) (Or.inl ⟨by kernel_rfl, fun w9 hw9 => by kernel_rfl⟩) hSd ?_
        refine wpAnyH_val (i := 11) (v := (.bool true)) (some 86) rfl rfl (by kernel_rfl) (by kernel_rfl) (by kernel_rfl) (fun _ _ _ h => h) (Or.inl ⟨by kernel_rfl, fun w9 hw9 => by kernel_rfl⟩) hSd ?_
        refine wpAnyH_val (i := 12) (v := (.pointer (some ⟨q2, 0, none⟩))) (some 87) rfl rfl (by kernel_rfl) (by kernel_rfl) (by kernel_rfl) (fun _ _ _ h => h) (Or.inl ⟨by kernel_rfl, fun w9 hw9 => by kernel_rfl⟩) hSd ?_
        refine wpAnyH_val (i := 13) (v := (.bool true)) (some 88) rfl rfl (by kernel_rfl) (by kernel_rfl) (by kernel_rfl) (fun _ _ _ h => h) (Or.inl ⟨by kernel_rfl, fun w9 hw9 => by kernel_rfl⟩) hSd ?_
        refine wpAnyH_val (i := 14) (v := (.bool true)) (some 89) rfl rfl (by kernel_rfl) (by kernel_rfl) (by kernel_rfl) (fun _ _ _ h => h) (Or.inl ⟨by kernel_rfl, fun w9 hw9 => by kernel_rfl⟩) hSd ?_
        refine wpAnyH_val (i := 15) (v := (.bool true)) (some 90) rfl rfl (by kernel_rfl) (by kernel_rfl) (by kernel_rfl) (fun _ _ _ h => h) (Or.inl ⟨by kernel_rfl, fun w9 hw9 => by kernel_rfl⟩) hSd ?_
        refine wpAnyH_val (i := 16) (v := (.pointer (some ⟨q2, 0, none⟩))) (some 91) rfl rfl (by kernel_rfl) (by kernel_rfl) (by kernel_rfl) (fun _ _ _ h => h) (Or.inl ⟨by kernel_rfl, fun w9 hw9 => by kernel_rfl⟩) hSd ?_
        refine wpAnyH_val (i := 18) (v := (.pointer (some ⟨q2, 0, none⟩))) (some 93) rfl rfl (by kernel_rfl) (by kernel_rfl) (by kernel_rfl) (fun _ _ _ h => h) (Or.inl ⟨by kernel_rfl, fun w9 hw9 => by kernel_rfl⟩) hSd ?_
        refine wpAnyH_val (i := 19) (v := (.agg (regB x))) (some 94) rfl rfl (by kernel_rfl) (by kernel_rfl) (by kernel_rfl) (fun _ _ _ h => h) (yieldsIf_load_mid (by kernel_rfl) 27 (.tmp 3) rfl (w.heap.size + 1) 0 (by kernel_rfl) (regB x).toList _ (fun w hw => hw) Tryz.underlying27 rfl (by rw [Array.length_toList, regB_size]; exact info_regs)) hSd ?_
        have hT := cnf_any (fun i => i < wr.heap.size) q2 gs2 _ hok2.clen hok2.rows v3 hQ2
        refine wpAnyH_call (i := 17) (f := 12) (some 92) rfl rfl (by kernel_rfl) (by kernel_rfl) (by kernel_rfl) (Calls.mono (hT) ?_)
        rintro rr v4 ⟨vC2, rfl, rC2, bb⟩
        have hL := hL.below bb
        have hQ := QAt.below hQ bb
        have hQ2 := QAt.below hQ2 bb
        have rC1 := Rows.later rC1 bb
        have oV1 := OwnB.later oV1 bb
        have hSd : v4.rangeAt (w.heap.size + 1) 0 (regB x).toList := range_row hL.yr
        refine ⟨_, rfl, hSd, ?_⟩
        clear hT bb
        have hT := values_any (fun i => i < wr.heap.size) q2 gs2 _ hok2.q.good (by have := hok2.glen; omega) x hx v4 hQ2
        refine wpAnyH_call (i := 20) (f := 13) (some 95) rfl rfl (by kernel_rfl) (by kernel_rfl) (by kernel_rfl) (Calls.mono (hT) ?_)
        rintro rr v5 ⟨vV2, rfl, oV2, bb⟩
        have hL := hL.below bb
        have hQ := QAt.below hQ bb
        have hQ2 := QAt.below hQ2 bb
        have rC1 := Rows.later rC1 bb
        have oV1 := OwnB.later oV1 bb
        have rC2 := Rows.later rC2 bb
        have hSd : v5.rangeAt (w.heap.size + 1) 0 (regB x).toList := range_row hL.yr
        refine ⟨_, rfl, hSd, ?_⟩
        clear hT bb
        have hT := ctrue_any 0 _ ((gs2.length : Int) + 1) (vals x gs2) (by rw [vals_len]; have := hok2.glen; omega) vV2 vC2 _ hok2.litsOk v5 rC2 (oV2.toSl 0)
        rw [hok2.all hx, difP_same] at hT
        refine wpAnyH_call (i := 21) (f := 20) (some 96) rfl rfl (by kernel_rfl) (by kernel_rfl) (by kernel_rfl) (Calls.mono (hT) ?_)
        rintro rr v6 ⟨rfl, bb⟩
        have hL := hL.below bb
        have hQ := QAt.below hQ bb
        have hQ2 := QAt.below hQ2 bb
        have rC1 := Rows.later rC1 bb
        have oV1 := OwnB.later oV1 bb
        have rC2 := Rows.later rC2 bb
        have oV2 := OwnB.later oV2 bb
        have hSd : v6.rangeAt (w.heap.size + 1) 0 (regB x).toList := range_row hL.yr
        refine ⟨_, rfl, hSd, ?_⟩
        clear hT bb
        refine wpAnyH_val (i := 22) (v := (.bool true)) (some 97) rfl rfl (by kernel_rfl) (by kernel_rfl) (by kernel_rfl) (fun _ _ _ h => h) (Or.inl ⟨by kernel_rfl, fun w9 hw9 => by kernel_rfl⟩) hSd ?_
        refine wpAnyH_val (i := 23) (v := (.bool true)) (some 98) rfl rfl (by kernel_rfl) (by kernel_rfl) (by kernel_rfl) (fun _ _ _ h => h) (Or.inl ⟨by kernel_rfl, fun w9 hw9 => by kernel_rfl⟩) hSd ?_
        refine wpAnyH_val (i := 24) (v := (.bool true)) (some 99) rfl rfl (by kernel_rfl) (by kernel_rfl) (by kernel_rfl) (fun _ _ _ h => h) (Or.inl ⟨by kernel_rfl, fun w9 hw9 => by kernel_rfl⟩) hSd ?_
        have hT := bfixed_any v6
        refine wpAnyH_call (i := 25) (f := 11) (some 100) rfl rfl (by kernel_rfl) (by kernel_rfl) (by kernel_rfl) (Calls.mono (hT) ?_)
        rintro rr v7 ⟨rfl, bb⟩
        have hL := hL.below bb
        have hQ := QAt.below hQ bb
        have hQ2 := QAt.below hQ2 bb
        have rC1 := Rows.later rC1 bb
        have oV1 := OwnB.later oV1 bb
        have rC2 := Rows.later rC2 bb
        have oV2 := OwnB.later oV2 bb
        have hSd : v7.rangeAt (w.heap.size + 1) 0 (regB x).toList := range_row hL.yr
        refine ⟨_, rfl, hSd, ?_⟩
        clear hT bb
        refine wpAnyH_val (i := 26) (v := (.bool true)) (some 101) rfl rfl (by kernel_rfl) (by kernel_rfl) (by kernel_rfl) (fun _ _ _ h => h) (Or.inl ⟨by kernel_rfl, fun w9 hw9 => by kernel_rfl⟩) hSd ?_
        refine wpAnyH_val (i := 27) (v := (.bool true)) (some 4) rfl rfl (by kernel_rfl) (by kernel_rfl) (by kernel_rfl) (fun _ _ _ h => h) (Or.inl ⟨by kernel_rfl, fun w9 hw9 => by kernel_rfl⟩) hSd ?_
        refine wpAnyH_done (by kernel_rfl) ?_ _
        simp only [Act.put, List.setIfInBounds_toArray, List.set_cons_succ, List.set_cons_zero]
        go_wp2_with fail
        go_ret
        exact ⟨rfl, below_kept hL.kz⟩
  · have hN := differ_no Kd d ts hG (by omega) ay ay (by omega) (by omega) va' va' e1 e1 w3 (hL.sl ha') (hL.sl ha') hD hc0
    have hne : (chkO ts ay ay != 0) = true := by simpa using hc0
    generalize chkO ts ay ay = cc at *
    refine hN.mono ?_
    rintro r w4 ⟨rfl, bb⟩
    have hL := hL.below bb
    clear hN bb hD
    go_wp2_with fail
    refine (bfixed_any w4).mono ?_
    rintro r w7 ⟨rfl, bb⟩
    have hL := hL.below bb
    go_wp2_with fail
    go_ret
    exact ⟨rfl, below_kept hL.kz⟩
end Go.Proofs.YtgnahjadjgjecaaGreat
