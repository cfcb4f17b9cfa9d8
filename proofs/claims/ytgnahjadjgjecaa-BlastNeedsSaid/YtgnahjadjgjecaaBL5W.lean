/- Walk of the law BlastNeeds. -/
import Derived.Test.YtgnahjadjgjecaaBLawA
import Derived.Test.YtgnahjadjgjecaaBRNeed
set_option linter.unusedVariables false
set_option linter.unusedSimpArgs false
namespace Go.Proofs.Ytgnahjadjgjecaa
open Go.RowKit Go.Maps Go.MapKept

theorem neq_bool_exec {oi : Oper} {a : Act} {p : Bool} (x y : Operand) (t2 : TypeId) (ho : oi.op = .binOp .neq 4 x y t2) (hx : a.eval x = .bool p) (hy : a.eval y = .bool p) (w : World) : (execOp a.eval oi).run Try.prog w = .ok (.value (.bool false)) w := by
  unfold execOp
  simp only [ho, hx, hy]
  cases p <;> kernel_rfl
set_option maxRecDepth 100000 in
set_option maxHeartbeats 40000000 in
theorem blaw5_any (B : Nat) (e e1 e2 : TypeId) (vs va vb : Value) (xs : List SOp) (ax bx : List Int) (hf : ∀ x ∈ xs, x.Fits) (x : Nat → Nat) (hx : ∀ r, x r < 4294967296) (y : Nat → Nat) (hy : ∀ r, y r < 4294967296) (w : World) (hs : SlN B e 5 SOp.five w vs xs) (hva : Sl 0 e1 I64 w va ax) (hvb : Sl 0 e2 I64 w vb bx) :
    Calls Try.prog 3 #[.agg #[vs, va, vb], .agg (regB x), .agg (regB y)] w fun r w' => r = .returned (.bool true) ∧ Below w.heap.size w w' := by
  obtain ⟨A, c, rfl, _, _, _⟩ := hs.open_
  obtain ⟨A1, c1, rfl, _, _, _⟩ := hva.open_
  obtain ⟨A2, c2, rfl, _, _, _⟩ := hvb.open_
  go_enter Try.func3, Try.ntmps3
  have b2 : Below w.heap.size w (((w.alloc (.cells #[.slice A xs.length c, .slice A1 ax.length c1, .slice A2 bx.length c2] 25)).alloc (.cells (regB x) 27)).alloc (.cells (regB y) 27)) := (((Below.refl w.heap.size w).alloc (Nat.le_refl _) _).alloc (by simp) _).alloc (by simp; omega) _
  have ya := blk_alloc (blk_alloc (blk_new w (.cells #[.slice A xs.length c, .slice A1 ax.length c1, .slice A2 bx.length c2] 25)) (.cells (regB x) 27)) (.cells (regB y) 27)
  have yr := blk_alloc (blk_top (w := w.alloc (.cells #[.slice A xs.length c, .slice A1 ax.length c1, .slice A2 bx.length c2] 25)) (o := .cells (regB x) 27) (g := w.heap.size + 1) (by simp)) (.cells (regB y) 27)
  have yy := blk_top (w := (w.alloc (.cells #[.slice A xs.length c, .slice A1 ax.length c1, .slice A2 bx.length c2] 25)).alloc (.cells (regB x) 27)) (o := .cells (regB y) 27) (g := w.heap.size + 2) (by simp)
  have sz : (((w.alloc (.cells #[.slice A xs.length c, .slice A1 ax.length c1, .slice A2 bx.length c2] 25)).alloc (.cells (regB x) 27)).alloc (.cells (regB y) 27)).heap.size = w.heap.size + 3 := by simp
  have hL := blaid_any B e e1 e2 _ _ _ xs ax bx hf _ (hs.below b2) (Sl.later hva b2) (Sl.later hvb b2)
  go_wp2_with fail
  generalize (((w.alloc (.cells #[.slice A xs.length c, .slice A1 ax.length c1, .slice A2 bx.length c2] 25)).alloc (.cells (regB x) 27)).alloc (.cells (regB y) 27)) = w1 at *
  refine hL.mono ?_
  rintro r w2 ⟨d, k, ts, vs', va', vb', rfl, hB, hG, hfew, hK, ov, cva, cvb⟩
  have yo : (#[vs', va', vb'] : Array Value).all (·.oneCell') = true := by simp [Array.all, ov, cva.1, cvb.1]
  have ha' := cva.2 _ _ _ hva
  have hb' := cvb.2 _ _ _ hvb
  have ya := hK.blk (show w.heap.size < w1.heap.size by omega) ya
  have yr := hK.blk (show w.heap.size + 1 < w1.heap.size by omega) yr
  have yy := hK.blk (show w.heap.size + 2 < w1.heap.size by omega) yy
  have ks := row_kept w2 w.heap.size #[vs', va', vb']
  have yy := ks.blk (show w.heap.size + 2 ≠ w.heap.size by omega) yy
  have z2 : w.heap.size + 3 ≤ w2.heap.size := by have := hK.size; omega
  have hL : LAt w w.heap.size (w.heap.size + 1) vs' va' vb' x d k ts (w2.setRow w.heap.size #[vs', va', vb']) := by
    refine ⟨(Kept.below b2).trans ((hK.mono fun i hi => (show i < w1.heap.size by omega)).trans (ks.mono fun i hi => (show i ≠ w.heap.size by omega))), setRow_heap _ _ _ _ _ _ ya, ks.blk (show w.heap.size + 1 ≠ w.heap.size by omega) yr, ?_⟩
    exact (hB.moved ks (show w.heap.size < w1.heap.size by omega)).mono fun i hi => (show i < w1.heap.size by omega)
  clear hK hB cva cvb hs hva hvb ks yr b2 sz
  have la : (ax.take 6).length ≤ 6 := List.length_take_le _ _
  have lb : (bx.take 6).length ≤ 6 := List.length_take_le _ _
  generalize ax.take 6 = ay at *
  generalize bx.take 6 = by_ at *
  obtain ⟨c1, c2⟩ : (w2.setRow w.heap.size #[vs', va', vb']).cell? ⟨w.heap.size, 1, none⟩ = some va' ∧ (w2.setRow w.heap.size #[vs', va', vb']).cell? ⟨w.heap.size, 2, none⟩ = some vb' := ⟨(cell_of hL.ya 1).trans rfl, (cell_of hL.ya 2).trans rfl⟩
  go_wp2_with (first | (refine wpList_store_row rfl 25 (.tmp 3) (.tmp 22) rfl w.heap.size #[vs', va', vb'] rfl rfl 25 _ ya (by kernel_rfl) rfl yo ?_) | fail)
  clear ya
  generalize w2.setRow w.heap.size #[vs', va', vb'] = w3 at *
  clear c1 c2
  have z3 : w.heap.size + 2 < w3.heap.size := (Array.getElem?_eq_some_iff.1 yy).1
  obtain ⟨Kd, hD⟩ := hL.dag
  by_cases hc0 : chkO ts ay by_ = 0
  · refine (dif_any Kd (fun i => i < w3.heap.size) d ts hG (by omega) ay by_ (by omega) (by omega) va' vb' e1 e2 w3 (fun i hi => hi) (hL.sl ha') (hL.sl hb') hD hc0).mono ?_
    rintro r w4 ⟨q, gs, sx, rfl, ⟨hQ, hok, b4⟩⟩
    have hL := hL.below b4
    have yy := blk_below yy b4
    clear hD b4
    obtain ⟨hlen, hin, _⟩ := chk_ok hc0
    have hia : ∀ n, n ∈ ay → inR n ts.length = true := fun n hn => hin n (List.mem_append_left _ hn)
    have hib : ∀ n, n ∈ by_ → inR n ts.length = true := fun n hn => hin n (List.mem_append_right _ hn)
    have hmm : (needL ts ay ||| needL ts by_) < 4294967296 := Nat.or_lt_two_pow (n := 32) (needL_lt hG ay hia) (needL_lt hG by_ hib)
    go_upto_region 7 with fail
    go_cut [12] from 46 to 54 (fun p wx => p = .int .u32 ((needL ts ay ||| needL ts by_ : Nat) : Int) ∧ LAt w w.heap.size (w.heap.size + 1) vs' va' vb' x d k ts wx ∧ QAt (fun i => i < w3.heap.size) wx q gs (queryC gs sx) ∧ wx.heap[w.heap.size + 2]? = some (.cells (regB y) 27 (0, 0)))
    case first =>
      have bd : Below w4.heap.size w4 w4.drew := below_drewN (Below.refl _ _) 1
      have hL := hL.below bd
      have hQ := QAt.below hQ bd
      have yy := blk_below yy bd
      clear bd
      refine wp_region_any (by kernel_rfl) (wpAny_of_held (S := fun w' => w'.rangeAt w.heap.size 0 [vs', va', vb']) _ _ _ _ ?_)
      change wpAnyH _ _ _ _ _ 10 _ _ w4.drew
      generalize w4.drew = v0 at *
      have hSd : v0.rangeAt w.heap.size 0 [vs', va', vb'] := range_row hL.ya
      refine wpAnyH_val (i := 0) (v := (.pointer (some ⟨k, 0, none⟩))) (some 46) rfl rfl (by kernel_rfl) (by kernel_rfl) (by kernel_rfl) (fun _ _ _ h => h) (Or.inl ⟨by kernel_rfl, fun w9 hw9 => by kernel_rfl⟩) hSd ?_
      refine wpAnyH_val (i := 1) (v := (.pointer (some ⟨w.heap.size, 1, none⟩))) (some 47) rfl rfl (by kernel_rfl) (by kernel_rfl) (by kernel_rfl) (fun _ _ _ h => h) (Or.inl ⟨by kernel_rfl, fun w9 hw9 => by kernel_rfl⟩) hSd ?_
      refine wpAnyH_val (i := 2) (v := va') (some 48) rfl rfl (by kernel_rfl) (by kernel_rfl) (by kernel_rfl) (fun _ _ _ h => h) (yieldsIf_cell (by kernel_rfl) 23 (.tmp 47) rfl (w.heap.size) 1 (by kernel_rfl) va' (fun w => by kernel_rfl) (fun w hw => range_cell (i := 1) hw rfl)) hSd ?_
      refine wpAnyH_val (i := 4) (v := (.pointer (some ⟨k, 0, none⟩))) (some 50) rfl rfl (by kernel_rfl) (by kernel_rfl) (by kernel_rfl) (fun _ _ _ h => h) (Or.inl ⟨by kernel_rfl, fun w9 hw9 => by kernel_rfl⟩) hSd ?_
      refine wpAnyH_val (i := 5) (v := (.pointer (some ⟨w.heap.size, 2, none⟩))) (some 51) rfl rfl (by kernel_rfl) (by kernel_rfl) (by kernel_rfl) (fun _ _ _ h => h) (Or.inl ⟨by kernel_rfl, fun w9 hw9 => by kernel_rfl⟩) hSd ?_
      refine wpAnyH_val (i := 6) (v := vb') (some 52) rfl rfl (by kernel_rfl) (by kernel_rfl) (by kernel_rfl) (fun _ _ _ h => h) (yieldsIf_cell (by kernel_rfl) 23 (.tmp 51) rfl (w.heap.size) 2 (by kernel_rfl) vb' (fun w => by kernel_rfl) (fun w hw => range_cell (i := 2) hw rfl)) hSd ?_
      have hT : Calls Try.prog 7 #[.pointer (some ⟨k, 0, none⟩), va'] v0 (fun r w' => r = .returned (.int .u32 (needL ts ay : Nat)) ∧ Below v0.heap.size v0 w') := by
        obtain ⟨vl, hR⟩ := hL.ref
        exact rneeds_any k vl ts hG (by omega) ay (by omega) hia (vr_lt hG) (needL_lts hG ay hia) va' e1 v0 (hL.sl ha') hR
      refine wpAnyH_call (i := 3) (f := 7) (some 49) rfl rfl (by kernel_rfl) (by kernel_rfl) (by kernel_rfl) (Calls.mono (hT) ?_)
      rintro rr v1 ⟨rfl, bb⟩
      have hL := hL.below bb
      have hQ := QAt.below hQ bb
      have yy := blk_below yy bb
      have hSd : v1.rangeAt w.heap.size 0 [vs', va', vb'] := range_row hL.ya
      refine ⟨_, rfl, hSd, ?_⟩
      clear hT bb
      have hT : Calls Try.prog 7 #[.pointer (some ⟨k, 0, none⟩), vb'] v1 (fun r w' => r = .returned (.int .u32 (needL ts by_ : Nat)) ∧ Below v1.heap.size v1 w') := by
        obtain ⟨vl, hR⟩ := hL.ref
        exact rneeds_any k vl ts hG (by omega) by_ (by omega) hib (vr_lt hG) (needL_lts hG by_ hib) vb' e2 v1 (hL.sl hb') hR
      refine wpAnyH_call (i := 7) (f := 7) (some 53) rfl rfl (by kernel_rfl) (by kernel_rfl) (by kernel_rfl) (Calls.mono (hT) ?_)
      rintro rr v2 ⟨rfl, bb⟩
      have hL := hL.below bb
      have hQ := QAt.below hQ bb
      have yy := blk_below yy bb
      have hSd : v2.rangeAt w.heap.size 0 [vs', va', vb'] := range_row hL.ya
      refine ⟨_, rfl, hSd, ?_⟩
      clear hT bb
      refine wpAnyH_val (i := 8) (v := (.int .u32 ((needL ts ay ||| needL ts by_ : Nat) : Int))) (some 54) rfl rfl (by kernel_rfl) (by kernel_rfl) (by kernel_rfl) (fun _ _ _ h => h) (Or.inl ⟨by kernel_rfl, fun w9 hw9 => or_exec (m := needL ts ay) (n := needL ts by_) (.tmp 49) (.tmp 53) 26 26 rfl (by kernel_rfl) (by kernel_rfl) (needL_lt hG ay hia) (needL_lt hG by_ hib) w9⟩) hSd ?_
      refine wpAnyH_val (i := 9) (v := (.int .u32 ((needL ts ay ||| needL ts by_ : Nat) : Int))) (some 12) rfl rfl (by kernel_rfl) (by kernel_rfl) (by kernel_rfl) (fun _ _ _ h => h) (Or.inl ⟨by kernel_rfl, fun w9 hw9 => by kernel_rfl⟩) hSd ?_
      refine wpAnyH_done (by kernel_rfl) ?_ _
      simp only [Act.put, List.setIfInBounds_toArray, List.set_cons_succ, List.set_cons_zero]
      go_wp2_with fail
      go_meet
      exact ⟨rfl, hL, hQ, yy⟩
    case rest =>
    obtain ⟨rfl, hL, hQ, yy⟩ := hcut
    have hok1 := hok.q
    have hmask := fun r => needL_prs (ts := ts) hlen r
    generalize (needL ts ay ||| needL ts by_) = m at *
    go_wp2_with fail
    obtain ⟨wn, rfl⟩ : ∃ wn, wn = wc := ⟨_, rfl⟩
    go_loopw [13] (fun i wr => ∃ j : Nat, j ≤ 32 ∧ i = .int .i64 j ∧ wr.heap[w.heap.size + 2]? = some (.cells (regB fun r => if r < j then (if m.testBit r = true then x r else y r) else y r) 27 (0, 0)) ∧ Kept (fun i => i ≠ w.heap.size + 2) wn wr) (fun i _ => 32 - (Go.RowKit.intOf i).toNat)
    case atStart => exact ⟨0, by omega, rfl, by simpa using yy, Kept.refl _ _⟩
    case round =>
      clear yy
      obtain ⟨j, hj, rfl, yy, hk⟩ := hrel
      have yr := hk.blk (show w.heap.size + 1 ≠ w.heap.size + 2 by omega) hL.yr
      by_cases hlt : j < 32
      · have hlt' : (j : Int) < 32 := by omega
        have hbit := bit_low (m := m) (r := j) hmm
        cases hmb : m.testBit j with
        | false =>
          rw [if_neg (by rw [hmb]; decide)] at hbit
          have hX2 : wr.heap[w.heap.size + 2]? = some (.cells (regB fun r => if r < j + 1 then (if m.testBit r = true then x r else y r) else y r) 27 (0, 0)) := by
            rw [yy]
            congr 2
            apply regB_ext
            intro r hr
            by_cases h1 : r < j
            · rw [if_pos h1, if_pos (show r < j + 1 by omega)]
            · rw [if_neg h1]
              by_cases h2 : r = j
              · rw [if_pos (show r < j + 1 by omega), h2, if_neg (by rw [hmb]; decide)]
              · rw [if_neg (show ¬ r < j + 1 by omega)]
          have HX := Lib.hid hX2
          clear yy hX2 yr
          go_wp2_with fail
          go_roundw
          case rel => exact ⟨j + 1, by omega, by go_num, HX.out, hk⟩
          case measure => simp [Go.RowKit.intOf]; omega
        | true =>
          rw [if_pos hmb] at hbit
          have hrf := frozen_of yy j
          have hry := regB_cell yy hlt
          have hrx := regB_cell yr hlt
          have hX1 := blk_set yy j (.int .u32 ((x j : Nat) : Int))
          rw [regB_set] at hX1
          have hX2 : (wr.setCell ⟨w.heap.size + 2, j, none⟩ (.int .u32 (x j : Int))).heap[w.heap.size + 2]? = some (.cells (regB fun r => if r < j + 1 then (if m.testBit r = true then x r else y r) else y r) 27 (0, 0)) := by
            refine hX1.trans ?_
            congr 2
            apply regB_ext
            intro r hr
            by_cases h2 : r = j
            · rw [if_pos h2, if_pos (show r < j + 1 by omega), h2, if_pos hmb]
            · rw [if_neg h2]
              by_cases h1 : r < j
              · rw [if_pos h1, if_pos (show r < j + 1 by omega)]
              · rw [if_neg h1, if_neg (show ¬ r < j + 1 by omega)]
          have HX := Lib.hid hX2
          have hk2 := hk.trans (qset wr (w.heap.size + 2) j (.int .u32 (x j : Int)))
          clear hX1 hX2 yy yr
          go_wp2_with fail
          go_roundw
          case rel => exact ⟨j + 1, by omega, by go_num, HX.out, hk2⟩
          case measure => simp [Go.RowKit.intOf]; omega
      · have hlt' : ¬ (j : Int) < 32 := by omega
        obtain rfl : j = 32 := by omega
        have yz : wr.heap[w.heap.size + 2]? = some (.cells (regB fun r => if m.testBit r = true then x r else y r) 27 (0, 0)) := by rw [yy, regB_ext (x := fun r => if r < 32 then (if m.testBit r = true then x r else y r) else y r) (y := fun r => if m.testBit r = true then x r else y r) (fun r hr => if_pos hr)]
        have hQ := QAt.moved hQ hk z3
        have kz := hL.kz.trans (hk.mono (K' := fun i => i < w.heap.size) fun i hi => by omega)
        clear yy hL hk
        have hsame : vals x gs = vals (fun r => if m.testBit r = true then x r else y r) gs := hok.q.same fun r hr => by
          rw [if_pos (by rw [hmask r]; exact hr)]
        have hyz : ∀ r, (fun r => if m.testBit r = true then x r else y r) r < 4294967296 := fun r => by
          dsimp only
          split
          · exact hx r
          · exact hy r
        generalize (fun r => if m.testBit r = true then x r else y r) = z at *
        go_upto_region 13 with fail
        go_cut [14, 15] from 69 to 74 (fun p p' wx => BitsB 0 wx p (vals x gs) ∧ BitsB 0 wx p' (vals x gs) ∧ Kept (fun i => i < w.heap.size) w wx)
        case first =>
          have bd : Below wr.heap.size wr wr.drew := below_drewN (Below.refl _ _) 1
          have hQ := QAt.below hQ bd
          have yr := blk_below yr bd
          have yz := blk_below yz bd
          have kz := kz.trans (Kept.below bd)
          clear bd
          refine wp_region_any (by kernel_rfl) (wpAny_of_held (S := fun w' => w'.rangeAt (w.heap.size + 1) 0 (regB x).toList ∧ w'.rangeAt (w.heap.size + 2) 0 (regB z).toList) _ _ _ _ ?_)
          change wpAnyH _ _ _ _ _ 8 _ _ wr.drew
          generalize wr.drew = v0 at *
          have hSd : v0.rangeAt (w.heap.size + 1) 0 (regB x).toList ∧ v0.rangeAt (w.heap.size + 2) 0 (regB z).toList := ⟨range_row yr, range_row yz⟩
          refine wpAnyH_val (i := 0) (v := (.pointer (some ⟨q, 0, none⟩))) (some 69) rfl rfl (by kernel_rfl) (by kernel_rfl) (by kernel_rfl) (fun _ _ _ h => h) (Or.inl ⟨by kernel_rfl, fun w9 hw9 => by kernel_rfl⟩) hSd ?_
          refine wpAnyH_val (i := 1) (v := (.agg (regB x))) (some 70) rfl rfl (by kernel_rfl) (by kernel_rfl) (by kernel_rfl) (fun _ _ _ h => h) (yieldsIf_load_mid (by kernel_rfl) 27 (.tmp 4) rfl (w.heap.size + 1) 0 (by kernel_rfl) (regB x).toList _ (fun w hw => hw.1) Try.underlying27 rfl (by rw [Array.length_toList, regB_size]; exact info_regs)) hSd ?_
          refine wpAnyH_val (i := 3) (v := (.pointer (some ⟨q, 0, none⟩))) (some 72) rfl rfl (by kernel_rfl) (by kernel_rfl) (by kernel_rfl) (fun _ _ _ h => h) (Or.inl ⟨by kernel_rfl, fun w9 hw9 => by kernel_rfl⟩) hSd ?_
          refine wpAnyH_val (i := 4) (v := (.agg (regB z))) (some 73) rfl rfl (by kernel_rfl) (by kernel_rfl) (by kernel_rfl) (fun _ _ _ h => h) (yieldsIf_load_mid (by kernel_rfl) 27 (.tmp 5) rfl (w.heap.size + 2) 0 (by kernel_rfl) (regB z).toList _ (fun w hw => hw.2) Try.underlying27 rfl (by rw [Array.length_toList, regB_size]; exact info_regs)) hSd ?_
          have hT := values_any (fun i => i < w3.heap.size) q gs _ hok.q.good (by have := hok.glen; omega) x hx v0 hQ
          refine wpAnyH_call (i := 2) (f := 8) (some 71) rfl rfl (by kernel_rfl) (by kernel_rfl) (by kernel_rfl) (Calls.mono (hT) ?_)
          rintro rr v1 ⟨va9, rfl, ova9, bb⟩
          have hQ := QAt.below hQ bb
          have yr := blk_below yr bb
          have yz := blk_below yz bb
          have kz := kz.trans (Kept.below bb)
          have hb9 := ova9.toSl 0
          have hSd : v1.rangeAt (w.heap.size + 1) 0 (regB x).toList ∧ v1.rangeAt (w.heap.size + 2) 0 (regB z).toList := ⟨range_row yr, range_row yz⟩
          refine ⟨_, rfl, hSd, ?_⟩
          clear hT bb
          have hT := values_any (fun i => i < w3.heap.size) q gs _ hok.q.good (by have := hok.glen; omega) z hyz v1 hQ
          rw [← hsame] at hT
          refine wpAnyH_call (i := 5) (f := 8) (some 74) rfl rfl (by kernel_rfl) (by kernel_rfl) (by kernel_rfl) (Calls.mono (hT) ?_)
          rintro rr v2 ⟨vb9, rfl, ovb9, bb⟩
          have hQ := QAt.below hQ bb
          have yr := blk_below yr bb
          have yz := blk_below yz bb
          have kz := kz.trans (Kept.below bb)
          have hb9 := BitsB.below hb9 bb
          have hc9 := ovb9.toSl 0
          have hSd : v2.rangeAt (w.heap.size + 1) 0 (regB x).toList ∧ v2.rangeAt (w.heap.size + 2) 0 (regB z).toList := ⟨range_row yr, range_row yz⟩
          refine ⟨_, rfl, hSd, ?_⟩
          clear hT bb
          refine wpAnyH_val (i := 6) (v := va9) (some 14) rfl rfl (by kernel_rfl) (by kernel_rfl) (by kernel_rfl) (fun _ _ _ h => h) (Or.inl ⟨by kernel_rfl, fun w9 hw9 => by kernel_rfl⟩) hSd ?_
          refine wpAnyH_val (i := 7) (v := vb9) (some 15) rfl rfl (by kernel_rfl) (by kernel_rfl) (by kernel_rfl) (fun _ _ _ h => h) (Or.inl ⟨by kernel_rfl, fun w9 hw9 => by kernel_rfl⟩) hSd ?_
          refine wpAnyH_done (by kernel_rfl) ?_ _
          simp only [Act.put, List.setIfInBounds_toArray, List.set_cons_succ, List.set_cons_zero]
          go_wp2_with fail
          go_meet
          exact ⟨hb9, hc9, kz⟩
        case rest =>
        clear hQ kz hsame
        obtain ⟨hb9, hc9, kz⟩ := hcut
        have hln : (vals x gs).length ≤ 1000000 := by rw [vals_len]; have := hok.glen; omega
        obtain ⟨A8, c8, rfl, _, _, _⟩ := hb9.open_
        obtain ⟨A7, c7, rfl, _, _, _⟩ := hc9.open_
        generalize vals x gs = l at *
        go_wp2_with fail
        obtain ⟨wn, rfl⟩ : ∃ wn, wn = wc := ⟨_, rfl⟩
        go_loopw [16] (fun i wr => ∃ j : Nat, j ≤ l.length ∧ i = .int .i64 j ∧ Below wn.heap.size wn wr) (fun i _ => l.length - (Go.RowKit.intOf i).toNat)
        case atStart => exact ⟨0, Nat.zero_le _, rfl, Below.refl _ _⟩
        case round =>
          obtain ⟨j, hj, rfl, hb⟩ := hrel
          by_cases hlt : j < l.length
          · have hlt' : (j : Int) < l.length := by omega
            have bd : Below wr.heap.size wr wr.drew := below_drewN (Below.refl _ _) 1
            have hb := below_then hb bd
            obtain ⟨bb1, of1, u1, rfl, hd1, he1⟩ := (BitsB.below hb9 hb).at_ hlt false
            obtain ⟨bb2, of2, u2, rfl, hd2, he2⟩ := (BitsB.below hc9 hb).at_ hlt false
            have he1 : u1 = .bool (l.getD j false) := he1
            have he2 : u2 = .bool (l.getD j false) := he2
            subst he1 he2
            generalize l.getD j false = u at *
            clear bd
            go_upto_region 19 with fail
            have hSd : wr.drew.cell? ⟨bb1, of1 + j, none⟩ = some (.bool u) ∧ wr.drew.cell? ⟨bb2, of2 + j, none⟩ = some (.bool u) := ⟨hd1, hd2⟩
            refine wp_region_any (by kernel_rfl) (wpAny_of_held (S := fun w' => w'.cell? ⟨bb1, of1 + j, none⟩ = some (.bool u) ∧ w'.cell? ⟨bb2, of2 + j, none⟩ = some (.bool u)) _ _ _ _ ?_)
            change wpAnyH _ _ _ _ _ 9 _ _ wr.drew
            refine wpAnyH_val (i := 0) (v := (.slice (some ⟨bb1, of1, none⟩) l.length c8)) (some 86) rfl rfl (by kernel_rfl) (by kernel_rfl) (by kernel_rfl) (fun _ _ _ h => h) (Or.inl ⟨by kernel_rfl, fun w9 hw9 => by kernel_rfl⟩) hSd ?_
            refine wpAnyH_val (i := 1) (v := (.int .i64 (j : Int))) (some 87) rfl rfl (by kernel_rfl) (by kernel_rfl) (by kernel_rfl) (fun _ _ _ h => h) (Or.inl ⟨by kernel_rfl, fun w9 hw9 => by kernel_rfl⟩) hSd ?_
            refine wpAnyH_val (i := 2) (v := (.pointer (some ⟨bb1, of1 + j, none⟩))) (some 88) rfl rfl (by kernel_rfl) (by kernel_rfl) (by kernel_rfl) (fun _ _ _ h => h) (Or.inl ⟨by kernel_rfl, fun w9 hw9 => by go_simp⟩) hSd ?_
            refine wpAnyH_val (i := 3) (v := (.bool u)) (some 89) rfl rfl (by kernel_rfl) (by kernel_rfl) (by kernel_rfl) (fun _ _ _ h => h) (yieldsIf_cell (by kernel_rfl) 4 (.tmp 88) rfl bb1 (of1 + j) (by kernel_rfl) (.bool u) (fun w => by kernel_rfl) (fun w hw => hw.1)) hSd ?_
            refine wpAnyH_val (i := 4) (v := (.slice (some ⟨bb2, of2, none⟩) l.length c7)) (some 90) rfl rfl (by kernel_rfl) (by kernel_rfl) (by kernel_rfl) (fun _ _ _ h => h) (Or.inl ⟨by kernel_rfl, fun w9 hw9 => by kernel_rfl⟩) hSd ?_
            refine wpAnyH_val (i := 5) (v := (.int .i64 (j : Int))) (some 91) rfl rfl (by kernel_rfl) (by kernel_rfl) (by kernel_rfl) (fun _ _ _ h => h) (Or.inl ⟨by kernel_rfl, fun w9 hw9 => by kernel_rfl⟩) hSd ?_
            refine wpAnyH_val (i := 6) (v := (.pointer (some ⟨bb2, of2 + j, none⟩))) (some 92) rfl rfl (by kernel_rfl) (by kernel_rfl) (by kernel_rfl) (fun _ _ _ h => h) (Or.inl ⟨by kernel_rfl, fun w9 hw9 => by go_simp⟩) hSd ?_
            refine wpAnyH_val (i := 7) (v := (.bool u)) (some 93) rfl rfl (by kernel_rfl) (by kernel_rfl) (by kernel_rfl) (fun _ _ _ h => h) (yieldsIf_cell (by kernel_rfl) 4 (.tmp 92) rfl bb2 (of2 + j) (by kernel_rfl) (.bool u) (fun w => by kernel_rfl) (fun w hw => hw.2)) hSd ?_
            refine wpAnyH_val (i := 8) (v := (.bool false)) (some 94) rfl rfl (by kernel_rfl) (by kernel_rfl) (by kernel_rfl) (fun _ _ _ h => h) (Or.inl ⟨by kernel_rfl, fun w9 hw9 => neq_bool_exec (p := u) (.tmp 89) (.tmp 93) 4 rfl (by kernel_rfl) (by kernel_rfl) w9⟩) hSd ?_
            refine wpAnyH_done (by kernel_rfl) ?_ _
            simp only [Act.put, List.setIfInBounds_toArray, List.set_cons_succ, List.set_cons_zero]
            go_wp2_with fail
            go_roundw
            case rel => exact ⟨j + 1, by omega, by go_num, hb⟩
            case measure => simp [Go.RowKit.intOf]; omega
          · have hlt' : ¬ (j : Int) < l.length := by omega
            go_wp2_with fail
            refine (bfixed_any wr).mono ?_
            rintro r w7 ⟨rfl, bb⟩
            have kz := kz.trans (Kept.below (below_then hb bb))
            go_wp2_with fail
            go_ret
            exact ⟨rfl, below_kept kz⟩
  · have hN := differ_no Kd d ts hG (by omega) ay by_ (by omega) (by omega) va' vb' e1 e2 w3 (hL.sl ha') (hL.sl hb') hD hc0
    have hne : (chkO ts ay by_ != 0) = true := by simpa using hc0
    generalize chkO ts ay by_ = cc at *
    refine hN.mono ?_
    rintro r w4 ⟨rfl, bb⟩
    have hL := hL.below bb
    clear hN bb hD
    go_wp2_with fail
    refine (bfixed_any w4).mono ?_
    rintro r w7 ⟨rfl, bb⟩
    have hL := hL.below bb
    go_wp2_with fail
    go_ret
    exact ⟨rfl, below_kept hL.kz⟩
end Go.Proofs.Ytgnahjadjgjecaa
