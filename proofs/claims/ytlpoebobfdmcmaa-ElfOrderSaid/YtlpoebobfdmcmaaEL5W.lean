/- The law ElfOrder. -/
import Derived.Test.YtlpoebobfdmcmaaEFixW
import Derived.Test.YtlpoebobfdmcmaaERefW2
import Derived.Test.YtlpoebobfdmcmaaELawB
set_option linter.unusedVariables false
set_option linter.unusedSimpArgs false
namespace Go.Proofs.Ytlpoebobfdmcmaa
open Go.RowKit
theorem apart_comm (s t : Seg) : apart s t = apart t s := by simp only [apart, Bool.or_comm]
theorem pairs_iff0 (xs : List Seg) : pairs [] xs = true ↔ xs.Pairwise (fun s t => apart t s = true) := by
  rw [pairs_iff]; simp
theorem chk_rev (ys : List Seg) : chk ys.reverse = chk ys := by
  have h1 : ys.reverse.all okSeg = ys.all okSeg := List.all_reverse
  have h2 : pairs [] ys.reverse = pairs [] ys := by
    rw [Bool.eq_iff_iff, pairs_iff0, pairs_iff0, List.pairwise_reverse]
    constructor
    · intro h; exact h.imp fun hh => by rw [apart_comm]; exact hh
    · intro h; exact h.imp fun hh => by rw [apart_comm]; exact hh
  unfold chk
  rw [List.length_reverse, h1, h2]
theorem six {W : World} {b d : Nat} {u0 u1 u2 v0 v1 v2 : Value} {t t' : TypeId} {fz fz' : Nat × Nat} (h1 : W.heap[b]? = some (.cells #[u0, u1, u2] t fz)) (h2 : W.heap[d]? = some (.cells #[v0, v1, v2] t' fz')) :
    W.cell? ⟨b, 0, none⟩ = some u0 ∧ W.cell? ⟨b, 1, none⟩ = some u1 ∧ W.cell? ⟨b, 2, none⟩ = some u2 ∧ W.cell? ⟨d, 0, none⟩ = some v0 ∧ W.cell? ⟨d, 1, none⟩ = some v1 ∧ W.cell? ⟨d, 2, none⟩ = some v2 :=
  ⟨(cell_of h1 0).trans rfl, (cell_of h1 1).trans rfl, (cell_of h1 2).trans rfl, (cell_of h2 0).trans rfl, (cell_of h2 1).trans rfl, (cell_of h2 2).trans rfl⟩
set_option maxRecDepth 100000 in
set_option maxHeartbeats 800000 in
theorem law5_any (B : Nat) (en fl : Nat) (v : Value) (xs : List Seg) (w : World) (h : Segs B w v xs) (hen : en < 4294967296) (hfl : fl < 4294967296) :
    Calls Try.prog 7 #[.agg #[.int .u32 en, .int .u32 fl, v]] w fun r w' => r = .returned (.bool true) ∧ Below w.heap.size w w' := by
  replace h := h.re (Nat.le_refl w.heap.size)
  obtain ⟨A, c, rfl, hc1, hc2, hc3⟩ := h.open_
  have h' := h.below ((Below.refl w.heap.size w).alloc (Nat.le_refl _) (.cells #[.int .u32 en, .int .u32 fl, .slice A xs.length c] 25))
  go_enter Try.func7, Try.ntmps7
  go_wp2_with fail
  refine (bound_any _ en fl _ xs _ h').mono ?_
  rintro r w1 ⟨v1, rfl, hs0, hb1⟩
  have hs1 := hs0.lower (B' := w.heap.size) (by simp)
  clear hs0
  have hyl := boundL_len xs
  have hyf := hs1.2
  generalize boundL xs = ys at hs1 hyl hyf
  have hbx := blk_below (blk_new w (.cells #[.int .u32 en, .int .u32 fl, .slice A xs.length c] 25)) hb1
  have hb := below_then ((Below.refl w.heap.size w).alloc (Nat.le_refl _) (.cells #[.int .u32 en, .int .u32 fl, .slice A xs.length c] 25)) hb1
  have hq1 : w.heap.size + 1 ≤ w1.heap.size := by have := hb1.size; simpa using this
  obtain ⟨A1, c1, rfl, _, _, _⟩ := (hs1.toSegs 0).open_
  have e0 := cell_of hbx 0
  have e1 := cell_of hbx 1
  have e2 := cell_of hbx 2
  simp only [List.getElem?_toArray, List.getElem?_cons_zero, List.getElem?_cons_succ] at e0 e1 e2
  have f0 := frozen_of hbx 0
  have f1 := frozen_of hbx 1
  have f2 := frozen_of hbx 2
  have hbx2 : (((w1.setCell ⟨w.heap.size, 0, none⟩ (.int .u32 en)).setCell ⟨w.heap.size, 1, none⟩ (.int .u32 fl)).setCell ⟨w.heap.size, 2, none⟩ (.slice A1 ys.length c1)).heap[w.heap.size]? = some (.cells #[.int .u32 en, .int .u32 fl, .slice A1 ys.length c1] 25 (0, 0)) := blk_set (blk_set (blk_set hbx 0 (.int .u32 en)) 1 (.int .u32 fl)) 2 (.slice A1 ys.length c1)
  have hs2 := ((hs1.set hbx (Nat.le_refl _) 0 (.int .u32 en)).set (blk_set hbx 0 (.int .u32 en)) (Nat.le_refl _) 1 (.int .u32 fl)).set (blk_set (blk_set hbx 0 (.int .u32 en)) 1 (.int .u32 fl)) (Nat.le_refl _) 2 (.slice A1 ys.length c1)
  have hb2 : Below w.heap.size w (((w1.setCell ⟨w.heap.size, 0, none⟩ (.int .u32 en)).setCell ⟨w.heap.size, 1, none⟩ (.int .u32 fl)).setCell ⟨w.heap.size, 2, none⟩ (.slice A1 ys.length c1)) := ((hb.setCell (Nat.le_refl _) _).setCell (Nat.le_refl _) _).setCell (Nat.le_refl _) _
  replace hs2 := hs2.toSegs 0
  have hbx3 := blk_alloc hbx2 (.cells #[.int .u32 en, .int .u32 fl, .slice none 0 0] 25)
  have hby := blk_new (((w1.setCell ⟨w.heap.size, 0, none⟩ (.int .u32 en)).setCell ⟨w.heap.size, 1, none⟩ (.int .u32 fl)).setCell ⟨w.heap.size, 2, none⟩ (.slice A1 ys.length c1)) (.cells #[.int .u32 en, .int .u32 fl, .slice none 0 0] 25)
  have hbw := (Below.refl (((w1.setCell ⟨w.heap.size, 0, none⟩ (.int .u32 en)).setCell ⟨w.heap.size, 1, none⟩ (.int .u32 fl)).setCell ⟨w.heap.size, 2, none⟩ (.slice A1 ys.length c1)).heap.size _).alloc (Nat.le_refl _) (.cells #[.int .u32 en, .int .u32 fl, .slice none 0 0] 25)
  obtain ⟨t0, t1, t2⟩ := three hbx2
  obtain ⟨t3, t4, t5⟩ := three hbx3
  have hz : (((w1.setCell ⟨w.heap.size, 0, none⟩ (.int .u32 en)).setCell ⟨w.heap.size, 1, none⟩ (.int .u32 fl)).setCell ⟨w.heap.size, 2, none⟩ (.slice A1 ys.length c1)).heap.size = w1.heap.size := by simp
  have hyl2 : wrap64 ((ys.length : Int) - 1) = (ys.length : Int) - 1 := by unfold wrap64; omega
  go_wp2_with fail
  generalize ((w1.setCell ⟨w.heap.size, 0, none⟩ (.int .u32 en)).setCell ⟨w.heap.size, 1, none⟩ (.int .u32 fl)).setCell ⟨w.heap.size, 2, none⟩ (.slice A1 ys.length c1) = w2 at hbx2 hs2 hb2 hbx3 hby hbw hz t0 t1 t2 t3 t4 t5
  obtain ⟨g0, hg0⟩ : ∃ z, z = w1.heap.size := ⟨_, rfl⟩
  rw [← hg0]
  rw [hz, ← hg0] at hby hbw
  rw [← hg0] at hz
  have hzl : w2.heap.size = g0 := hz
  have hwg : w.heap.size ≤ g0 := by rw [← hzl]; exact hb2.size
  clear hz t0 t1 t2 t3 t4 t5 hbx hb e0 e1 e2 f0 f1 f2 hs1 hbx3 hb1 h' hg0
  replace hzl := Lib.hid hzl
  go_loopw [4] (fun i wr => ∃ (j : Nat) (vy : Value), j ≤ ys.length ∧ i = .int .i64 ((j : Int) - 1) ∧ wr.heap[g0]? = some (.cells #[.int .u32 en, .int .u32 fl, vy] 25 (0, 0)) ∧ OwnG g0 wr vy (ys.drop j).reverse ∧ Below g0 w2 wr) (fun i _ => (intOf i + 1).toNat)
  case atStart => exact ⟨ys.length, _, Nat.le_refl _, rfl, hby, by simpa using OwnG.nil _ _, hbw⟩
  case round =>
    obtain ⟨j, vy, hj, rfl, hby, ho, hbw⟩ := hrel
    have hbwz : Below w2.heap.size w2 wr := by rw [hzl.out]; exact hbw
    have hx := hs2.below hbwz
    have hbx := blk_below hbx2 hbwz
    obtain ⟨h0, h1, h2⟩ := three hbx
    obtain ⟨y0, y1, y2⟩ := three hby
    cases j with
    | zero =>
      have hR := Lib.hid (show (ys.drop 0).reverse = ys.reverse by simp)
      rw [hR.out] at ho
      have hzl2 : ys.reverse.length ≤ 100000 := by rw [List.length_reverse]; exact hyl
      obtain ⟨zs, hzs⟩ : ∃ zs, zs = ys.reverse := ⟨_, rfl⟩
      have hcz := Lib.hid (show chk zs = chk ys by rw [hzs]; exact chk_rev ys)
      rw [← hzs] at ho hzl2
      clear hzs hR
      obtain ⟨Az, cz, rfl, _, _, _⟩ := (ho.toSegs 0).open_
      have hs5 := ho.toSegs 0
      have hb5 := hb2.trans (hbw.mono hwg)
      obtain ⟨y0, y1, y2⟩ := three hby
      by_cases hc : chk ys = 0
      · have hF0 := Lib.hid (show parseOf (fileOf en fl zs) = .ok (en, fl, zs) from parse_written (hcz.out.trans hc) hen hfl)
        have hwr := fun W (h : Segs 0 W (.slice Az zs.length cz) zs) => write_any 0 en fl (.slice Az zs.length cz) zs W h hen hfl hzl2
        have hFl : (fileOf en fl zs).size ≤ 281474976710656 := file_small
        rw [hcz.out, hc] at hwr
        generalize fileOf en fl zs = F at hF0 hwr hFl
        replace hwr := Lib.hid hwr
        rw [hc] at hcz
        go_wp2_with fail
        replace hx := hx.below (Below.refl _ _).drew
        replace hs5 := hs5.below (Below.refl _ _).drew
        replace hbx : wr.drew.heap[w.heap.size]? = some (.cells #[.int .u32 en, .int .u32 fl, .slice A1 ys.length c1] 25 (0, 0)) := hbx
        replace hby : wr.drew.heap[g0]? = some (.cells #[.int .u32 en, .int .u32 fl, .slice Az zs.length cz] 25 (0, 0)) := hby
        replace hb5 := hb5.drew
        have hkeep := six hbx hby
        go_region_held3 (fun w' => w'.cell? ⟨w.heap.size, 0, none⟩ = some (.int .u32 en) ∧ w'.cell? ⟨w.heap.size, 1, none⟩ = some (.int .u32 fl) ∧ w'.cell? ⟨w.heap.size, 2, none⟩ = some (.slice A1 ys.length c1) ∧ w'.cell? ⟨g0, 0, none⟩ = some (.int .u32 en) ∧ w'.cell? ⟨g0, 1, none⟩ = some (.int .u32 fl) ∧ w'.cell? ⟨g0, 2, none⟩ = some (.slice Az zs.length cz))
          (first | go_keep | exact six hbx hby)
          (first
            | (go_at_call 14; refine (check_any 0 _ _ _ _ _ (by first | exact hx | exact hs5) (by first | exact hyl | exact hzl2)).mono ?_; rintro r wa ⟨rfl, hba⟩; (try rw [hcz.out]); replace hx := hx.below hba; replace hs5 := hs5.below hba; replace hbx := blk_below hbx hba; replace hby := blk_below hby hba; replace hb5 := hb5.trans (hba.mono hb5.size)))
        obtain ⟨z0, z1, z2⟩ := three hby
        go_wp2_with fail
        refine (hwr.out _ hs5).mono ?_
        rintro r wb ⟨rfl, hbb⟩
        replace hs5 := hs5.below hbb
        replace hby := blk_below hby hbb
        replace hb5 := hb5.trans (hbb.mono hb5.size)
        obtain ⟨z0, z1, z2⟩ := three hby
        go_wp2_with fail
        refine (parse_is F _ _ hFl hF0.out).mono ?_
        rintro r wc ⟨⟨vc, rfl, hsc⟩, hbc⟩
        replace hsc := hsc.re (Nat.le_refl wc.heap.size)
        replace hs5 := hs5.below hbc
        replace hby := blk_below hby hbc
        replace hb5 := hb5.trans (hbc.mono hb5.size)
        obtain ⟨Ac, cc, rfl, _, _, _⟩ := hsc.open_
        have hq5 := (Below.refl wc.heap.size wc).alloc (Nat.le_refl _) (.cells #[.int .u32 en, .int .u32 fl, .slice Ac zs.length cc] 25)
        have hbz := blk_new wc (.cells #[.int .u32 en, .int .u32 fl, .slice Ac zs.length cc] 25)
        replace hs5 := hs5.below hq5
        replace hsc := hsc.below hq5
        replace hby := blk_below hby hq5
        replace hb5 := hb5.trans (hq5.mono hb5.size)
        obtain ⟨z0, z1, z2⟩ := three hby
        obtain ⟨x0, x1, x2⟩ := three hbz
        go_wp2_with fail
        refine (same_ref _ _ _ _ _ _ _ zs zs _ (hs5.re (Nat.le_refl _)) (hsc.re (Nat.le_refl _))).mono ?_
        rintro r we ⟨b, rfl, hiff, hbe⟩
        have hbt := hiff.2 ⟨rfl, rfl, rfl⟩
        clear hiff
        subst hbt
        replace hb5 := hb5.trans (hbe.mono hb5.size)
        go_wp2_with fail
        refine (fixed_any _).mono ?_
        rintro r wf ⟨rfl, hbf⟩
        replace hb5 := hb5.trans (hbf.mono hb5.size)
        go_wp2_with fail
        go_ret
        exact ⟨rfl, hb5⟩
      · have hcz0 : chk zs ≠ 0 := by rw [hcz.out]; exact hc
        have hwr := fun W (h : Segs 0 W (.slice Az zs.length cz) zs) => write_any 0 en fl (.slice Az zs.length cz) zs W h hen hfl hzl2
        rw [fileOf, if_neg hcz0, hcz.out] at hwr
        have hq : (chk ys != 0) = true := by simpa using hc
        have hq2 : (chk ys == 0) = false := by simpa using hc
        clear hcz0 hc
        obtain ⟨q, hqq⟩ : ∃ q, q = chk ys := ⟨_, rfl⟩
        rw [← hqq] at hwr hq hq2
        replace hwr := Lib.hid hwr
        replace hcz := Lib.hid (hcz.out.trans hqq.symm)
        replace hqq := Lib.hid hqq.symm
        go_wp2_with fail
        replace hx := hx.below (Below.refl _ _).drew
        replace hs5 := hs5.below (Below.refl _ _).drew
        replace hbx : wr.drew.heap[w.heap.size]? = some (.cells #[.int .u32 en, .int .u32 fl, .slice A1 ys.length c1] 25 (0, 0)) := hbx
        replace hby : wr.drew.heap[g0]? = some (.cells #[.int .u32 en, .int .u32 fl, .slice Az zs.length cz] 25 (0, 0)) := hby
        replace hb5 := hb5.drew
        have hkeep := six hbx hby
        go_region_held3 (fun w' => w'.cell? ⟨w.heap.size, 0, none⟩ = some (.int .u32 en) ∧ w'.cell? ⟨w.heap.size, 1, none⟩ = some (.int .u32 fl) ∧ w'.cell? ⟨w.heap.size, 2, none⟩ = some (.slice A1 ys.length c1) ∧ w'.cell? ⟨g0, 0, none⟩ = some (.int .u32 en) ∧ w'.cell? ⟨g0, 1, none⟩ = some (.int .u32 fl) ∧ w'.cell? ⟨g0, 2, none⟩ = some (.slice Az zs.length cz))
          (first | go_keep | exact six hbx hby)
          (first
            | (go_at_call 14; refine (check_any 0 _ _ _ _ _ (by first | exact hx | exact hs5) (by first | exact hyl | exact hzl2)).mono ?_; rintro r wa ⟨rfl, hba⟩; (first | rw [hcz.out] | rw [hqq.out]); replace hx := hx.below hba; replace hs5 := hs5.below hba; replace hbx := blk_below hbx hba; replace hby := blk_below hby hba; replace hb5 := hb5.trans (hba.mono hb5.size)))
        obtain ⟨z0, z1, z2⟩ := three hby
        go_wp2_with fail
        refine (hwr.out _ hs5).mono ?_
        rintro r wb ⟨rfl, hbb⟩
        replace hb5 := hb5.trans (hbb.mono hb5.size)
        go_wp2_with fail
        refine (parse_is ⟨#[]⟩ _ _ (by decide) parse_empty).mono ?_
        rintro r wc ⟨rfl, hbc⟩
        replace hb5 := hb5.trans (hbc.mono hb5.size)
        have hq5 := (Below.refl wc.heap.size wc).alloc (Nat.le_refl _) (.cells #[.int .u32 0, .int .u32 0, .slice none 0 0] 25)
        replace hb5 := hb5.trans (hq5.mono hb5.size)
        go_wp2_with fail
        refine (fixed_any _).mono ?_
        rintro r wf ⟨rfl, hbf⟩
        replace hb5 := hb5.trans (hbf.mono hb5.size)
        go_wp2_with fail
        go_ret
        exact ⟨rfl, hb5⟩
    | succ j =>
      obtain ⟨bb, off, g, rfl, hg, hfit, hat, hbb⟩ := hx.at_ (show j < ys.length by omega)
      have hR := Lib.hid (show (ys.drop j).reverse = (ys.drop (j + 1)).reverse ++ [g] by rw [drop_get hg]; simp)
      have hl := Lib.hid (show (ys.drop (j + 1)).reverse.length ≤ 1000000 by simp; omega)
      obtain ⟨ga, gd, gs, gf⟩ := g
      obtain ⟨ha0, ha1, ha2, ha3⟩ := hat
      dsimp only at ha0 ha1 ha2 ha3
      have hgf := hfit
      have hwd : OwnG g0 wr.drew vy (ys.drop (j + 1)).reverse := ho.move (T := [36]) (Quiet.below ((Below.refl _ _).drew)) (by decide)
      have hgs : g0 ≤ wr.heap.size := Nat.le_of_lt (Array.getElem?_eq_some_iff.1 hby).1
      have hbyd : wr.drew.heap[g0]? = some (.cells #[.int .u32 en, .int .u32 fl, vy] 25 (0, 0)) := hby
      have y2a := cell_alloc0 y2 (.cells #[.int .u32 ga, .string gd, .int .i64 gs, .int .i64 gf] 36)
      have h2a := cell_alloc0 h2 (.cells #[.int .u32 ga, .string gd, .int .i64 gs, .int .i64 gf] 36)
      obtain ⟨ys2, hys2⟩ : ∃ z, z = (ys.drop (j + 1)).reverse ++ [⟨ga, gd, gs, gf⟩] := ⟨_, rfl⟩
      have hR2 := Lib.hid (show (ys.drop j).reverse = ys2 by rw [hys2]; exact hR.out)
      replace hys2 := Lib.hid hys2
      have hjl : j < ys.length := by omega
      go_wp2_with fail
      go_region_law (refine step_pushG (w0 := w2) (W := wr.drew) g0 (by rfl) (.tmp 27) (.tmp 33) (by rfl) hwd ⟨ga, gd, gs, gf⟩ hgf (by rfl) (by rfl) hbw.drew hgs hl.out ?_; intro v8 w8 ho8 hb8 hg8; rw [← hys2.out] at ho8; obtain ⟨A8, c8, rfl, _, _, _⟩ := (ho8.toSegs 0).open_; have hby8 := hwd.other hg8 hbyd (by simp); have z2 := cell_of hby8 2; simp only [List.getElem?_toArray, List.getElem?_cons_zero, List.getElem?_cons_succ] at z2; have zf := frozen_of hby8 2)
      all_goals
        have hby9 := blk_set hby8 2 (.slice A8 ys2.length c8)
        have ho9 := ho8.set hby8 (Nat.le_refl _) 2 (.slice A8 ys2.length c8)
        have hb9 : Below g0 w2 (w8.setCell ⟨g0, 2, none⟩ (.slice A8 ys2.length c8)) := hb8.setCell (Nat.le_refl _) _
        go_wp2_with fail
        go_roundw
        case rel => exact ⟨j, _, by omega, rfl, hby9, by rw [hR2.out]; exact ho9, hb9⟩
        case measure => simp [intOf] <;> omega
end Go.Proofs.Ytlpoebobfdmcmaa
