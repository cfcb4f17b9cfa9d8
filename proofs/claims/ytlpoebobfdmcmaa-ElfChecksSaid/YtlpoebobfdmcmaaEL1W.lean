/- The law ElfChecks. -/
import Derived.Test.YtlpoebobfdmcmaaEFixW
import Derived.Test.YtlpoebobfdmcmaaERefW2
import Derived.Test.YtlpoebobfdmcmaaELawB
set_option linter.unusedVariables false
set_option linter.unusedSimpArgs false
namespace Go.Proofs.Ytlpoebobfdmcmaa
open Go.RowKit
set_option maxRecDepth 100000 in
set_option maxHeartbeats 800000 in
theorem law1_any (B : Nat) (en fl : Nat) (v : Value) (xs : List Seg) (w : World) (h : Segs B w v xs) (hen : en < 4294967296) (hfl : fl < 4294967296) :
    Calls Try.prog 3 #[.agg #[.int .u32 en, .int .u32 fl, v]] w fun r w' => r = .returned (.bool true) ∧ Below w.heap.size w w' := by
  replace h := h.re (Nat.le_refl w.heap.size)
  obtain ⟨A, c, rfl, hc1, hc2, hc3⟩ := h.open_
  have h' := h.below ((Below.refl w.heap.size w).alloc (Nat.le_refl _) (.cells #[.int .u32 en, .int .u32 fl, .slice A xs.length c] 25))
  go_enter Try.func3, Try.ntmps3
  go_wp2_with fail
  refine (bound_any _ en fl _ xs _ h').mono ?_
  rintro r w1 ⟨v1, rfl, hs0, hb1⟩
  have hs1 := hs0.lower (B' := w.heap.size) (by simp)
  clear hs0
  have hyl := boundL_len xs
  have hyf := hs1.2
  generalize boundL xs = ys at hs1 hyl hyf
  have hbx := blk_below (blk_new w (.cells #[.int .u32 en, .int .u32 fl, .slice A xs.length c] 25)) hb1
  have hb := below_then ((Below.refl w.heap.size w).alloc (Nat.le_refl _) (.cells #[.int .u32 en, .int .u32 fl, .slice A xs.length c] 25)) hb1
  have hq1 : w.heap.size + 1 ≤ w1.heap.size := by have := hb1.size; simpa using this
  obtain ⟨A1, c1, rfl, _, _, _⟩ := (hs1.toSegs 0).open_
  have e0 := cell_of hbx 0
  have e1 := cell_of hbx 1
  have e2 := cell_of hbx 2
  simp only [List.getElem?_toArray, List.getElem?_cons_zero, List.getElem?_cons_succ] at e0 e1 e2
  have f0 := frozen_of hbx 0
  have f1 := frozen_of hbx 1
  have f2 := frozen_of hbx 2
  have hbx2 : (((w1.setCell ⟨w.heap.size, 0, none⟩ (.int .u32 en)).setCell ⟨w.heap.size, 1, none⟩ (.int .u32 fl)).setCell ⟨w.heap.size, 2, none⟩ (.slice A1 ys.length c1)).heap[w.heap.size]? = some (.cells #[.int .u32 en, .int .u32 fl, .slice A1 ys.length c1] 25 (0, 0)) := blk_set (blk_set (blk_set hbx 0 (.int .u32 en)) 1 (.int .u32 fl)) 2 (.slice A1 ys.length c1)
  have hs2 := ((hs1.set hbx (Nat.le_refl _) 0 (.int .u32 en)).set (blk_set hbx 0 (.int .u32 en)) (Nat.le_refl _) 1 (.int .u32 fl)).set (blk_set (blk_set hbx 0 (.int .u32 en)) 1 (.int .u32 fl)) (Nat.le_refl _) 2 (.slice A1 ys.length c1)
  have hb2 : Below w.heap.size w (((w1.setCell ⟨w.heap.size, 0, none⟩ (.int .u32 en)).setCell ⟨w.heap.size, 1, none⟩ (.int .u32 fl)).setCell ⟨w.heap.size, 2, none⟩ (.slice A1 ys.length c1)) := ((hb.setCell (Nat.le_refl _) _).setCell (Nat.le_refl _) _).setCell (Nat.le_refl _) _
  go_wp2_with fail
  generalize ((w1.setCell ⟨w.heap.size, 0, none⟩ (.int .u32 en)).setCell ⟨w.heap.size, 1, none⟩ (.int .u32 fl)).setCell ⟨w.heap.size, 2, none⟩ (.slice A1 ys.length c1) = w2 at hbx2 hs2 hb2
  clear hs1 hb hbx e0 e1 e2 f0 f1 f2
  replace hs2 := hs2.toSegs 0
  refine (write_any _ en fl _ ys _ hs2 hen hfl hyl).mono ?_
  rintro r w3 ⟨rfl, hb3⟩
  replace hs2 := hs2.below hb3
  replace hbx2 := blk_below hbx2 hb3
  replace hb2 := hb2.trans (hb3.mono hb2.size)
  obtain ⟨h0, h1, h2⟩ := three hbx2
  clear hb3
  go_wp2_with fail
  refine (refwrite_any _ en fl _ ys _ hs2 hen hfl hyl).mono ?_
  rintro r w4 ⟨rfl, hb3⟩
  replace hs2 := hs2.below hb3
  replace hbx2 := blk_below hbx2 hb3
  replace hb2 := hb2.trans (hb3.mono hb2.size)
  obtain ⟨h0, h1, h2⟩ := three hbx2
  clear hb3
  have hcw := fun W (h : Segs 0 W (.slice A1 ys.length c1) ys) => check_any 0 en fl (.slice A1 ys.length c1) ys W h hyl
  have hcr := fun W (h : Segs 0 W (.slice A1 ys.length c1) ys) => refcheck_any 0 en fl (.slice A1 ys.length c1) ys W h hyl
  generalize fileOf en fl ys = F
  generalize chk ys = q at hcw hcr
  replace hcw := Lib.hid hcw
  replace hcr := Lib.hid hcr
  go_wp2_with fail
  replace hs2 := hs2.below (Below.refl _ _).drew
  replace hbx2 : w4.drew.heap[w.heap.size]? = some (.cells #[.int .u32 en, .int .u32 fl, .slice A1 ys.length c1] 25 (0, 0)) := hbx2
  replace hb2 := hb2.drew
  have hkeep := three hbx2
  go_region_held3 (fun w' => w'.cell? ⟨w.heap.size, 0, none⟩ = some (.int .u32 en) ∧ w'.cell? ⟨w.heap.size, 1, none⟩ = some (.int .u32 fl) ∧ w'.cell? ⟨w.heap.size, 2, none⟩ = some (.slice A1 ys.length c1))
    (first | go_keep | exact three hbx2)
    (first
      | (go_at_call 13; refine (fixed_any _).mono ?_; rintro r wa ⟨rfl, hba⟩; replace hs2 := hs2.below hba; replace hbx2 := blk_below hbx2 hba; replace hb2 := hb2.trans (hba.mono hb2.size))
      | (go_at_call 14; refine (hcw.out _ hs2).mono ?_; rintro r wa ⟨rfl, hba⟩; replace hs2 := hs2.below hba; replace hbx2 := blk_below hbx2 hba; replace hb2 := hb2.trans (hba.mono hb2.size))
      | (go_at_call 15; refine (hcr.out _ hs2).mono ?_; rintro r wa ⟨rfl, hba⟩; replace hs2 := hs2.below hba; replace hbx2 := blk_below hbx2 hba; replace hb2 := hb2.trans (hba.mono hb2.size)))
  go_wp2_with fail
  go_ret
  exact ⟨rfl, hb2⟩
end Go.Proofs.Ytlpoebobfdmcmaa
