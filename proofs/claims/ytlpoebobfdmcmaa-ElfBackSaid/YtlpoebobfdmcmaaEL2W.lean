/- The law ElfBack. -/
import Derived.Test.YtlpoebobfdmcmaaEFixW
import Derived.Test.YtlpoebobfdmcmaaERefW2
import Derived.Test.YtlpoebobfdmcmaaELawB
set_option linter.unusedVariables false
set_option linter.unusedSimpArgs false
namespace Go.Proofs.Ytlpoebobfdmcmaa
open Go.RowKit
set_option maxRecDepth 100000 in
set_option maxHeartbeats 800000 in
theorem law2_any (B : Nat) (en fl : Nat) (v : Value) (xs : List Seg) (w : World) (h : Segs B w v xs) (hen : en < 4294967296) (hfl : fl < 4294967296) :
    Calls Try.prog 4 #[.agg #[.int .u32 en, .int .u32 fl, v]] w fun r w' => r = .returned (.bool true) ∧ Below w.heap.size w w' := by
  replace h := h.re (Nat.le_refl w.heap.size)
  obtain ⟨A, c, rfl, hc1, hc2, hc3⟩ := h.open_
  have h' := h.below ((Below.refl w.heap.size w).alloc (Nat.le_refl _) (.cells #[.int .u32 en, .int .u32 fl, .slice A xs.length c] 25))
  go_enter Try.func4, Try.ntmps4
  go_wp2_with fail
  refine (bound_any _ en fl _ xs _ h').mono ?_
  rintro r w1 ⟨v1, rfl, hs0, hb1⟩
  have hs1 := hs0.lower (B' := w.heap.size) (by simp)
  clear hs0
  have hyl := boundL_len xs
  have hyf := hs1.2
  generalize boundL xs = ys at hs1 hyl hyf
  have hbx := blk_below (blk_new w (.cells #[.int .u32 en, .int .u32 fl, .slice A xs.length c] 25)) hb1
  have hb := below_then ((Below.refl w.heap.size w).alloc (Nat.le_refl _) (.cells #[.int .u32 en, .int .u32 fl, .slice A xs.length c] 25)) hb1
  have hq1 : w.heap.size + 1 ≤ w1.heap.size := by have := hb1.size; simpa using this
  obtain ⟨A1, c1, rfl, _, _, _⟩ := (hs1.toSegs 0).open_
  have e0 := cell_of hbx 0
  have e1 := cell_of hbx 1
  have e2 := cell_of hbx 2
  simp only [List.getElem?_toArray, List.getElem?_cons_zero, List.getElem?_cons_succ] at e0 e1 e2
  have f0 := frozen_of hbx 0
  have f1 := frozen_of hbx 1
  have f2 := frozen_of hbx 2
  have hbx2 : (((w1.setCell ⟨w.heap.size, 0, none⟩ (.int .u32 en)).setCell ⟨w.heap.size, 1, none⟩ (.int .u32 fl)).setCell ⟨w.heap.size, 2, none⟩ (.slice A1 ys.length c1)).heap[w.heap.size]? = some (.cells #[.int .u32 en, .int .u32 fl, .slice A1 ys.length c1] 25 (0, 0)) := blk_set (blk_set (blk_set hbx 0 (.int .u32 en)) 1 (.int .u32 fl)) 2 (.slice A1 ys.length c1)
  have hs2 := ((hs1.set hbx (Nat.le_refl _) 0 (.int .u32 en)).set (blk_set hbx 0 (.int .u32 en)) (Nat.le_refl _) 1 (.int .u32 fl)).set (blk_set (blk_set hbx 0 (.int .u32 en)) 1 (.int .u32 fl)) (Nat.le_refl _) 2 (.slice A1 ys.length c1)
  have hb2 : Below w.heap.size w (((w1.setCell ⟨w.heap.size, 0, none⟩ (.int .u32 en)).setCell ⟨w.heap.size, 1, none⟩ (.int .u32 fl)).setCell ⟨w.heap.size, 2, none⟩ (.slice A1 ys.length c1)) := ((hb.setCell (Nat.le_refl _) _).setCell (Nat.le_refl _) _).setCell (Nat.le_refl _) _
  go_wp2_with fail
  generalize ((w1.setCell ⟨w.heap.size, 0, none⟩ (.int .u32 en)).setCell ⟨w.heap.size, 1, none⟩ (.int .u32 fl)).setCell ⟨w.heap.size, 2, none⟩ (.slice A1 ys.length c1) = w2 at hbx2 hs2 hb2
  clear hs1 hb hbx e0 e1 e2 f0 f1 f2
  replace hs2 := hs2.toSegs 0
  by_cases hc : chk ys = 0
  · have hW := write_any 0 en fl _ ys w2 hs2 hen hfl hyl
    rw [hc] at hW
    obtain ⟨F, hF⟩ : ∃ F, F = fileOf en fl ys := ⟨_, rfl⟩
    have hFP := Lib.hid (show parseOf F = .ok (en, fl, ys) by rw [hF]; exact parse_written hc hen hfl)
    have hFs := Lib.hid (show F.size = 52 + 32 * ys.length + (datB ys).length by rw [hF]; exact file_size hc)
    have hFl : F.size ≤ 281474976710656 := by rw [hF]; exact file_small
    rw [← hF] at hW
    clear hF
    have hn16 := chk_len hc
    refine hW.mono ?_
    rintro r w3 ⟨rfl, hb3⟩
    clear hW
    replace hs2 := hs2.below hb3
    replace hbx2 := blk_below hbx2 hb3
    replace hb2 := hb2.trans (hb3.mono hb2.size)
    clear hb3
    go_wp2_with fail
    refine (parse_is F _ _ hFl hFP.out).mono ?_
    rintro r w4 ⟨⟨v4, rfl, hs4⟩, hb3⟩
    replace hs4 := hs4.re (B' := w4.heap.size) (Nat.le_refl _)
    replace hs2 := hs2.below hb3
    replace hbx2 := blk_below hbx2 hb3
    replace hb2 := hb2.trans (hb3.mono hb2.size)
    clear hb3
    obtain ⟨A4, c4, rfl, _, _, _⟩ := hs4.open_
    have hby := blk_new w4 (.cells #[.int .u32 en, .int .u32 fl, .slice A4 ys.length c4] 25)
    replace hbx2 := blk_alloc hbx2 (.cells #[.int .u32 en, .int .u32 fl, .slice A4 ys.length c4] 25)
    replace hb2 := hb2.alloc hb2.size (.cells #[.int .u32 en, .int .u32 fl, .slice A4 ys.length c4] 25)
    replace hs2 := hs2.below ((Below.refl _ _).alloc (Nat.le_refl _) (.cells #[.int .u32 en, .int .u32 fl, .slice A4 ys.length c4] 25))
    replace hs4 := hs4.below ((Below.refl _ _).alloc (Nat.le_refl _) (.cells #[.int .u32 en, .int .u32 fl, .slice A4 ys.length c4] 25))
    obtain ⟨h0, h1, h2⟩ := three hbx2
    obtain ⟨g0, g1, g2⟩ := three hby
    have hW := len_at hyl
    go_wp2_with fail
    generalize w4.alloc (.cells #[.int .u32 en, .int .u32 fl, .slice A4 ys.length c4] 25) = w5 at hbx2 hb2 hs2 hs4 h0 h1 h2 g0 g1 g2 hby
    go_loopw [7, 8] (fun ia i wr => ∃ k a : Nat, k ≤ ys.length ∧ i = .int .i64 k ∧ ia = .int .i64 a ∧ Hid (a = 52 + 32 * ys.length + (datB (ys.take k)).length) ∧ Below w5.heap.size w5 wr) (fun _ i _ => ys.length - (intOf i).toNat)
    case atStart => exact ⟨0, 52 + 32 * ys.length, Nat.zero_le _, rfl, vat _, Lib.hid (by simp [datB]), Below.refl _ _⟩
    case round =>
      obtain ⟨k, a, hk, rfl, rfl, HA, hbw⟩ := hrel
      have hx := hs2.below hbw
      have hbx := blk_below hbx2 hbw
      obtain ⟨h0, h1, h2⟩ := three hbx
      by_cases hlt : k < ys.length
      · obtain ⟨bb, off, g, rfl, hg, hfit, hat, hbb⟩ := hx.at_ hlt
        obtain ⟨ga, gd, sz, ff, rfl, _, _, _, _, hwt, HA2, _, _⟩ := row_facts hc hg HA.out
        obtain ⟨ha0, ha1, ha2, ha3⟩ := hat
        dsimp only at ha0 ha1 ha2 ha3
        go_wp2_with fail
        go_roundw
        case rel => exact ⟨k + 1, a + gd.size, hlt, vsucc _, by rw [hwt]; exact vadd _ _, HA2, hbw⟩
        case measure => simp [intOf] <;> omega
      · have hd : ((F.size : Int) == (a : Int)) = true := by rw [hFs.out, HA.out, List.take_of_length_le (by omega)]; simp
        have hbyw := blk_below hby hbw
        obtain ⟨g0, g1, g2⟩ := three hbyw
        have hx4 := (hs4.below hbw).re (Nat.le_refl wr.heap.size)
        have hx2 := hx.re (Nat.le_refl wr.heap.size)
        have hbr := hb2.trans (hbw.mono hb2.size)
        go_wp2_with fail
        refine (same_ref _ _ _ _ _ _ _ ys ys _ hx2 hx4).mono ?_
        rintro r wa ⟨b, rfl, hiff, hba⟩
        have hbt := hiff.2 ⟨rfl, rfl, rfl⟩
        clear hiff
        subst hbt
        go_wp2_with fail
        refine (fixed_any _).mono ?_
        rintro r wb ⟨rfl, hbb⟩
        go_wp2_with fail
        go_ret
        exact ⟨rfl, (hbr.trans (hba.mono hbr.size)).trans (hbb.mono (Nat.le_trans hbr.size hba.size))⟩
  · have hcw := fun W (h : Segs 0 W (.slice A1 ys.length c1) ys) => check_any 0 en fl (.slice A1 ys.length c1) ys W h hyl
    have hW := write_any 0 en fl _ ys w2 hs2 hen hfl hyl
    rw [fileOf, if_neg hc] at hW
    have hq : (chk ys != 0) = true := by simpa using hc
    clear hc
    generalize chk ys = q at hcw hW hq
    replace hcw := Lib.hid hcw
    refine hW.mono ?_
    rintro r w3 ⟨rfl, hb3⟩
    clear hW
    replace hs2 := hs2.below hb3
    replace hbx2 := blk_below hbx2 hb3
    replace hb2 := hb2.trans (hb3.mono hb2.size)
    clear hb3
    obtain ⟨h0, h1, h2⟩ := three hbx2
    go_wp2_with fail
    refine (hcw.out _ hs2).mono ?_
    rintro r wa ⟨rfl, hba⟩
    replace hb2 := hb2.trans (hba.mono hb2.size)
    go_wp2_with fail
    refine (fixed_any _).mono ?_
    rintro r wb ⟨rfl, hbb⟩
    replace hb2 := hb2.trans (hbb.mono hb2.size)
    go_wp2_with fail
    go_ret
    exact ⟨rfl, hb2⟩
end Go.Proofs.Ytlpoebobfdmcmaa
