/- The law ElfCuts. -/
import Derived.Test.YtlpoebobfdmcmaaEFixW
import Derived.Test.YtlpoebobfdmcmaaERefW2
import Derived.Test.YtlpoebobfdmcmaaELawB
set_option linter.unusedVariables false
set_option linter.unusedSimpArgs false
namespace Go.Proofs.Ytlpoebobfdmcmaa
open Go.RowKit
theorem file_small2 {en fl : Nat} {xs : List Seg} : (fileOf en fl xs).size ≤ 281474976 := by
  by_cases hc : chk xs = 0
  · rw [file_size hc]
    have hn := chk_len hc
    have := dat_le (L := []) (a := 0) (by simp) hc xs.length
    rw [List.take_of_length_le (Nat.le_refl _)] at this
    simp at this
    omega
  · rw [fileOf, if_neg hc]; decide
theorem i64_and24 (n : Int) : bits .and .i64 n 16777215 = n % 16777216 := by
  have hm : (BitVec.ofInt 64 16777215).toNat = 2 ^ 24 - 1 := by decide
  have key : (BitVec.ofInt 64 n &&& BitVec.ofInt 64 16777215).toNat = (n % ((2 ^ 64 : Nat) : Int)).toNat % 2 ^ 24 := by
    rw [BitVec.toNat_and, BitVec.toNat_ofInt, hm, Nat.and_two_pow_sub_one_eq_mod]
  show IntKind.i64.wrap ((BitVec.ofInt 64 n &&& BitVec.ofInt 64 16777215).toNat : Nat) = n % 16777216
  rw [key, IntKind.wrap_i64]
  omega
theorem not_empty {F : ByteArray} (h : 52 ≤ F.size) : F.toList.isEmpty = false := by
  rw [ByteArray.toList_eq]
  have : F.data.toList.length = F.size := toL_size F
  cases hl : F.data.toList with
  | nil => rw [hl] at this; simp at this; omega
  | cons _ _ => rfl
theorem toL_app (a b : ByteArray) : toL (a ++ b) = toL a ++ toL b := by simp [toL]
theorem cat4 {a b : Nat} (h : a ≤ 281474976) (h : b ≤ 100) : (9223372036854775807 < a + b) = False := eq_false (by omega)
set_option maxRecDepth 100000 in
set_option maxHeartbeats 800000 in
theorem law4_any (B : Nat) (en fl : Nat) (v : Value) (xs : List Seg) (cut : Int) (more : ByteArray) (hcut : -9223372036854775808 ≤ cut ∧ cut ≤ 9223372036854775807) (hmore : more.size ≤ maxLen) (w : World) (h : Segs B w v xs) (hen : en < 4294967296) (hfl : fl < 4294967296) :
    Calls Try.prog 6 #[.agg #[.int .u32 en, .int .u32 fl, v], .int .i64 cut, .string more] w fun r w' => r = .returned (.bool true) ∧ Below w.heap.size w w' := by
  replace h := h.re (Nat.le_refl w.heap.size)
  obtain ⟨A, c, rfl, hc1, hc2, hc3⟩ := h.open_
  have h' := h.below ((Below.refl w.heap.size w).alloc (Nat.le_refl _) (.cells #[.int .u32 en, .int .u32 fl, .slice A xs.length c] 25))
  go_enter Try.func6, Try.ntmps6
  go_wp2_with fail
  refine (bound_any _ en fl _ xs _ h').mono ?_
  rintro r w1 ⟨v1, rfl, hs0, hb1⟩
  have hs1 := hs0.lower (B' := w.heap.size) (by simp)
  clear hs0
  have hyl := boundL_len xs
  have hyf := hs1.2
  generalize boundL xs = ys at hs1 hyl hyf
  have hbx := blk_below (blk_new w (.cells #[.int .u32 en, .int .u32 fl, .slice A xs.length c] 25)) hb1
  have hb := below_then ((Below.refl w.heap.size w).alloc (Nat.le_refl _) (.cells #[.int .u32 en, .int .u32 fl, .slice A xs.length c] 25)) hb1
  have hq1 : w.heap.size + 1 ≤ w1.heap.size := by have := hb1.size; simpa using this
  obtain ⟨A1, c1, rfl, _, _, _⟩ := (hs1.toSegs 0).open_
  have e0 := cell_of hbx 0
  have e1 := cell_of hbx 1
  have e2 := cell_of hbx 2
  simp only [List.getElem?_toArray, List.getElem?_cons_zero, List.getElem?_cons_succ] at e0 e1 e2
  have f0 := frozen_of hbx 0
  have f1 := frozen_of hbx 1
  have f2 := frozen_of hbx 2
  have hbx2 : (((w1.setCell ⟨w.heap.size, 0, none⟩ (.int .u32 en)).setCell ⟨w.heap.size, 1, none⟩ (.int .u32 fl)).setCell ⟨w.heap.size, 2, none⟩ (.slice A1 ys.length c1)).heap[w.heap.size]? = some (.cells #[.int .u32 en, .int .u32 fl, .slice A1 ys.length c1] 25 (0, 0)) := blk_set (blk_set (blk_set hbx 0 (.int .u32 en)) 1 (.int .u32 fl)) 2 (.slice A1 ys.length c1)
  have hs2 := ((hs1.set hbx (Nat.le_refl _) 0 (.int .u32 en)).set (blk_set hbx 0 (.int .u32 en)) (Nat.le_refl _) 1 (.int .u32 fl)).set (blk_set (blk_set hbx 0 (.int .u32 en)) 1 (.int .u32 fl)) (Nat.le_refl _) 2 (.slice A1 ys.length c1)
  have hb2 : Below w.heap.size w (((w1.setCell ⟨w.heap.size, 0, none⟩ (.int .u32 en)).setCell ⟨w.heap.size, 1, none⟩ (.int .u32 fl)).setCell ⟨w.heap.size, 2, none⟩ (.slice A1 ys.length c1)) := ((hb.setCell (Nat.le_refl _) _).setCell (Nat.le_refl _) _).setCell (Nat.le_refl _) _
  go_wp2_with fail
  generalize ((w1.setCell ⟨w.heap.size, 0, none⟩ (.int .u32 en)).setCell ⟨w.heap.size, 1, none⟩ (.int .u32 fl)).setCell ⟨w.heap.size, 2, none⟩ (.slice A1 ys.length c1) = w2 at hbx2 hs2 hb2
  clear hs1 hb hbx e0 e1 e2 f0 f1 f2
  replace hs2 := hs2.toSegs 0
  by_cases hc : chk ys = 0
  · have hW := write_any 0 en fl _ ys w2 hs2 hen hfl hyl
    rw [hc] at hW
    obtain ⟨F, hF⟩ : ∃ F, F = fileOf en fl ys := ⟨_, rfl⟩
    have hFs := Lib.hid (show F.size = 52 + 32 * ys.length + (datB ys).length by rw [hF]; exact file_size hc)
    have hFl : F.size ≤ 281474976 := by rw [hF]; exact file_small2
    have hF52 : 52 ≤ F.size := by rw [hFs.out]; omega
    have hFt := Lib.hid (show toL F = headB en fl ys.length ++ (rowsB (52 + 32 * ys.length) ys ++ (datB ys ++ [])) by rw [hF]; exact file_toL hc)
    rw [← hF] at hW
    clear hF
    have hn16 := chk_len hc
    obtain ⟨b24, hb24⟩ : ∃ z : Nat, z = (cut % 16777216).toNat := ⟨_, rfl⟩
    have hbits : bits .and .i64 cut 16777215 = (b24 : Int) := by rw [i64_and24, hb24]; omega
    clear hb24
    obtain ⟨c0, hc0⟩ : ∃ z : Nat, z = b24 % F.size := ⟨_, rfl⟩
    have hmod : ((b24 : Int)).tmod (F.size : Int) = (c0 : Int) := by rw [hc0]; exact Int.ofNat_tmod ..
    have hclt : c0 < F.size := by rw [hc0]; exact Nat.mod_lt _ (by omega)
    clear hc0
    have hne : F.toList.isEmpty = false := not_empty hF52
    have hok := head_ok en fl ys.length hen hfl (by omega)
    have hP1 := Lib.hid (show parseOf (F.extract 0 c0) = .error 60 from parse_cut c0 hc hok (by rw [toL_extract, hFt.out]; simp) (by rw [← hFs.out]; exact hclt))
    have hP2 := Lib.hid (show parseOf (F ++ more.extract 0 (min more.size 100)) = .ok (en, fl, ys) from parse_file (M := toL (more.extract 0 (min more.size 100))) hc hok (by rw [toL_app, hFt.out]; simp))
    have hms : (more.extract 0 (min more.size 100)).size ≤ 100 := by rw [ByteArray.size_extract]; omega
    obtain ⟨G, hG⟩ : ∃ G, G = more.extract 0 (min more.size 100) := ⟨_, rfl⟩
    rw [← hG] at hP2 hms
    have hcat : (9223372036854775807 < F.size + G.size) = False := cat4 hFl hms
    have hz1 : (F.extract 0 c0).size ≤ 281474976710656 := by rw [ByteArray.size_extract]; omega
    have hz2 : (F ++ G).size ≤ 281474976710656 := by rw [ByteArray.size_append]; omega
    clear hok
    replace hG := Lib.hid hG
    refine hW.mono ?_
    rintro r w3 ⟨rfl, hb3⟩
    clear hW
    replace hs2 := hs2.below hb3
    replace hbx2 := blk_below hbx2 hb3
    replace hb2 := hb2.trans (hb3.mono hb2.size)
    clear hb3
    obtain ⟨h0, h1, h2⟩ := three hbx2
    have hmin : (min (more.size : Int) 100).toNat = min more.size 100 := by omega
    go_wp2_with fail
    refine (parse_is _ _ _ hz1 hP1.out).mono ?_
    rintro r w4 ⟨rfl, hb3⟩
    have hq := hb3.alloc hb3.size (.cells #[.int .u32 0, .int .u32 0, .slice none 0 0] 25)
    replace hs2 := hs2.below hq
    replace hbx2 := blk_below hbx2 hq
    replace hb2 := hb2.trans (hq.mono hb2.size)
    obtain ⟨h0, h1, h2⟩ := three hbx2
    go_wp2_with fail
    rw [← hG.out]
    refine (parse_is _ _ _ hz2 hP2.out).mono ?_
    rintro r w5 ⟨⟨v5, rfl, hs5⟩, hb5⟩
    replace hs5 := hs5.re (Nat.le_refl w5.heap.size)
    replace hs2 := hs2.below hb5
    replace hbx2 := blk_below hbx2 hb5
    replace hb2 := hb2.trans (hb5.mono hb2.size)
    obtain ⟨A5, c5, rfl, _, _, _⟩ := hs5.open_
    have hq5 := (Below.refl w5.heap.size w5).alloc (Nat.le_refl _) (.cells #[.int .u32 en, .int .u32 fl, .slice A5 ys.length c5] 25)
    have hby := blk_new w5 (.cells #[.int .u32 en, .int .u32 fl, .slice A5 ys.length c5] 25)
    replace hs2 := hs2.below hq5
    replace hs5 := hs5.below hq5
    replace hbx2 := blk_below hbx2 hq5
    replace hb2 := hb2.trans (hq5.mono hb2.size)
    obtain ⟨h0, h1, h2⟩ := three hbx2
    obtain ⟨g0, g1, g2⟩ := three hby
    go_wp2_with fail
    refine (same_ref _ _ _ _ _ _ _ ys ys _ (hs2.re (Nat.le_refl _)) (hs5.re (Nat.le_refl _))).mono ?_
    rintro r wa ⟨b, rfl, hiff, hba⟩
    have hbt := hiff.2 ⟨rfl, rfl, rfl⟩
    clear hiff
    subst hbt
    replace hb2 := hb2.trans (hba.mono hb2.size)
    go_wp2_with fail
    refine (fixed_any _).mono ?_
    rintro r wb ⟨rfl, hbb⟩
    replace hb2 := hb2.trans (hbb.mono hb2.size)
    go_wp2_with fail
    go_ret
    exact ⟨rfl, hb2⟩
  · have hW := write_any 0 en fl _ ys w2 hs2 hen hfl hyl
    rw [fileOf, if_neg hc] at hW
    have hq : (chk ys != 0) = true := by simpa using hc
    clear hc
    generalize chk ys = q at hW hq
    refine hW.mono ?_
    rintro r w3 ⟨rfl, hb3⟩
    clear hW
    replace hb2 := hb2.trans (hb3.mono hb2.size)
    go_wp2_with fail
    refine (fixed_any _).mono ?_
    rintro r wb ⟨rfl, hbb⟩
    replace hb2 := hb2.trans (hbb.mono hb2.size)
    go_wp2_with fail
    go_ret
    exact ⟨rfl, hb2⟩
end Go.Proofs.Ytlpoebobfdmcmaa
