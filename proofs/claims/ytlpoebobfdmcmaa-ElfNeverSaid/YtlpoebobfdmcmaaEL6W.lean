/- The law ElfNever. -/
import Derived.Test.YtlpoebobfdmcmaaEFixW
import Derived.Test.YtlpoebobfdmcmaaERefW2
import Derived.Test.YtlpoebobfdmcmaaELawB
set_option linter.unusedVariables false
set_option linter.unusedSimpArgs false
namespace Go.Proofs.Ytlpoebobfdmcmaa
open Go.RowKit
theorem file_small2 {en fl : Nat} {xs : List Seg} : (fileOf en fl xs).size ≤ 281474976 := by
  by_cases hc : chk xs = 0
  · rw [file_size hc]
    have hn := chk_len hc
    have := dat_le (L := []) (a := 0) (by simp) hc xs.length
    rw [List.take_of_length_le (Nat.le_refl _)] at this
    simp at this
    omega
  · rw [fileOf, if_neg hc]; decide
theorem i64_and24 (n : Int) : bits .and .i64 n 16777215 = n % 16777216 := by
  have hm : (BitVec.ofInt 64 16777215).toNat = 2 ^ 24 - 1 := by decide
  have key : (BitVec.ofInt 64 n &&& BitVec.ofInt 64 16777215).toNat = (n % ((2 ^ 64 : Nat) : Int)).toNat % 2 ^ 24 := by
    rw [BitVec.toNat_and, BitVec.toNat_ofInt, hm, Nat.and_two_pow_sub_one_eq_mod]
  show IntKind.i64.wrap ((BitVec.ofInt 64 n &&& BitVec.ofInt 64 16777215).toNat : Nat) = n % 16777216
  rw [key, IntKind.wrap_i64]
  omega
theorem not_empty {F : ByteArray} (h : 52 ≤ F.size) : F.toList.isEmpty = false := by
  rw [ByteArray.toList_eq]
  have : F.data.toList.length = F.size := toL_size F
  cases hl : F.data.toList with
  | nil => rw [hl] at this; simp at this; omega
  | cons _ _ => rfl
theorem toL_app (a b : ByteArray) : toL (a ++ b) = toL a ++ toL b := by simp [toL]
theorem cat4 {a b : Nat} (h : a ≤ 281474976) (h : b ≤ 100) : (9223372036854775807 < a + b) = False := eq_false (by omega)
theorem i64_and16' (n : Int) : bits .and .i64 n 65535 = n % 65536 := by
  have hm : (BitVec.ofInt 64 65535).toNat = 2 ^ 16 - 1 := by decide
  have key : (BitVec.ofInt 64 n &&& BitVec.ofInt 64 65535).toNat = (n % ((2 ^ 64 : Nat) : Int)).toNat % 2 ^ 16 := by
    rw [BitVec.toNat_and, BitVec.toNat_ofInt, hm, Nat.and_two_pow_sub_one_eq_mod]
  show IntKind.i64.wrap ((BitVec.ofInt 64 n &&& BitVec.ofInt 64 65535).toNat : Nat) = n % 65536
  rw [key, IntKind.wrap_i64]
  omega
theorem i64_and3 (n : Int) : bits .and .i64 n 3 = n % 4 := by
  have hm : (BitVec.ofInt 64 3).toNat = 2 ^ 2 - 1 := by decide
  have key : (BitVec.ofInt 64 n &&& BitVec.ofInt 64 3).toNat = (n % ((2 ^ 64 : Nat) : Int)).toNat % 2 ^ 2 := by
    rw [BitVec.toNat_and, BitVec.toNat_ofInt, hm, Nat.and_two_pow_sub_one_eq_mod]
  show IntKind.i64.wrap ((BitVec.ofInt 64 n &&& BitVec.ofInt 64 3).toNat : Nat) = n % 4
  rw [key, IntKind.wrap_i64]
  omega
theorem one_string (ch : Nat) (hch : ch < 256) (W : World) (g : Nat) (h : W.heap[g]? = some (.cells #[.int .u8 (ch : Int)] 5 (0, 0))) : (convert 40 9 (.slice (some ⟨g, 0, none⟩) 1 1)).run Try.prog W = .ok (.string ⟨[UInt8.ofNat ch].toArray⟩) W := by
  refine run_convert_bytes_back (P := Try.prog) W 40 9 5 ⟨g, 0, none⟩ 1 [UInt8.ofNat ch] Try.underlying40 Try.underlying5 Try.underlying9 fun j hj => ?_
  have h0 : j = 0 := by simpa using hj
  subst h0
  have e : (ch : Int) = ((UInt8.ofNat ch).toNat : Int) := by rw [UInt8.toNat_ofNat', Nat.mod_eq_of_lt (by omega)]
  rw [e] at h
  exact cell_of h 0
theorem cat5 {K n : Nat} (hn : n ≤ 281474976) (hK : K + 1 ≤ n) : (9223372036854775807 < K + 1) = False ∧ (9223372036854775807 < n) = False := ⟨eq_false (by omega), eq_false (by omega)⟩
theorem never_nums {K n : Nat} (hn : 52 ≤ n) (hK : (7 ≤ K ∧ K < 16) ∨ (32 ≤ K ∧ K < 36) ∨ (46 ≤ K ∧ K < 52)) : IntKind.i64.wrap ((K : Int) + 1) = (K : Int) + 1 ∧ (K : Int) ≤ (n : Int) ∧ (K : Int) + 1 ≤ (n : Int) ∧ K ≤ n ∧ K + 1 ≤ n ∧ (0 : Int) ≤ (K : Int) + 1 ∧ ((K : Int) + 1).toNat = K + 1 := by
  refine ⟨by rw [IntKind.wrap_i64]; omega, by omega, by omega, by omega, by omega, by omega, by omega⟩
def neverS (F : ByteArray) (K ch : Nat) : ByteArray := F.extract 0 K ++ ⟨[UInt8.ofNat ch].toArray⟩ ++ F.extract (K + 1) F.size
theorem never_size {F : ByteArray} (h : F.size ≤ 281474976) (K ch : Nat) : (neverS F K ch).size ≤ 281474976710656 := by
  unfold neverS
  rw [ByteArray.size_append, ByteArray.size_append, ByteArray.size_extract, ByteArray.size_extract]
  show _ + 1 + _ ≤ _
  omega
theorem parse_never {F : ByteArray} {en fl : Nat} {ys : List Seg} {K : Nat} (hc : chk ys = 0) (hok : HeadOk (headB en fl ys.length) en fl ys.length) (hF : toL F = headB en fl ys.length ++ (rowsB (52 + 32 * ys.length) ys ++ (datB ys ++ []))) (hK : (7 ≤ K ∧ K < 16) ∨ (32 ≤ K ∧ K < 36) ∨ (46 ≤ K ∧ K < 52)) (ch : Nat) :
    parseOf (neverS F K ch) = .ok (en, fl, ys) := by
  refine parse_file (H := (headB en fl ys.length).set K (UInt8.ofNat ch)) (M := []) hc (hok.set K _ hK) ?_
  have hl : K < (headB en fl ys.length).length := by rw [headB_len]; omega
  have hl2 : (toL F).length = F.size := toL_size F
  rw [neverS, toL_app, toL_app, toL_extract, toL_extract, List.drop_zero, Nat.sub_zero, List.take_of_length_le (l := (toL F).drop (K + 1)) (by rw [List.length_drop, hl2]; omega)]
  show (toL F).take K ++ [UInt8.ofNat ch] ++ (toL F).drop (K + 1) = _
  rw [hF, List.take_append_of_le_length (by omega), List.drop_append_of_le_length (by omega), List.set_eq_take_append_cons_drop, if_pos hl]
  simp
theorem parse_own_is (s : ByteArray) (w : World) (o : Except Int (Nat × Nat × List Seg)) (hs : s.size ≤ 281474976710656) (h : parseOf s = o) : Calls Try.prog 16 #[.string s] w fun r w' => ParseOutG w o r w' := h ▸ parse_own s w hs
theorem never_finA {w3 W w5 : World} {b en fl : Nat} {v y0 y1 y2 : Value} {ys : List Seg} (hy : w5.heap[b]? = some (.cells #[y0, y1, y2] 25 (0, 0))) (hb : w3.heap.size ≤ b) (hO : OwnG W.heap.size w5 v ys) (hbw : Below w3.heap.size w3 W) (hb5 : Below W.heap.size W w5) :
    (((w5.setCell ⟨b, 0, none⟩ (.int .u32 en)).setCell ⟨b, 1, none⟩ (.int .u32 fl)).setCell ⟨b, 2, none⟩ v).heap[b]? = some (.cells #[.int .u32 en, .int .u32 fl, v] 25 (0, 0)) ∧
      Segs 0 (((w5.setCell ⟨b, 0, none⟩ (.int .u32 en)).setCell ⟨b, 1, none⟩ (.int .u32 fl)).setCell ⟨b, 2, none⟩ v) v ys ∧ Below w3.heap.size w3 (((w5.setCell ⟨b, 0, none⟩ (.int .u32 en)).setCell ⟨b, 1, none⟩ (.int .u32 fl)).setCell ⟨b, 2, none⟩ v) := by
  have hO' := hO.lower (B' := w3.heap.size) hbw.size
  refine ⟨blk_set (blk_set (blk_set hy 0 (.int .u32 en)) 1 (.int .u32 fl)) 2 v, (((hO'.set hy hb 0 _).set (blk_set hy 0 (.int .u32 en)) hb 1 _).set (blk_set (blk_set hy 0 (.int .u32 en)) 1 (.int .u32 fl)) hb 2 _).toSegs 0, ?_⟩
  exact (((hbw.trans (hb5.mono hbw.size)).setCell hb _).setCell hb _).setCell hb _
theorem never_finC {w3 W w5 : World} {en fl : Nat} {v : Value} {ys : List Seg} (hO : OwnG W.heap.size w5 v ys) (hbw : Below w3.heap.size w3 W) (hb5 : Below W.heap.size W w5) :
    (w5.alloc (.cells #[.int .u32 en, .int .u32 fl, v] 25)).heap[w5.heap.size]? = some (.cells #[.int .u32 en, .int .u32 fl, v] 25 (0, 0)) ∧
      Segs 0 (w5.alloc (.cells #[.int .u32 en, .int .u32 fl, v] 25)) v ys ∧ Below w3.heap.size w3 (w5.alloc (.cells #[.int .u32 en, .int .u32 fl, v] 25)) :=
  ⟨blk_new _ _, (hO.toSegs 0).below ((Below.refl _ _).alloc (Nat.le_refl _) _), below_alloc1 (hbw.trans (hb5.mono hbw.size)) _⟩
set_option maxRecDepth 100000 in
set_option maxHeartbeats 800000 in
theorem law6_any (B : Nat) (en fl : Nat) (v : Value) (xs : List Seg) (at_ : Int) (ch : Nat) (hat : -9223372036854775808 ≤ at_ ∧ at_ ≤ 9223372036854775807) (hch : ch < 256) (w : World) (h : Segs B w v xs) (hen : en < 4294967296) (hfl : fl < 4294967296) :
    Calls Try.prog 8 #[.agg #[.int .u32 en, .int .u32 fl, v], .int .i64 at_, .int .u8 ch] w fun r w' => r = .returned (.bool true) ∧ Below w.heap.size w w' := by
  replace h := h.re (Nat.le_refl w.heap.size)
  obtain ⟨A, c, rfl, hc1, hc2, hc3⟩ := h.open_
  have h' := h.below ((Below.refl w.heap.size w).alloc (Nat.le_refl _) (.cells #[.int .u32 en, .int .u32 fl, .slice A xs.length c] 25))
  go_enter Try.func8, Try.ntmps8
  go_wp2_with fail
  refine (bound_any _ en fl _ xs _ h').mono ?_
  rintro r w1 ⟨v1, rfl, hs0, hb1⟩
  have hs1 := hs0.lower (B' := w.heap.size) (by simp)
  clear hs0
  have hyl := boundL_len xs
  have hyf := hs1.2
  generalize boundL xs = ys at hs1 hyl hyf
  have hbx := blk_below (blk_new w (.cells #[.int .u32 en, .int .u32 fl, .slice A xs.length c] 25)) hb1
  have hb := below_then ((Below.refl w.heap.size w).alloc (Nat.le_refl _) (.cells #[.int .u32 en, .int .u32 fl, .slice A xs.length c] 25)) hb1
  have hq1 : w.heap.size + 1 ≤ w1.heap.size := by have := hb1.size; simpa using this
  obtain ⟨A1, c1, rfl, _, _, _⟩ := (hs1.toSegs 0).open_
  have e0 := cell_of hbx 0
  have e1 := cell_of hbx 1
  have e2 := cell_of hbx 2
  simp only [List.getElem?_toArray, List.getElem?_cons_zero, List.getElem?_cons_succ] at e0 e1 e2
  have f0 := frozen_of hbx 0
  have f1 := frozen_of hbx 1
  have f2 := frozen_of hbx 2
  have hbx2 : (((w1.setCell ⟨w.heap.size, 0, none⟩ (.int .u32 en)).setCell ⟨w.heap.size, 1, none⟩ (.int .u32 fl)).setCell ⟨w.heap.size, 2, none⟩ (.slice A1 ys.length c1)).heap[w.heap.size]? = some (.cells #[.int .u32 en, .int .u32 fl, .slice A1 ys.length c1] 25 (0, 0)) := blk_set (blk_set (blk_set hbx 0 (.int .u32 en)) 1 (.int .u32 fl)) 2 (.slice A1 ys.length c1)
  have hs2 := ((hs1.set hbx (Nat.le_refl _) 0 (.int .u32 en)).set (blk_set hbx 0 (.int .u32 en)) (Nat.le_refl _) 1 (.int .u32 fl)).set (blk_set (blk_set hbx 0 (.int .u32 en)) 1 (.int .u32 fl)) (Nat.le_refl _) 2 (.slice A1 ys.length c1)
  have hb2 : Below w.heap.size w (((w1.setCell ⟨w.heap.size, 0, none⟩ (.int .u32 en)).setCell ⟨w.heap.size, 1, none⟩ (.int .u32 fl)).setCell ⟨w.heap.size, 2, none⟩ (.slice A1 ys.length c1)) := ((hb.setCell (Nat.le_refl _) _).setCell (Nat.le_refl _) _).setCell (Nat.le_refl _) _
  go_wp2_with fail
  generalize ((w1.setCell ⟨w.heap.size, 0, none⟩ (.int .u32 en)).setCell ⟨w.heap.size, 1, none⟩ (.int .u32 fl)).setCell ⟨w.heap.size, 2, none⟩ (.slice A1 ys.length c1) = w2 at hbx2 hs2 hb2
  clear hs1 hb hbx e0 e1 e2 f0 f1 f2
  replace hs2 := hs2.toSegs 0
  by_cases hc : chk ys = 0
  · have hW := write_any 0 en fl _ ys w2 hs2 hen hfl hyl
    rw [hc] at hW
    obtain ⟨F, hF⟩ : ∃ F, F = fileOf en fl ys := ⟨_, rfl⟩
    have hFs := Lib.hid (show F.size = 52 + 32 * ys.length + (datB ys).length by rw [hF]; exact file_size hc)
    have hFl : F.size ≤ 281474976 := by rw [hF]; exact file_small2
    have hF52 : 52 ≤ F.size := by rw [hFs.out]; omega
    have hFt := Lib.hid (show toL F = headB en fl ys.length ++ (rowsB (52 + 32 * ys.length) ys ++ (datB ys ++ [])) by rw [hF]; exact file_toL hc)
    rw [← hF] at hW
    clear hF
    have hn16 := chk_len hc
    obtain ⟨t, ht⟩ : ∃ z : Nat, z = (at_ % 65536).toNat := ⟨_, rfl⟩
    obtain ⟨t4, ht4⟩ : ∃ z : Nat, z = (at_ % 4).toNat := ⟨_, rfl⟩
    have b16 : bits .and .i64 at_ 65535 = (t : Int) := by rw [i64_and16', ht]; omega
    have b3 : bits .and .i64 at_ 3 = (t4 : Int) := by rw [i64_and3, ht4]; omega
    have l4 : t4 < 4 := by omega
    obtain ⟨t9, ht9⟩ : ∃ z : Nat, z = t % 9 := ⟨_, rfl⟩
    obtain ⟨t6, ht6⟩ : ∃ z : Nat, z = t % 6 := ⟨_, rfl⟩
    have hm9 : ((t : Int)).tmod 9 = (t9 : Int) := by rw [ht9]; exact Int.ofNat_tmod ..
    have hm6 : ((t : Int)).tmod 6 = (t6 : Int) := by rw [ht6]; exact Int.ofNat_tmod ..
    have l9 : t9 < 9 := by omega
    have l6 : t6 < 6 := by omega
    clear ht ht4 ht9 ht6
    generalize hu : bits .and .i64 at_ 65536 = u
    generalize hv : bits .and .i64 at_ 131072 = v5
    have hok := head_ok en fl ys.length hen hfl (by omega)
    refine hW.mono ?_
    rintro r w3 ⟨rfl, hb3⟩
    clear hW
    replace hs2 := hs2.below hb3
    replace hbx2 := blk_below hbx2 hb3
    replace hb2 := hb2.trans (hb3.mono hb2.size)
    clear hb3
    obtain ⟨h0, h1, h2⟩ := three hbx2
    obtain ⟨K1, hK1⟩ : ∃ z : Nat, z = 7 + t9 := ⟨_, rfl⟩
    obtain ⟨K2, hK2⟩ : ∃ z : Nat, z = 46 + t6 := ⟨_, rfl⟩
    obtain ⟨K3, hK3⟩ : ∃ z : Nat, z = 32 + t4 := ⟨_, rfl⟩
    have e1 : (7 + (t9 : Int)) = (K1 : Int) := by omega
    have e2 : (46 + (t6 : Int)) = (K2 : Int) := by omega
    have e3 : (32 + (t4 : Int)) = (K3 : Int) := by omega
    have r1 : (7 ≤ K1 ∧ K1 < 16) ∨ (32 ≤ K1 ∧ K1 < 36) ∨ (46 ≤ K1 ∧ K1 < 52) := by omega
    have r2 : (7 ≤ K2 ∧ K2 < 16) ∨ (32 ≤ K2 ∧ K2 < 36) ∨ (46 ≤ K2 ∧ K2 < 52) := by omega
    have r3 : (7 ≤ K3 ∧ K3 < 16) ∨ (32 ≤ K3 ∧ K3 < 36) ∨ (46 ≤ K3 ∧ K3 < 52) := by omega
    clear hK1 hK2 hK3
    replace e1 := Lib.hid e1
    replace e2 := Lib.hid e2
    replace e3 := Lib.hid e3
    replace r1 := Lib.hid r1
    replace r2 := Lib.hid r2
    replace r3 := Lib.hid r3
    have hcv1 := one_string ch hch (w3.alloc (.cells #[.int .u8 ch] 5)).drew w3.heap.size (blk_new w3 _)
    have hcv2 := one_string ch hch ((w3.alloc (.cells #[.int .u8 ch] 5)).alloc (.cells #[.int .u32 0, .int .u32 0, .slice none 0 0] 25)).drew w3.heap.size (blk_alloc (blk_new w3 _) _)
    have hcv3 := one_string ch hch ((w3.alloc (.cells #[.int .u32 0, .int .u32 0, .slice none 0 0] 25)).alloc (.cells #[.int .u8 ch] 5)).drew (w3.heap.size + 1) (blk_top (by simp))
    have yA : ((w3.alloc (.cells #[.int .u32 0, .int .u32 0, .slice none 0 0] 25)).alloc (.cells #[.int .u8 ch] 5)).drew.heap[w3.heap.size]? = some (.cells #[.int .u32 0, .int .u32 0, .slice none 0 0] 25 (0, 0)) := blk_alloc (blk_new w3 _) _
    have yB : ((w3.alloc (.cells #[.int .u8 ch] 5)).alloc (.cells #[.int .u32 0, .int .u32 0, .slice none 0 0] 25)).drew.heap[w3.heap.size + 1]? = some (.cells #[.int .u32 0, .int .u32 0, .slice none 0 0] 25 (0, 0)) := blk_top (by simp)
    cases d1 : (u != 0) <;> cases d2 : (v5 != 0)
    · go_wp2_with fail
      rw [e1.out]
      go_wp2_with fail
      have hP := Lib.hid (parse_never hc hok hFt.out r1.out ch)
      obtain ⟨q0, q1, q2, q3, q4, q5, q6⟩ := never_nums hF52 r1.out
      have hz := never_size hFl K1 ch
      obtain ⟨q7, q8⟩ := cat5 hFl q4
      go_region_law ((go_simp; go_at_call 16; refine (parse_own_is (neverS F K1 ch) _ _ hz hP.out).mono ?_; rintro r w5 ⟨⟨v9, rfl, hs5⟩, hb5⟩; obtain ⟨A9, c9, rfl, _, _, _⟩ := (hs5.toSegs 0).open_; first | (have hy5 := blk_below yA hb5; obtain ⟨z0, z1, z2⟩ := three hy5; have z3 := frozen_of hy5 0; have z4 := frozen_of hy5 1; have z5 := frozen_of hy5 2) | (have hy5 := blk_below yB hb5; obtain ⟨z0, z1, z2⟩ := three hy5; have z3 := frozen_of hy5 0; have z4 := frozen_of hy5 1; have z5 := frozen_of hy5 2) | skip))
      all_goals
        first
          | (obtain ⟨y1, y2, y3⟩ := never_finA (w3 := w3) (en := en) (fl := fl) hy5 (by omega) hs5 (below_alloc1 (below_alloc1 (Below.refl _ _) _) _).drew hb5)
          | (obtain ⟨y1, y2, y3⟩ := never_finC (w3 := w3) (en := en) (fl := fl) hs5 (below_alloc1 (Below.refl _ _) _).drew hb5)
        have hs2f := hs2.below y3
        have hbxf := blk_below hbx2 y3
        have hbf := hb2.trans (y3.mono hb2.size)
        obtain ⟨h0, h1, h2⟩ := three hbxf
        obtain ⟨g0, g1, g2⟩ := three y1
        go_wp2_with fail
        refine (same_ref _ _ _ _ _ _ _ ys ys _ (hs2f.re (Nat.le_refl _)) (y2.re (Nat.le_refl _))).mono ?_
        rintro r wa ⟨b, rfl, hiff, hba⟩
        have hbt := hiff.2 ⟨rfl, rfl, rfl⟩
        clear hiff
        subst hbt
        replace hbf := hbf.trans (hba.mono hbf.size)
        go_wp2_with fail
        refine (fixed_any _).mono ?_
        rintro r wb ⟨rfl, hbb⟩
        replace hbf := hbf.trans (hbb.mono hbf.size)
        go_wp2_with fail
        go_ret
        exact ⟨rfl, hbf⟩
    · go_wp2_with fail
      rw [e3.out]
      go_wp2_with fail
      have hP := Lib.hid (parse_never hc hok hFt.out r3.out ch)
      obtain ⟨q0, q1, q2, q3, q4, q5, q6⟩ := never_nums hF52 r3.out
      have hz := never_size hFl K3 ch
      obtain ⟨q7, q8⟩ := cat5 hFl q4
      go_region_law ((go_simp; go_at_call 16; refine (parse_own_is (neverS F K3 ch) _ _ hz hP.out).mono ?_; rintro r w5 ⟨⟨v9, rfl, hs5⟩, hb5⟩; obtain ⟨A9, c9, rfl, _, _, _⟩ := (hs5.toSegs 0).open_; first | (have hy5 := blk_below yA hb5; obtain ⟨z0, z1, z2⟩ := three hy5; have z3 := frozen_of hy5 0; have z4 := frozen_of hy5 1; have z5 := frozen_of hy5 2) | (have hy5 := blk_below yB hb5; obtain ⟨z0, z1, z2⟩ := three hy5; have z3 := frozen_of hy5 0; have z4 := frozen_of hy5 1; have z5 := frozen_of hy5 2) | skip))
      all_goals
        first
          | (obtain ⟨y1, y2, y3⟩ := never_finA (w3 := w3) (en := en) (fl := fl) hy5 (by omega) hs5 (below_alloc1 (below_alloc1 (Below.refl _ _) _) _).drew hb5)
          | (obtain ⟨y1, y2, y3⟩ := never_finC (w3 := w3) (en := en) (fl := fl) hs5 (below_alloc1 (Below.refl _ _) _).drew hb5)
        have hs2f := hs2.below y3
        have hbxf := blk_below hbx2 y3
        have hbf := hb2.trans (y3.mono hb2.size)
        obtain ⟨h0, h1, h2⟩ := three hbxf
        obtain ⟨g0, g1, g2⟩ := three y1
        go_wp2_with fail
        refine (same_ref _ _ _ _ _ _ _ ys ys _ (hs2f.re (Nat.le_refl _)) (y2.re (Nat.le_refl _))).mono ?_
        rintro r wa ⟨b, rfl, hiff, hba⟩
        have hbt := hiff.2 ⟨rfl, rfl, rfl⟩
        clear hiff
        subst hbt
        replace hbf := hbf.trans (hba.mono hbf.size)
        go_wp2_with fail
        refine (fixed_any _).mono ?_
        rintro r wb ⟨rfl, hbb⟩
        replace hbf := hbf.trans (hbb.mono hbf.size)
        go_wp2_with fail
        go_ret
        exact ⟨rfl, hbf⟩
    · go_wp2_with fail
      rw [e2.out]
      go_wp2_with fail
      have hP := Lib.hid (parse_never hc hok hFt.out r2.out ch)
      obtain ⟨q0, q1, q2, q3, q4, q5, q6⟩ := never_nums hF52 r2.out
      have hz := never_size hFl K2 ch
      obtain ⟨q7, q8⟩ := cat5 hFl q4
      go_region_law ((go_simp; go_at_call 16; refine (parse_own_is (neverS F K2 ch) _ _ hz hP.out).mono ?_; rintro r w5 ⟨⟨v9, rfl, hs5⟩, hb5⟩; obtain ⟨A9, c9, rfl, _, _, _⟩ := (hs5.toSegs 0).open_; first | (have hy5 := blk_below yA hb5; obtain ⟨z0, z1, z2⟩ := three hy5; have z3 := frozen_of hy5 0; have z4 := frozen_of hy5 1; have z5 := frozen_of hy5 2) | (have hy5 := blk_below yB hb5; obtain ⟨z0, z1, z2⟩ := three hy5; have z3 := frozen_of hy5 0; have z4 := frozen_of hy5 1; have z5 := frozen_of hy5 2) | skip))
      all_goals
        first
          | (obtain ⟨y1, y2, y3⟩ := never_finA (w3 := w3) (en := en) (fl := fl) hy5 (by omega) hs5 (below_alloc1 (below_alloc1 (Below.refl _ _) _) _).drew hb5)
          | (obtain ⟨y1, y2, y3⟩ := never_finC (w3 := w3) (en := en) (fl := fl) hs5 (below_alloc1 (Below.refl _ _) _).drew hb5)
        have hs2f := hs2.below y3
        have hbxf := blk_below hbx2 y3
        have hbf := hb2.trans (y3.mono hb2.size)
        obtain ⟨h0, h1, h2⟩ := three hbxf
        obtain ⟨g0, g1, g2⟩ := three y1
        go_wp2_with fail
        refine (same_ref _ _ _ _ _ _ _ ys ys _ (hs2f.re (Nat.le_refl _)) (y2.re (Nat.le_refl _))).mono ?_
        rintro r wa ⟨b, rfl, hiff, hba⟩
        have hbt := hiff.2 ⟨rfl, rfl, rfl⟩
        clear hiff
        subst hbt
        replace hbf := hbf.trans (hba.mono hbf.size)
        go_wp2_with fail
        refine (fixed_any _).mono ?_
        rintro r wb ⟨rfl, hbb⟩
        replace hbf := hbf.trans (hbb.mono hbf.size)
        go_wp2_with fail
        go_ret
        exact ⟨rfl, hbf⟩
    · go_wp2_with fail
      rw [e3.out]
      go_wp2_with fail
      have hP := Lib.hid (parse_never hc hok hFt.out r3.out ch)
      obtain ⟨q0, q1, q2, q3, q4, q5, q6⟩ := never_nums hF52 r3.out
      have hz := never_size hFl K3 ch
      obtain ⟨q7, q8⟩ := cat5 hFl q4
      go_region_law ((go_simp; go_at_call 16; refine (parse_own_is (neverS F K3 ch) _ _ hz hP.out).mono ?_; rintro r w5 ⟨⟨v9, rfl, hs5⟩, hb5⟩; obtain ⟨A9, c9, rfl, _, _, _⟩ := (hs5.toSegs 0).open_; first | (have hy5 := blk_below yA hb5; obtain ⟨z0, z1, z2⟩ := three hy5; have z3 := frozen_of hy5 0; have z4 := frozen_of hy5 1; have z5 := frozen_of hy5 2) | (have hy5 := blk_below yB hb5; obtain ⟨z0, z1, z2⟩ := three hy5; have z3 := frozen_of hy5 0; have z4 := frozen_of hy5 1; have z5 := frozen_of hy5 2) | skip))
      all_goals
        first
          | (obtain ⟨y1, y2, y3⟩ := never_finA (w3 := w3) (en := en) (fl := fl) hy5 (by omega) hs5 (below_alloc1 (below_alloc1 (Below.refl _ _) _) _).drew hb5)
          | (obtain ⟨y1, y2, y3⟩ := never_finC (w3 := w3) (en := en) (fl := fl) hs5 (below_alloc1 (Below.refl _ _) _).drew hb5)
        have hs2f := hs2.below y3
        have hbxf := blk_below hbx2 y3
        have hbf := hb2.trans (y3.mono hb2.size)
        obtain ⟨h0, h1, h2⟩ := three hbxf
        obtain ⟨g0, g1, g2⟩ := three y1
        go_wp2_with fail
        refine (same_ref _ _ _ _ _ _ _ ys ys _ (hs2f.re (Nat.le_refl _)) (y2.re (Nat.le_refl _))).mono ?_
        rintro r wa ⟨b, rfl, hiff, hba⟩
        have hbt := hiff.2 ⟨rfl, rfl, rfl⟩
        clear hiff
        subst hbt
        replace hbf := hbf.trans (hba.mono hbf.size)
        go_wp2_with fail
        refine (fixed_any _).mono ?_
        rintro r wb ⟨rfl, hbb⟩
        replace hbf := hbf.trans (hbb.mono hbf.size)
        go_wp2_with fail
        go_ret
        exact ⟨rfl, hbf⟩
  · have hW := write_any 0 en fl _ ys w2 hs2 hen hfl hyl
    rw [fileOf, if_neg hc] at hW
    have hq : (chk ys != 0) = true := by simpa using hc
    clear hc
    generalize chk ys = q at hW hq
    refine hW.mono ?_
    rintro r w3 ⟨rfl, hb3⟩
    clear hW
    replace hb2 := hb2.trans (hb3.mono hb2.size)
    go_wp2_with fail
    refine (fixed_any _).mono ?_
    rintro r wb ⟨rfl, hbb⟩
    replace hb2 := hb2.trans (hbb.mono hb2.size)
    go_wp2_with fail
    go_ret
    exact ⟨rfl, hb2⟩
end Go.Proofs.Ytlpoebobfdmcmaa
