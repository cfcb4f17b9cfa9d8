/- The reference's Write. -/
import Derived.Test.YtlpoebobfdmcmaaEBytes
import Derived.Test.YtlpoebobfdmcmaaERefC
import Derived.Test.YtlpoebobfdmcmaaEWrite2
set_option linter.unusedVariables false
set_option linter.unusedSimpArgs false
namespace Go.Proofs.Ytlpoebobfdmcmaa
open Go.RowKit

theorem head_eq (en fl n : Nat) : [127, 69, 76, 70, 1, 1, 1] ++ bytesI 0 9 ++ bytesI 2 2 ++ bytesI 243 2 ++ bytesI 1 4 ++ bytesI en 4 ++ bytesI 52 4 ++ bytesI 0 4 ++ bytesI fl 4 ++ bytesI 52 2 ++ bytesI 32 2 ++ bytesI n 2 ++ bytesI 0 6 = headB en fl n := by
  have h9 : bytesI 0 9 = List.replicate 9 0 := by decide
  have h6 : bytesI 0 6 = leB 0 2 ++ (leB 0 2 ++ leB 0 2) := by decide
  rw [h9, h6]
  simp [headB, magicL, putAll, bytesI]
theorem at_eq {a n d : Nat} (h : a = 52 + 32 * n + d) (hn : n ≤ 16) (hd : d ≤ 268435456) : wrap64 (52 + 32 * (n : Int) + (d : Int)) = (a : Int) := by unfold wrap64; omega
theorem cat1 {L : List UInt8} (h : L.length ≤ 564) : (9223372036854775807 < L.length + 32) = False := eq_false (by omega)
theorem cat2 {L : List UInt8} {n : Nat} (h : L.length ≤ 268435456) (hn : n ≤ 16777216) : (9223372036854775807 < L.length + n) = False := eq_false (by omega)
theorem wrap_i64_nat {n : Nat} (h : n < 4294967296) : IntKind.i64.wrap (n : Int) = (n : Int) := by rw [IntKind.wrap_i64]; omega
theorem dat_le2 {xs : List Seg} (hc : chk xs = 0) (k : Nat) : (datB (xs.take k)).length ≤ 268435456 := by
  have := dat_le (L := []) (a := 0) (by simp) hc k
  simpa using this
theorem cat3 {xs : List Seg} {H : List UInt8} (hc : chk xs = 0) (k : Nat) (hH : H.length ≤ 52) : (9223372036854775807 < (H ++ rowsB (52 + 32 * xs.length) (xs.take k)).length + (datB (xs.take k)).length) = False := by
  have h2 := dat_le2 hc k
  have hn := chk_len hc
  have h3 : (xs.take k).length ≤ 16 := by simp; omega
  rw [List.length_append, rowsB_len]
  exact eq_false (by omega)
theorem at_eq2 {a n d : Nat} (h : a = 52 + 32 * n + d) : (52 + 32 * (n : Int) + (d : Int)) = (a : Int) := by omega
theorem bs_app2 (a : List UInt8) (d : ByteArray) : (⟨a.toArray⟩ ++ d : ByteArray) = ⟨(a ++ d.data.toList).toArray⟩ := by
  apply ByteArray.ext
  simp
theorem row_eq (a ga ds sz ff : Nat) : bytesI 1 4 ++ bytesI a 4 ++ bytesI ga 4 ++ bytesI ga 4 ++ bytesI ds 4 ++ bytesI sz 4 ++ bytesI ff 4 ++ bytesI 4 4 = putAll [1, a, ga, ga, ds, sz, ff, 4] 4 := by
  simp [putAll, bytesI]
set_option maxRecDepth 100000 in
set_option maxHeartbeats 800000 in
theorem refwrite_try (B : Nat) (en fl : Nat) (v : Value) (xs : List Seg) (w : World) (h : Segs B w v xs) (hen : en < 4294967296) (hfl : fl < 4294967296) (hlen : xs.length ≤ 100000) (hc : chk xs = 0) :
    Calls Try.prog 12 #[.agg #[.int .u32 en, .int .u32 fl, v]] w fun r w' => r = .returned (.tuple #[.string ⟨(fileB en fl xs).toArray⟩, .int .i64 0]) ∧ Below w.heap.size w w' := by
  replace h := h.re (Nat.le_refl w.heap.size)
  obtain ⟨A, c, rfl, hc1, hc2, hc3⟩ := h.open_
  have hcw := refcheck_any w.heap.size en fl (.slice A xs.length c) xs (w.alloc (.cells #[.int .u32 en, .int .u32 fl, .slice A xs.length c] 25)) (h.below ((Below.refl _ _).alloc (Nat.le_refl _) _)) hlen
  rw [hc] at hcw
  have hn16 := chk_len hc
  have hll := bytesI_len
  have hwe : IntKind.i64.wrap (en : Int) = (en : Int) := by rw [IntKind.wrap_i64]; omega
  have hwf : IntKind.i64.wrap (fl : Int) = (fl : Int) := by rw [IntKind.wrap_i64]; omega
  go_enter Try.func12, Try.ntmps12
  go_wp2_with (first | (go_at_call 15; refine hcw.mono ?_; rintro r w1 ⟨rfl, hb1⟩; have hxr := blk_below (blk_new w (.cells #[.int .u32 en, .int .u32 fl, .slice A xs.length c] 25)) hb1; have hb := below_then ((Below.refl w.heap.size w).alloc (Nat.le_refl _) (.cells #[.int .u32 en, .int .u32 fl, .slice A xs.length c] 25)) hb1; have hxe := cell_of hxr 0; have hxf := cell_of hxr 1; have hxs := cell_of hxr 2; simp only [List.getElem?_toArray, List.getElem?_cons_zero, List.getElem?_cons_succ] at hxe hxf hxs) | fail)
  replace hb := hb.drew
  replace hxr : w1.drew.heap[w.heap.size]? = some (.cells #[.int .u32 en, .int .u32 fl, .slice A xs.length c] 25 (0, 0)) := hxr
  go_region_held3 (fun w' => w'.cell? ⟨w.heap.size, 0, none⟩ = some (.int .u32 en) ∧ w'.cell? ⟨w.heap.size, 1, none⟩ = some (.int .u32 fl) ∧ w'.cell? ⟨w.heap.size, 2, none⟩ = some (.slice A xs.length c))
    (first | go_keep | exact ⟨(cell_of hxr 0).trans rfl, (cell_of hxr 1).trans rfl, (cell_of hxr 2).trans rfl⟩)
    (first | (go_at_call 19; refine (bytes_int _ _ _ (by omega) (by omega)).mono ?_; rintro r w2 ⟨rfl, hb2⟩; replace hb := hb.trans (hb2.mono hb.size); replace hxr := blk_below hxr hb2; clear hb2))
  simp only [bs_app]
  rw [head_eq]
  obtain ⟨H, hH⟩ : ∃ z, z = headB en fl xs.length := ⟨_, rfl⟩
  have hhl : H.length ≤ 52 := by rw [hH, headB_len]; omega
  rw [← hH]
  replace hH := Lib.hid hH
  generalize [127, 69, 76, 70, 1, 1, 1] ++ bytesI 0 9 = G1
  generalize G1 ++ bytesI 2 2 = G2
  generalize G2 ++ bytesI 243 2 = G3
  generalize G3 ++ bytesI 1 4 = G4
  generalize G4 ++ bytesI en 4 = G5
  generalize G5 ++ bytesI 52 4 = G6
  generalize G6 ++ bytesI 0 4 = G7
  generalize G7 ++ bytesI fl 4 = G8
  generalize G8 ++ bytesI 52 2 = G9
  generalize G9 ++ bytesI 32 2 = G10
  generalize G10 ++ bytesI xs.length 2 = G11
  go_wp2_with fail
  go_loopw [5, 6, 7] (fun vs va i wr => ∃ k : Nat, k ≤ xs.length ∧ i = .int .i64 k ∧ vs = .string ⟨(H ++ rowsB (52 + 32 * xs.length) (xs.take k)).toArray⟩ ∧ va = .string ⟨(datB (xs.take k)).toArray⟩ ∧ wr.heap[w.heap.size]? = some (.cells #[.int .u32 en, .int .u32 fl, .slice A xs.length c] 25 (0, 0)) ∧ Below w.heap.size w wr) (fun _ _ i _ => xs.length - (intOf i).toNat)
  case atStart => exact ⟨0, Nat.zero_le _, rfl, by simp [rowsB], by simp [datB], hxr, hb⟩
  case round =>
    clear hxr hb
    obtain ⟨k, hk, rfl, rfl, rfl, hxr, hb⟩ := hrel
    have hx := h.below hb
    have hxs := cell_of hxr 2
    simp only [List.getElem?_toArray, List.getElem?_cons_zero, List.getElem?_cons_succ] at hxs
    by_cases hlt : k < xs.length
    · obtain ⟨bb, off, g, rfl, hg, hfit, hat, hbb⟩ := hx.at_ hlt
      have hlt2 := hlt
      have hDS := Lib.hid (datB_succ hg)
      obtain ⟨a, ha⟩ : ∃ a, a = 52 + 32 * xs.length + (datB (xs.take k)).length := ⟨_, rfl⟩
      obtain ⟨ga, gd, sz, ff, rfl, hwa, hwd, hws, hwf2, hwt, HA2, HR, HQ⟩ := row_facts hc hg ha
      obtain ⟨ha0, ha1, ha2, ha3⟩ := hat
      obtain ⟨f1, f2, f3, f4, f5, f6⟩ := hfit
      dsimp only at ha0 ha1 ha2 ha3 f1 f2 f3 f4 f5 f6 hDS
      have hdl := dat_le2 hc k
      have hgl := row_size hc hg
      dsimp only at hgl
      obtain ⟨D, hD⟩ : ∃ z, z = datB (xs.take k) := ⟨_, rfl⟩
      obtain ⟨L, hL⟩ : ∃ z, z = H ++ rowsB (52 + 32 * xs.length) (xs.take k) := ⟨_, rfl⟩
      have hLl : L.length ≤ 564 := by rw [hL, List.length_append, rowsB_len]; exact rows_le hhl hn16
      rw [← hD] at ha hdl
      rw [← hD, ← hL]
      replace hL := Lib.hid hL
      replace hD := Lib.hid hD
      have haI := at_eq ha hn16 hdl
      have ha4 := HQ a (by simp)
      have hsz4 := HQ sz (by simp)
      have hff4 := HQ ff (by simp)
      have hcat1 := cat1 hLl
      have hcat2 := cat2 hdl hgl
      have hwg := wrap_i64_nat (HQ ga (by simp))
      replace ha := Lib.hid ha
      clear hwa hwd hws hwf2 hwt HQ
      have hbox := blk_new wr (.cells #[.int .u32 ga, .string gd, .int .i64 sz, .int .i64 ff] 36)
      have hxs1 := cell_alloc0 hxs (.cells #[.int .u32 ga, .string gd, .int .i64 sz, .int .i64 ff] 36)
      have hxr1 := blk_alloc hxr (.cells #[.int .u32 ga, .string gd, .int .i64 sz, .int .i64 ff] 36)
      have hb' := hb.alloc hb.size (.cells #[.int .u32 ga, .string gd, .int .i64 sz, .int .i64 ff] 36)
      go_wp2_with fail
      rw [at_eq2 ha.out]
      obtain ⟨wo, rfl⟩ : ∃ wo : World, wo = wr := ⟨_, rfl⟩
      replace hbox : (wo.alloc (.cells #[.int .u32 ga, .string gd, .int .i64 sz, .int .i64 ff] 36)).drew.heap[wo.heap.size]? = some (.cells #[.int .u32 ga, .string gd, .int .i64 sz, .int .i64 ff] 36 (0, 0)) := hbox
      replace hxr1 : (wo.alloc (.cells #[.int .u32 ga, .string gd, .int .i64 sz, .int .i64 ff] 36)).drew.heap[w.heap.size]? = some (.cells #[.int .u32 en, .int .u32 fl, .slice (some ⟨bb, off, none⟩) xs.length c] 25 (0, 0)) := hxr1
      replace hb' := hb'.drew
      go_region_held3 (fun w' => w'.cell? ⟨wo.heap.size, 0, none⟩ = some (.int .u32 ga) ∧ w'.cell? ⟨wo.heap.size, 1, none⟩ = some (.string gd) ∧ w'.cell? ⟨wo.heap.size, 2, none⟩ = some (.int .i64 sz) ∧ w'.cell? ⟨wo.heap.size, 3, none⟩ = some (.int .i64 ff))
        (first | go_keep | exact ⟨(cell_of hbox 0).trans rfl, (cell_of hbox 1).trans rfl, (cell_of hbox 2).trans rfl, (cell_of hbox 3).trans rfl⟩)
        (first | (go_at_call 19; refine (bytes_int _ _ _ (by omega) (by omega)).mono ?_; rintro r w2 ⟨rfl, hb2⟩; replace hb' := hb'.trans (hb2.mono hb'.size); replace hxr1 := blk_below hxr1 hb2; replace hbox := blk_below hbox hb2; clear hb2))
      simp only [bs_app]
      rw [row_eq]
      go_wp2_with fail
      simp only [bs_app2]
      go_roundw
      case rel => exact ⟨k + 1, hlt2, by go_num, by rw [HR.out, ← List.append_assoc, ← hL.out], by rw [hDS.out, ← hD.out], hxr1, hb'⟩
      case measure => simp [intOf] <;> omega
    · have hF := Lib.hid (show (H ++ rowsB (52 + 32 * xs.length) (xs.take k)) ++ datB (xs.take k) = fileB en fl xs by rw [List.take_of_length_le (by omega), hH.out]; rfl)
      have hcat := cat3 hc k hhl
      generalize H ++ rowsB (52 + 32 * xs.length) (xs.take k) = L at hF hcat
      generalize datB (xs.take k) = D at hF hcat
      go_wp2_with fail
      simp only [bs_app]
      rw [hF.out]
      go_ret2
      exact ⟨rfl, hb⟩
end Go.Proofs.Ytlpoebobfdmcmaa
