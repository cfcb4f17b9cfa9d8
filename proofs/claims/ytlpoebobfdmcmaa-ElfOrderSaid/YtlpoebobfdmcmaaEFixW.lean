/- fixed. -/
import Derived.Test.YtlpoebobfdmcmaaEPlain2
import Derived.Test.YtlpoebobfdmcmaaELawA
import Derived.Test.YtlpoebobfdmcmaaEParseF
import Derived.Test.YtlpoebobfdmcmaaERefS
set_option linter.unusedVariables false
set_option linter.unusedSimpArgs false
namespace Go.Proofs.Ytlpoebobfdmcmaa
open Go.RowKit
theorem chk_one : chk [oneS] = 0 := by decide
theorem file_toL {en fl : Nat} {xs : List Seg} (hc : chk xs = 0) : toL (fileOf en fl xs) = headB en fl xs.length ++ (rowsB (52 + 32 * xs.length) xs ++ (datB xs ++ [])) := by
  rw [fileOf, if_pos hc]
  simp [toL, fileB]
theorem parse_written {en fl : Nat} {xs : List Seg} (hc : chk xs = 0) (hen : en < 4294967296) (hfl : fl < 4294967296) : parseOf (fileOf en fl xs) = .ok (en, fl, xs) :=
  parse_file hc (head_ok en fl xs.length hen hfl (by have := chk_len hc; omega)) (file_toL hc)
theorem file_size {en fl : Nat} {xs : List Seg} (hc : chk xs = 0) : (fileOf en fl xs).size = 52 + 32 * xs.length + (datB xs).length := by
  rw [← toL_size, file_toL hc]
  simp only [List.length_append, headB_len, rowsB_len, List.length_nil]
  omega
theorem file_small {en fl : Nat} {xs : List Seg} : (fileOf en fl xs).size ≤ 281474976710656 := by
  by_cases hc : chk xs = 0
  · rw [file_size hc]
    have hn := chk_len hc
    have := dat_le (L := []) (a := 0) (by simp) hc xs.length
    rw [List.take_of_length_le (Nat.le_refl _)] at this
    simp at this
    omega
  · rw [fileOf, if_neg hc]; decide
def twoS : Seg := ⟨4103, ⟨#[]⟩, 1, 0⟩
theorem twoS_fits : twoS.Fits := ⟨by decide, by decide, by decide, by decide, by decide, by decide⟩
theorem OwnG.belowB {B B' : Nat} {w0 w w' : World} {v : Value} {xs : List Seg} (h : OwnG B w v xs) (hb : Below B' w0 w) (hg : w.grownBy w' v.ownBlock) (hB : B' ≤ B) (hs : B' ≤ w.heap.size := by omega) : Below B' w0 w' :=
  hb.grown hg hs fun g e1 => Nat.le_trans hB (h.typed e1).1
def zeroS : Seg := ⟨0, ⟨#[]⟩, 0, 0⟩
theorem zeroS_fits : zeroS.Fits := ⟨by decide, by decide, by decide, by decide, by decide, by decide⟩
theorem lit0 (W : World) (g : Nat) (hg : W.heap.size = g := by first | rfl | simp) : Segs 0 (W.alloc (.cells #[.int .u32 0, .string ⟨#[]⟩, .int .i64 0, .int .i64 0] 36)) (.slice (some ⟨g, 0, none⟩) 1 1) [zeroS] :=
  (OwnG.lit1 (B := 0) (S := zeroS) (Nat.zero_le _) hg zeroS_fits).toSegs 0
theorem hk6 {W : World} {b d : Nat} {A3 A8 : Option Addr} {c3 c8 : Nat} (h1 : W.heap[b]? = some (.cells #[.int .u32 4096, .int .u32 0, .slice A3 1 c3] 25 (0, 0))) (h2 : W.heap[d]? = some (.cells #[.int .u32 4096, .int .u32 0, .slice A8 2 c8] 25 (0, 0))) :
    W.cell? ⟨b, 0, none⟩ = some (.int .u32 4096) ∧ W.cell? ⟨b, 1, none⟩ = some (.int .u32 0) ∧ W.cell? ⟨b, 2, none⟩ = some (.slice A3 1 c3) ∧ W.cell? ⟨d, 0, none⟩ = some (.int .u32 4096) ∧ W.cell? ⟨d, 1, none⟩ = some (.int .u32 0) ∧ W.cell? ⟨d, 2, none⟩ = some (.slice A8 2 c8) :=
  ⟨(cell_of h1 0).trans rfl, (cell_of h1 1).trans rfl, (cell_of h1 2).trans rfl, (cell_of h2 0).trans rfl, (cell_of h2 1).trans rfl, (cell_of h2 2).trans rfl⟩
theorem parse_empty : parseOf ⟨#[]⟩ = .error 60 := by rw [parseOf, if_pos (by decide)]
theorem parse_zeros : parseOf ⟨(List.replicate 52 0).toArray⟩ = .error 61 := by
  rw [parseOf, if_neg (by decide), if_pos (by decide)]
theorem parse_is (s : ByteArray) (w : World) (o : Except Int (Nat × Nat × List Seg)) (hs : s.size ≤ 281474976710656) (h : parseOf s = o) : Calls Try.prog 16 #[.string s] w fun r w' => ParseOut w o r w' := h ▸ parse_any s w hs
theorem zeros_made : ∃ (Z : Array Value) (T : ByteArray), (∀ W : World, (Instr.makeSlice 40 (.int .i64 52) (.int .i64 52)).run Try.prog W = .ok (.slice (some ⟨W.heap.size, 0, none⟩) 52 52) (W.alloc (.cells Z 5))) ∧
    (∀ W : World, (convert 40 9 (.slice (some ⟨W.heap.size, 0, none⟩) 52 52)).run Try.prog (W.alloc (.cells Z 5)) = .ok (.string T) (W.alloc (.cells Z 5))) ∧ Hid (T = ⟨(List.replicate 52 0).toArray⟩) := by
  obtain ⟨i0, hi, hzz⟩ := Option.map_eq_some_iff.1 info_u8
  simp only [Prod.mk.injEq] at hzz
  obtain ⟨hz0, hz1, hz2⟩ := hzz
  refine ⟨madeCells (Value.int .u8 0).cells 52, ⟨(List.replicate 52 0).toArray⟩, fun W => ?_, fun W => ?_, Lib.hid rfl⟩
  · have h := run_make (P := Try.prog) W 40 5 i0 _ Try.underlying40 hi hz0 .i64 .i64 52 52 (by omega) (by omega) (by rw [hz2]; decide) (by omega)
    rw [hz1] at h
    exact h
  · refine run_convert_bytes_back (P := Try.prog) (W.alloc (.cells (madeCells (Value.int .u8 0).cells 52) 5)) 40 9 5 ⟨W.heap.size, 0, none⟩ 52 (List.replicate 52 0) Try.underlying40 Try.underlying5 Try.underlying9 fun j hj => ?_
    have hadd : (⟨W.heap.size, 0, none⟩ : Addr).add j = ⟨W.heap.size, j, none⟩ := by unfold Addr.add; split <;> simp_all
    rw [hadd, cell_of (blk_new W _) j]
    have e : (List.replicate 52 (0 : UInt8))[j] = 0 := List.getElem_replicate ..
    rw [e]
    simp only [List.length_replicate] at hj
    simp [madeCells, Value.cells, hj, Nat.mod_one]
set_option maxRecDepth 100000 in
set_option maxHeartbeats 800000 in
theorem fixed_any (w : World) : Calls Try.prog 13 #[] w fun r w' => r = .returned (.bool true) ∧ Below w.heap.size w w' := by
  obtain ⟨S, hS⟩ : ∃ S, S = fileOf 4096 0 [oneS] := ⟨_, rfl⟩
  have hS88 : S.size = 88 := by rw [hS, file_size chk_one]; decide
  have hSP := Lib.hid (show parseOf S = .ok (4096, 0, [oneS]) by rw [hS]; exact parse_written chk_one (by decide) (by decide))
  have hSI : ((S.size : Int)) = 88 := by omega
  have hWr : ∀ B v w, Segs B w v [oneS] → Calls Try.prog 11 #[.agg #[.int .u32 4096, .int .u32 0, v]] w fun r w' => r = .returned (.tuple #[.string S, .int .i64 0]) ∧ Below w.heap.size w w' := fun B v w h => by
    rw [hS]
    have := write_any B 4096 0 v [oneS] w h (by decide) (by decide) (by decide)
    rw [chk_one] at this
    exact this
  have hSs : S.size ≤ 281474976710656 := by omega
  replace hS := Lib.hid hS
  obtain ⟨Z, T0, hmk, hcv, hT0⟩ := zeros_made
  have hk2 := Lib.hid (show chk [oneS, twoS] = 63 by decide)
  have hk0 := Lib.hid (show chk [zeroS] = 62 by decide)
  have hTs : T0.size ≤ 281474976710656 := by rw [hT0.out]; decide
  have hTP := Lib.hid (show parseOf T0 = .error 61 by rw [hT0.out]; exact parse_zeros)
  go_enter Try.func13, Try.ntmps13
  go_wp2_with fail
  refine (one_any _).mono ?_
  rintro r w1 ⟨v1, rfl, ho1, hb1⟩
  obtain ⟨A1, c1, rfl, _, _, _⟩ := (ho1.toSegs 0).open_
  go_wp2_with fail
  refine (hWr _ _ _ (ho1.toSegs 0)).mono ?_
  rintro r w2 ⟨rfl, hb2⟩
  have hb := hb1.trans (hb2.mono hb1.size)
  clear hb1 hb2 ho1
  go_wp2_with fail
  refine (parse_is S _ _ hSs hSP.out).mono ?_
  rintro r w3 ⟨⟨v3, rfl, hs3⟩, hb3⟩
  replace hb := hb.trans (hb3.mono hb.size)
  replace hs3 := hs3.re (Nat.le_refl w3.heap.size)
  have hB3 := Below.refl w3.heap.size w3
  clear hb3
  obtain ⟨A3, c3, rfl, _, _, _⟩ := hs3.open_
  go_wp2_with fail
  refine (parse_is ⟨#[]⟩ _ _ (by decide) parse_empty).mono ?_
  rintro r w4 ⟨rfl, hb4⟩
  have hb40 := hb4
  replace hb4 : Below w3.heap.size w3 w4 := below_then ((Below.refl w3.heap.size w3).alloc (Nat.le_refl _) (.cells #[.int .u32 4096, .int .u32 0, .slice A3 1 c3] 25)) hb4
  have hbx : w4.heap[w3.heap.size]? = some (.cells #[.int .u32 4096, .int .u32 0, .slice A3 1 c3] 25 (0, 0)) := blk_below (blk_new w3 _) hb40
  replace hb := hb.trans (hb4.mono hb.size)
  replace hB3 := hB3.trans hb4
  clear hb4 hb40
  have hcv4 := hcv (w4.alloc (.cells #[.int .u32 0, .int .u32 0, .slice none 0 0] 25))
  rw [show (w4.alloc (.cells #[.int .u32 0, .int .u32 0, .slice none 0 0] 25)).heap.size = w4.heap.size + 1 by simp] at hcv4
  go_wp2_with fail
  refine (parse_is T0 _ _ hTs hTP.out).mono ?_
  rintro r w5 ⟨rfl, hb5⟩
  replace hb5 : Below w4.heap.size w4 (w5.alloc (.cells #[.int .u32 0, .int .u32 0, .slice none 0 0] 25)) := below_alloc1 (below_then (((Below.refl w4.heap.size w4).alloc (Nat.le_refl _) (.cells #[.int .u32 0, .int .u32 0, .slice none 0 0] 25)).alloc (by simp) (.cells Z 5)) hb5) _
  replace hb := hb.trans (hb5.mono hb.size)
  replace hB3 := hB3.trans (hb5.mono hB3.size)
  replace hbx := blk_below hbx hb5
  clear hb5 hcv hcv4 hmk
  go_wp2_with fail
  refine (one_any _).mono ?_
  rintro r w6 ⟨v6, rfl, ho6, hb6⟩
  have hwW5 := hb.size
  replace hb := hb.trans (hb6.mono hb.size)
  have hB35 := hB3.size
  replace hB3 := hB3.trans (hb6.mono hB3.size)
  replace hbx := blk_below hbx hb6
  obtain ⟨A6, c6, rfl, _, _, _⟩ := (ho6.toSegs 0).open_
  generalize w5.alloc (.cells #[.int .u32 0, .int .u32 0, .slice none 0 0] 25) = W5 at *
  have hw3 : w3.heap.size < w6.heap.size := (Array.getElem?_eq_some_iff.1 hbx).1
  obtain ⟨W6, hW6⟩ : ∃ z, z = w6.alloc (.cells #[.int .u32 4096, .int .u32 0, .slice A6 1 c6] 25) := ⟨_, rfl⟩
  have hq6 : Below w6.heap.size w6 W6 := by rw [hW6]; exact (Below.refl _ _).alloc (Nat.le_refl _) _
  have htw : W6.heap[w6.heap.size]? = some (.cells #[.int .u32 4096, .int .u32 0, .slice A6 1 c6] 25 (0, 0)) := by rw [hW6]; exact blk_new _ _
  have hz6 : W6.heap.size = w6.heap.size + 1 := by rw [hW6]; simp
  replace hz6 := Lib.hid hz6
  replace hW6 := Lib.hid hW6
  have ho7 : OwnG W5.heap.size W6 (.slice A6 1 c6) [oneS] := ho6.move (T := [36]) (Quiet.below hq6) (by decide)
  have hb7 := hb6.trans (hq6.mono hb6.size)
  have hs7 := Nat.le_trans hb6.size hq6.size
  replace hb := hb.trans (hq6.mono hb.size)
  replace hB3 := hB3.trans (hq6.mono hB3.size)
  have hB5 : w3.heap.size ≤ W5.heap.size := hB35
  replace hbx := blk_below hbx hq6
  go_wp2_with (first | (at_builtin; rw [← hW6.out]; go_loud (refine wpList_pushG (w0 := W5) (W := W6) W5.heap.size (by rfl) (.tmp 32) (.tmp 34) (by rfl) ho7 twoS twoS_fits (by rfl) (by rw [hz6.out]; rfl) hb7 hs7 (by decide) ?_); intro v8 w8 ho8 hb8 hg8; obtain ⟨A8, c8, rfl, _, _, _⟩ := (ho8.toSegs 0).open_; have htw8 := ho7.other hg8 htw (by simp); have ft8 := frozen_of htw8 2; have hc8 := cell_of htw8 2; simp only [List.getElem?_toArray, List.getElem?_cons_zero, List.getElem?_cons_succ] at hc8) | fail)
  have htw9 : (w8.setCell ⟨w6.heap.size, 2, none⟩ (.slice A8 2 c8)).heap[w6.heap.size]? = some (.cells #[.int .u32 4096, .int .u32 0, .slice A8 2 c8] 25 (0, 0)) := blk_set htw8 2 (.slice A8 2 c8)
  have hbx9 : (w8.setCell ⟨w6.heap.size, 2, none⟩ (.slice A8 2 c8)).heap[w3.heap.size]? = some (.cells #[.int .u32 4096, .int .u32 0, .slice A3 1 c3] 25 (0, 0)) := (Below.heap_setCell w8 ⟨w6.heap.size, 2, none⟩ (.slice A8 2 c8) w3.heap.size (by simp; omega)).trans (ho7.other hg8 hbx (by simp))
  have ho9 := ho8.move (Quiet.set htw8 (B := W5.heap.size) (T := [36]) hb6.size (by decide) 2 (.slice A8 2 c8)) (by decide)
  have hs9 := (ho9.toSegs 0)
  have hB39 : Below w3.heap.size w3 (w8.setCell ⟨w6.heap.size, 2, none⟩ (.slice A8 2 c8)) := (ho7.belowB hB3 hg8 hB5).setCell (by simp; omega) _
  have hb9 : Below w.heap.size w (w8.setCell ⟨w6.heap.size, 2, none⟩ (.slice A8 2 c8)) := (ho7.belowB hb hg8 hwW5 (Nat.le_trans hwW5 hs7)).setCell (Nat.le_trans hwW5 hb6.size) _
  generalize w8.setCell ⟨w6.heap.size, 2, none⟩ (.slice A8 2 c8) = W9 at htw9 hbx9 ho9 hs9 hB39 hb9
  clear ho8 hb8 hg8 htw8 ft8 hc8 ho7 hb7 hs7 hbx hb hB3 htw hq6 hW6 hz6 ho6 hb6 ho9
  replace hs9 : Segs 0 W9 (.slice A8 2 c8) [oneS, twoS] := hs9
  replace hs9 : Segs 0 W9.drew (.slice A8 2 c8) [oneS, twoS] := hs9.below (Below.refl _ _).drew
  replace hbx9 : W9.drew.heap[w3.heap.size]? = some (.cells #[.int .u32 4096, .int .u32 0, .slice A3 1 c3] 25 (0, 0)) := hbx9
  replace htw9 : W9.drew.heap[w6.heap.size]? = some (.cells #[.int .u32 4096, .int .u32 0, .slice A8 2 c8] 25 (0, 0)) := htw9
  replace hB39 := hB39.drew
  replace hb9 := hb9.drew
  have hkeep := hk6 hbx9 htw9
  go_region_held3 (fun w' => w'.cell? ⟨w3.heap.size, 0, none⟩ = some (.int .u32 4096) ∧ w'.cell? ⟨w3.heap.size, 1, none⟩ = some (.int .u32 0) ∧ w'.cell? ⟨w3.heap.size, 2, none⟩ = some (.slice A3 1 c3) ∧ w'.cell? ⟨w6.heap.size, 0, none⟩ = some (.int .u32 4096) ∧ w'.cell? ⟨w6.heap.size, 1, none⟩ = some (.int .u32 0) ∧ w'.cell? ⟨w6.heap.size, 2, none⟩ = some (.slice A8 2 c8))
    (first | go_keep | exact hk6 hbx9 htw9 | exact hk6 (blk_alloc hbx9 _) (blk_alloc htw9 _))
    (first
      | (go_at_call 20; refine (one_any _).mono ?_; rintro r wa ⟨va, rfl, hoa, hba⟩; obtain ⟨Aa, ca, rfl, _, _, _⟩ := (hoa.toSegs 0).open_; have hsa := hoa.toSegs w3.heap.size; replace hs9 := hs9.below hba; replace hbx9 := blk_below hbx9 hba; replace htw9 := blk_below htw9 hba; replace hB39 := hB39.trans (hba.mono hB39.size); replace hb9 := hb9.trans (hba.mono hb9.size))
      | (go_at_call 17; refine (same_ref w3.heap.size _ _ _ _ _ _ [oneS] [oneS] _ (hs3.below hB39) hsa).mono ?_; rintro r wb ⟨bb, rfl, hiff, hbb⟩; have hbt := hiff.2 ⟨rfl, rfl, rfl⟩; clear hiff; subst hbt; replace hs9 := hs9.below hbb; replace hbx9 := blk_below hbx9 hbb; replace htw9 := blk_below htw9 hbb; replace hB39 := hB39.trans (hbb.mono hB39.size); replace hb9 := hb9.trans (hbb.mono hb9.size))
      | (go_at_call 14; refine (check_any 0 _ _ _ _ _ (by first | exact hs9 | exact lit0 _ _) (by decide)).mono ?_; rintro r wc ⟨rfl, hbc⟩; first | (rw [hk2.out]; replace hs9 := hs9.below hbc; replace hbx9 := blk_below hbx9 hbc; replace htw9 := blk_below htw9 hbc; replace hB39 := hB39.trans (hbc.mono hB39.size); replace hb9 := hb9.trans (hbc.mono hb9.size)) | (rw [hk0.out]; replace hbc := below_then ((Below.refl _ _).alloc (Nat.le_refl _) _) hbc; replace hbx9 := blk_below hbx9 hbc; replace htw9 := blk_below htw9 hbc; replace hb9 := hb9.trans (hbc.mono hb9.size))))
  go_wp2_with fail
  go_ret
  exact ⟨rfl, hb9⟩
end Go.Proofs.Ytlpoebobfdmcmaa
