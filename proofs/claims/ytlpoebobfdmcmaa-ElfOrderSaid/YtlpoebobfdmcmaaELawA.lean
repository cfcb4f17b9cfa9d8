/- Bound, one, fixed. -/
import Derived.Test.YtlpoebobfdmcmaaEOwn
import Derived.Test.YtlpoebobfdmcmaaENum
import Derived.Deep.RegionHeld3
import Derived.Deep.RegionLaw
set_option linter.unusedVariables false
set_option linter.unusedSimpArgs false
namespace Go.Proofs.Ytlpoebobfdmcmaa
open Go.RowKit
def cutSeg (g : Seg) : Seg := ⟨g.addr, g.data.extract 0 (min g.data.size 200), g.size, g.flags⟩
def oneS : Seg := ⟨4096, ⟨#[97, 98, 99, 100]⟩, 8, 5⟩
def boundL (xs : List Seg) : List Seg := (xs.take 18).map cutSeg
theorem oneS_fits : oneS.Fits := ⟨by decide, by decide, by decide, by decide, by decide, by decide⟩
theorem OwnG.lit1 {B : Nat} {w : World} {g : Nat} {S : Seg} (hB : B ≤ g) (hg : w.heap.size = g) (hf : S.Fits) : OwnG B (w.alloc (.cells #[.int .u32 S.addr, .string S.data, .int .i64 S.size, .int .i64 S.flags] 36)) (.slice (some ⟨g, 0, none⟩) 1 1) [S] := by
  subst hg
  exact ⟨World.ownsRow_lit (base := B) (e := 36) (size := 4) w #[.int .u32 S.addr, .string S.data, .int .i64 S.size, .int .i64 S.flags] 1 hB (by decide) rfl, by simpa using hf⟩
set_option maxRecDepth 100000 in
set_option maxHeartbeats 800000 in
theorem bound_any (B : Nat) (en fl : Nat) (v : Value) (xs : List Seg) (w : World) (h : Segs B w v xs) :
    Calls Try.prog 10 #[.agg #[.int .u32 en, .int .u32 fl, v]] w fun r w' => ∃ v', r = .returned (.agg #[.int .u32 en, .int .u32 fl, v']) ∧ OwnG w.heap.size w' v' (boundL xs) ∧ Below w.heap.size w w' := by
  replace h := h.re (Nat.le_refl w.heap.size)
  obtain ⟨A, c, rfl, hc1, hc2, hc3⟩ := h.open_
  have hxl : xs.length ≤ 9223372036854775807 := by unfold maxLen at hc2; omega
  go_enter Try.func10, Try.ntmps10
  have hbx := blk_alloc (blk_alloc (blk_new w (.cells #[.int .u32 en, .int .u32 fl, .slice A xs.length c] 25)) (.cells #[.int .u32 0, .int .u32 0, .slice none 0 0] 25)) (.cells #[] 36)
  have hby : (((w.alloc (.cells #[.int .u32 en, .int .u32 fl, .slice A xs.length c] 25)).alloc (.cells #[.int .u32 0, .int .u32 0, .slice none 0 0] 25)).alloc (.cells #[] 36)).heap[w.heap.size + 1]? = some (.cells #[.int .u32 0, .int .u32 0, .slice none 0 0] 25 (0, 0)) := blk_alloc (blk_top (by simp)) _
  have hb := (((Below.refl w.heap.size w).alloc (Nat.le_refl _) (.cells #[.int .u32 en, .int .u32 fl, .slice A xs.length c] 25)).alloc (by simp) (.cells #[.int .u32 0, .int .u32 0, .slice none 0 0] 25)).alloc (by simp; omega) (.cells #[] 36)
  have ho : OwnG w.heap.size (((w.alloc (.cells #[.int .u32 en, .int .u32 fl, .slice A xs.length c] 25)).alloc (.cells #[.int .u32 0, .int .u32 0, .slice none 0 0] 25)).alloc (.cells #[] 36)) (.slice (some ⟨w.heap.size + 1 + 1, 0, none⟩) 0 0) [] := OwnG.empty (by omega) (by simp)
  go_wp2_with fail
  go_loopw [3, 4] (fun l i wr => ∃ k : Nat, k ≤ xs.length ∧ k ≤ 18 ∧ i = .int .i64 k ∧ OwnG w.heap.size wr l ((xs.take k).map cutSeg) ∧ wr.heap[w.heap.size]? = some (.cells #[.int .u32 en, .int .u32 fl, .slice A xs.length c] 25 (0, 0)) ∧ wr.heap[w.heap.size + 1]? = some (.cells #[.int .u32 0, .int .u32 0, .slice none 0 0] 25 (0, 0)) ∧ Below w.heap.size w wr) (fun _ i _ => 18 - (intOf i).toNat)
  case atStart => exact ⟨0, Nat.zero_le _, by omega, rfl, ho, hbx, hby, hb⟩
  case round =>
    clear hbx hby hb ho
    obtain ⟨k, hk, hk18, rfl, ho, hbx, hby, hb⟩ := hrel
    have hx := h.below hb
    have hx2 := cell_of hbx 2
    simp only [List.getElem?_toArray, List.getElem?_cons_zero, List.getElem?_cons_succ] at hx2
    by_cases hlt : k < xs.length
    · by_cases h18 : k < 18
      · obtain ⟨bb, off, g, rfl, hg, hfit, hat, hbb⟩ := hx.at_ hlt
        have hT := Lib.hid (show (xs.take (k + 1)).map cutSeg = (xs.take k).map cutSeg ++ [cutSeg g] by rw [List.take_add_one, hg]; simp)
        have htl : ((xs.take k).map cutSeg).length ≤ 18 := by simp; omega
        obtain ⟨ha0, ha1, ha2, ha3⟩ := hat
        obtain ⟨ga, gd, gs, gf⟩ := g
        obtain ⟨f1, f2, f3, f4, f5, f6⟩ := hfit
        dsimp only at ha0 ha1 ha2 ha3 f1 f2 f3 f4 f5 f6
        generalize hlk : (xs.take k).map cutSeg = lk at ho hT htl
        have HLK := Lib.hid hlk
        clear hlk
        have hbox := blk_new wr (.cells #[.int .u32 ga, .string gd, .int .i64 gs, .int .i64 gf] 36)
        have hmin : (min (gd.size : Int) 200).toNat = min gd.size 200 := by omega
        obtain ⟨Al, cl, rfl, _, _, _⟩ := (ho.toSegs 0).open_
        obtain ⟨W7, hW7⟩ : ∃ z, z = wr.alloc (.cells #[.int .u32 ga, .string (gd.extract 0 (min gd.size 200)), .int .i64 gs, .int .i64 gf] 36) := ⟨_, rfl⟩
        have hq7 : Below wr.heap.size wr W7 := by rw [hW7]; exact (Below.refl _ _).alloc (Nat.le_refl _) _
        have ho7 : OwnG w.heap.size W7 _ lk := ho.move (T := [36]) (Quiet.below hq7) (by decide)
        have hb7 := hb.trans (hq7.mono hb.size)
        have hs7 := Nat.le_trans hb.size hq7.size
        have hbx7 := blk_below hbx hq7
        have hby7 := blk_below hby hq7
        have hz7 : W7.heap.size = wr.heap.size + 1 := by rw [hW7]; simp
        have hcf : (cutSeg ⟨ga, gd, gs, gf⟩).Fits := ⟨f1, by simp only [cutSeg, ByteArray.size_extract]; unfold maxLen; omega, f3, f4, f5, f6⟩
        replace hz7 := Lib.hid hz7
        replace hW7 := Lib.hid hW7
        go_wp2_with (first | (at_builtin; rw [← hW7.out]; go_loud (refine wpList_pushG (w0 := w) (W := W7) w.heap.size (by rfl) (.tmp 31) (.tmp 33) (by rfl) ho7 (cutSeg ⟨ga, gd, gs, gf⟩) hcf (by rfl) (by rw [hz7.out]; rfl) hb7 hs7 (by omega) ?_); intro v1 w8 ho8 hb8 hg8; have hbx8 := ho7.other hg8 hbx7 (by simp); have hby8 := ho7.other hg8 hby7 (by simp)) | fail)
        go_roundw
        case rel => exact ⟨k + 1, hlt, h18, vsucc _, by rw [hT.out]; exact ho8, hbx8, hby8, hb8⟩
        case measure => simp [intOf] <;> omega
      · have hF := Lib.hid (show (xs.take k).map cutSeg = boundL xs by rw [boundL, show k = 18 by omega])
        generalize (xs.take k).map cutSeg = lk at ho hF
        obtain ⟨Al, cl, rfl, _, _, _⟩ := (ho.toSegs 0).open_
        have hy0 := cell_of hby 0
        have hy1 := cell_of hby 1
        have hy2 := cell_of hby 2
        have hx0 := cell_of hbx 0
        have hx1 := cell_of hbx 1
        simp only [List.getElem?_toArray, List.getElem?_cons_zero, List.getElem?_cons_succ] at hx0 hx1 hy0 hy1 hy2
        have fx := frozen_of hbx 2
        have fy0 := frozen_of hby 0
        have fy1 := frozen_of hby 1
        have fy2 := frozen_of hby 2
        go_wp2_with fail
        have k1 : (wr.setCell ⟨w.heap.size, 2, none⟩ (.slice Al lk.length cl)).heap[w.heap.size + 1]? = some (.cells #[.int .u32 0, .int .u32 0, .slice none 0 0] 25 (0, 0)) := (Below.heap_setCell _ _ _ _ (by simp)).trans hby
        have k2 := blk_set (blk_set (blk_set k1 0 (.int .u32 en)) 1 (.int .u32 fl)) 2 (.slice Al lk.length cl)
        have r0 := cell_of k2 0
        have r1 := cell_of k2 1
        have r2 := cell_of k2 2
        simp only [List.setIfInBounds_toArray, List.set_cons_zero, List.set_cons_succ, List.getElem?_toArray, List.getElem?_cons_zero, List.getElem?_cons_succ] at r0 r1 r2
        have ho9 := (((ho.move (Quiet.set hbx (B := w.heap.size) (T := [36]) (Nat.le_refl _) (by decide) 2 (.slice Al lk.length cl)) (by decide)).move (Quiet.set k1 (B := w.heap.size) (T := [36]) (by omega) (by decide) 0 (.int .u32 en)) (by decide)).move (Quiet.set (blk_set k1 0 (.int .u32 en)) (B := w.heap.size) (T := [36]) (by omega) (by decide) 1 (.int .u32 fl)) (by decide)).move (Quiet.set (blk_set (blk_set k1 0 (.int .u32 en)) 1 (.int .u32 fl)) (B := w.heap.size) (T := [36]) (by omega) (by decide) 2 (.slice Al lk.length cl)) (by decide)
        refine bodyPost_ret (v := .agg #[.int .u32 en, .int .u32 fl, .slice Al lk.length cl]) (by simp [results, Try.results10, go_sem, r0, r1, r2]) rfl ?_
        exact ⟨_, rfl, hF.out ▸ ho9, (((hb.setCell (Nat.le_refl _) _).setCell (by simp) _).setCell (by simp) _).setCell (by simp) _⟩
    · have hF := Lib.hid (show (xs.take k).map cutSeg = boundL xs by rw [boundL, List.take_of_length_le (by omega), List.take_of_length_le (by omega)])
      generalize (xs.take k).map cutSeg = lk at ho hF
      obtain ⟨Al, cl, rfl, _, _, _⟩ := (ho.toSegs 0).open_
      have hy0 := cell_of hby 0
      have hy1 := cell_of hby 1
      have hy2 := cell_of hby 2
      have hx0 := cell_of hbx 0
      have hx1 := cell_of hbx 1
      simp only [List.getElem?_toArray, List.getElem?_cons_zero, List.getElem?_cons_succ] at hx0 hx1 hy0 hy1 hy2
      have fx := frozen_of hbx 2
      have fy0 := frozen_of hby 0
      have fy1 := frozen_of hby 1
      have fy2 := frozen_of hby 2
      go_wp2_with fail
      have k1 : (wr.setCell ⟨w.heap.size, 2, none⟩ (.slice Al lk.length cl)).heap[w.heap.size + 1]? = some (.cells #[.int .u32 0, .int .u32 0, .slice none 0 0] 25 (0, 0)) := (Below.heap_setCell _ _ _ _ (by simp)).trans hby
      have k2 := blk_set (blk_set (blk_set k1 0 (.int .u32 en)) 1 (.int .u32 fl)) 2 (.slice Al lk.length cl)
      have r0 := cell_of k2 0
      have r1 := cell_of k2 1
      have r2 := cell_of k2 2
      simp only [List.setIfInBounds_toArray, List.set_cons_zero, List.set_cons_succ, List.getElem?_toArray, List.getElem?_cons_zero, List.getElem?_cons_succ] at r0 r1 r2
      have ho9 := (((ho.move (Quiet.set hbx (B := w.heap.size) (T := [36]) (Nat.le_refl _) (by decide) 2 (.slice Al lk.length cl)) (by decide)).move (Quiet.set k1 (B := w.heap.size) (T := [36]) (by omega) (by decide) 0 (.int .u32 en)) (by decide)).move (Quiet.set (blk_set k1 0 (.int .u32 en)) (B := w.heap.size) (T := [36]) (by omega) (by decide) 1 (.int .u32 fl)) (by decide)).move (Quiet.set (blk_set (blk_set k1 0 (.int .u32 en)) 1 (.int .u32 fl)) (B := w.heap.size) (T := [36]) (by omega) (by decide) 2 (.slice Al lk.length cl)) (by decide)
      refine bodyPost_ret (v := .agg #[.int .u32 en, .int .u32 fl, .slice Al lk.length cl]) (by simp [results, Try.results10, go_sem, r0, r1, r2]) rfl ?_
      exact ⟨_, rfl, hF.out ▸ ho9, (((hb.setCell (Nat.le_refl _) _).setCell (by simp) _).setCell (by simp) _).setCell (by simp) _⟩
set_option maxRecDepth 100000 in
set_option maxHeartbeats 800000 in
theorem one_any (w : World) :
    Calls Try.prog 20 #[] w fun r w' => ∃ v', r = .returned (.agg #[.int .u32 4096, .int .u32 0, v']) ∧ OwnG w.heap.size w' v' [oneS] ∧ Below w.heap.size w w' := by
  go_enter Try.func20, Try.ntmps20
  go_wp2_with fail
  refine bodyPost_ret (v := .agg #[.int .u32 4096, .int .u32 0, .slice (some ⟨w.heap.size + 1, 0, none⟩) 1 1]) (by simp [results, Try.results20, go_sem]) rfl ?_
  have hb := ((Below.refl w.heap.size w).alloc (Nat.le_refl _) (.cells #[.int .u32 4096, .int .u32 0, .slice (some ⟨w.heap.size + 1, 0, none⟩) 1 1] 25)).alloc (by simp) (.cells #[.int .u32 4096, .string ⟨#[97, 98, 99, 100]⟩, .int .i64 8, .int .i64 5] 36)
  exact ⟨_, rfl, OwnG.lit1 (by omega) (by simp) oneS_fits, hb⟩
end Go.Proofs.Ytlpoebobfdmcmaa
