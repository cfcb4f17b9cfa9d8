/- The walk of Bound. -/
import Derived.Test.YtpafgieijplehaaChkW2
import Derived.Deep.RegionHeld3
import Derived.Deep.AppendLies
set_option linter.unusedVariables false
set_option linter.unusedSimpArgs false
namespace Go.Proofs.Ytpafgieijplehaa
open Go.RowKit

def cut12 (l : List Int) : List Int := l.take 12
def bound (l : List (List Int)) : List (List Int) := (l.take 60).map cut12

set_option maxRecDepth 100000 in
set_option maxHeartbeats 1600000 in
theorem bound_any (b0 : Nat) (n : Int) (l : List (List Int)) (v : Value) (w : World) (hl : Grid b0 w v l) :
    Calls Try.prog 14 #[.agg #[.int .i64 n, v]] w fun e w' => ∃ v', e = .returned (.agg #[.int .i64 n, v']) ∧ OwnGrid w.heap.size 0 w' v' (bound l) ∧ Below w.heap.size w w' := by
  replace hl := grid_re hl (Nat.le_refl w.heap.size)
  obtain ⟨A, c, rfl, hlc, hcm, hnil⟩ := hl.open_
  have hlen : l.length ≤ 9223372036854775807 := by unfold maxLen at hcm; omega
  clear hlc hcm
  go_enter Try.func14, Try.ntmps14
  go_wp2
  go_loopw [3, 4] (fun vl i wr => ∃ k : Nat, k ≤ l.length ∧ k ≤ 60 ∧ i = .int .i64 k ∧ OwnGrid w.heap.size 0 wr vl ((l.take k).map cut12) ∧ wr.heap[w.heap.size]? = some (.cells #[.int .i64 n, .slice A l.length c] 28 (0, 0)) ∧ wr.heap[w.heap.size + 1]? = some (.cells #[.int .i64 0, .slice none 0 0] 28 (0, 0)) ∧ Below w.heap.size w wr) (fun _ i _ => 60 - (intOf i).toNat)
  case atStart => exact ⟨0, Nat.zero_le _, Nat.zero_le _, rfl, Own.empty' (by omega) (by simp), blk_alloc (blk_alloc (blk_new _ _) _) _, blk_alloc (by have := blk_new (w.alloc (.cells #[.int .i64 n, .slice A l.length c] 28)) (.cells #[.int .i64 0, .slice none 0 0] 28); simpa using this) _, (((Below.refl _ _).alloc (Nat.le_refl _) _).alloc (by simp) _).alloc (by simp; omega) _⟩
  case round =>
    obtain ⟨k, hk, hk60, rfl, ho, hbx, hby, hb⟩ := hrel
    have hb0 := cell_of hbx 0
    have hb1 := cell_of hbx 1
    simp only [List.getElem?_toArray, List.getElem?_cons_zero, List.getElem?_cons_succ] at hb0 hb1
    have hl2 := grid_below hl hb
    by_cases hlt : k < l.length
    · by_cases h60 : k < 60
      · obtain ⟨bl, off, u, rfl, hc0, hi0⟩ := hl.at_ hlt []
        have hc := cell_below hb hc0
        have hi := row_below hi0 hb
        have HT := Lib.hid (take_snoc hlt [])
        have htl : ((l.take k).map cut12).length ≤ 60 := by simp; omega
        generalize l.getD k [] = x at hc0 hc HT hi0 hi
        obtain ⟨Ax, cx, rfl, hx1, hx2, _⟩ := hi.open_
        have hxl : x.length ≤ 9223372036854775807 := by unfold maxLen at hx2; omega
        generalize hlk : (l.take k).map cut12 = lk at ho HT htl
        have HLK := Lib.hid hlk
        clear hlk
        have hsw := hb.size
        have hy0 := hi.take (n := min x.length 12) (Nat.min_le_left _ _)
        obtain ⟨y12, hy12⟩ : ∃ y, y = x.take (min x.length 12) := ⟨_, rfl⟩
        rw [← hy12] at hy0
        have hyl : y12.length ≤ 12 := by rw [hy12]; exact Nat.le_trans (List.length_take_le _ _) (Nat.min_le_right _ _)
        have HY : Hid (y12 = cut12 x) := Lib.hid (by rw [hy12, Nat.min_comm, ← List.take_take, List.take_of_length_le (Nat.le_refl _)]; rfl)
        clear hy12
        have R := Lib.hid (show lk ++ [y12] = (l.take (k + 1)).map cut12 by rw [HT.out, List.map_append, HLK.out, HY.out]; rfl)
        have hq : ((12 : Int) < (x.length : Int) ∧ 12 ≤ cx ∧ (12 : Int) ≤ (cx : Int) ∧ Sl w.heap.size 3 I64 wr (.slice Ax 12 cx) y12) ∨ (((¬ (12 : Int) < (x.length : Int)) ∧ ((12 : Int) < (x.length : Int)) = False ∧ (12 < x.length) = False ∧ (if (12 : Int) < (x.length : Int) then 12 else (x.length : Int)) = (x.length : Int)) ∧ x.length ≤ cx ∧ (x.length : Int) ≤ (cx : Int) ∧ Sl w.heap.size 3 I64 wr (.slice Ax x.length cx) y12) := by
          by_cases h12 : (12 : Int) < (x.length : Int)
          · rw [Nat.min_eq_right (by omega)] at hy0
            exact Or.inl ⟨h12, by omega, by omega, hy0⟩
          · rw [Nat.min_eq_left (by omega)] at hy0
            exact Or.inr ⟨⟨h12, eq_false h12, eq_false (by omega), if_neg h12⟩, by omega, by omega, hy0⟩
        clear hy0
        rcases hq with ⟨h12, hq1, hq2, hy0⟩ | ⟨⟨h12, h13, h14, h15⟩, hq1, hq2, hy0⟩
        all_goals
          go_wp2_with fail
          go_region_held3 (fun w' => w'.cell? ⟨w.heap.size, 1, none⟩ = some (.slice (some ⟨bl, off, none⟩) l.length c) ∧ w'.cell? ⟨bl, off + k, none⟩ = some (.slice Ax x.length cx))
            (first
              | go_keep
              | exact ⟨(cell_of hbx3 1).trans rfl, (hb5.cell (World.block_lt_of_cell? w _ hc0)).trans hc0⟩
              | exact ⟨cell_below hB1 hb1, cell_below hB1 hc⟩)
            ((first
              | (refine step_app (w0 := wr) wr.heap.size (by rfl) (.tmp 18) (.tmp 31) 23 3 _ 8 (by rfl) Try.underlying23 info_int rfl (by decide) [] (Own.empty' (w := wr.drew) (R := I64) (Nat.le_refl _) rfl) (stable_i64 _ _) (by decide) (row_below hy0 (((Below.refl _ _).alloc (Nat.le_refl _) _).drew)) (by rfl) (by rfl) (fun _ _ h => by rw [h.1]; rfl) (((Below.refl _ _).alloc (Nat.le_refl _) _).drew) (by simp) (by simp only [List.length_nil]; omega) ?_
                 intro v1 w1 ho1 hB1 hg1
                 rw [List.nil_append] at ho1
                 obtain ⟨A1, c1, rfl, _, _, _⟩ := (ho1.toSl 0).open_
                 have ho2 := ho.move (stable_row1.mono (Nat.zero_le _)) (Quiet.below hB1) (T := [3, 23]) (by decide)
                 have hr1 : Row 0 w1 _ _ := ho1.toSl 0
                 have hb4 := hb.trans (hB1.mono hb.size)
                 have hs4 := Nat.le_trans hb.size hB1.size)
              | (refine step_push (w0 := w) (W := w1) w.heap.size (by rfl) (.tmp 17) (.tmp 33) 22 23 (.slice none 0 0) 24 (by rfl) Try.underlying22 info_row rfl (by decide) [3] ho2 (stable_row1.mono (Nat.zero_le _)) (by decide) hr1 (by rfl) (by rfl) (by rfl) hb4 hs4 (by omega) ?_
                 intro v3 w3 ho3 hb5 hg3
                 have hbx3 := ho2.other hg3 (blk_below hbx hB1) (by simp)
                 have hby3 := ho2.other hg3 (blk_below hby hB1) (by simp))))
          go_wp2
          all_goals
            go_roundw
            case rel => exact ⟨k + 1, by omega, by omega, by go_num, by rw [← R.out]; exact ho3, hbx3, hby3, hb5⟩
            case measure => simp [intOf]; omega
      · have R := Lib.hid (show (l.take k).map cut12 = bound l by rw [bound, show k = 60 by omega])
        rw [R.out] at ho
        obtain ⟨Ao, co, rfl, _, _, _⟩ := (ho.toSl 0).open_
        have hy0 := cell_of hby 0
        have hy1 := cell_of hby 1
        simp only [List.getElem?_toArray, List.getElem?_cons_zero, List.getElem?_cons_succ] at hy0 hy1
        clear R
        have hf0 := frozen_of hby 0
        have hf1 := frozen_of hby 1
        have hby2 := blk_set hby 0 (.int .i64 n)
        have hq1 := Quiet.set hby (B := w.heap.size) (T := [3, 23]) (by omega) (by decide) 0 (.int .i64 n)
        have hq2 := Quiet.set hby2 (B := w.heap.size) (T := [3, 23]) (by omega) (by decide) 1 (.slice Ao (bound l).length co)
        have ho4 := (ho.move (stable_row1.mono (Nat.zero_le _)) hq1 (by decide)).move (stable_row1.mono (Nat.zero_le _)) hq2 (by decide)
        have hby3 := blk_set hby2 1 (.slice Ao (bound l).length co)
        have hr0 := (cell_of hby3 0).trans (show _ = some (Value.int .i64 n) from rfl)
        have hr1 := (cell_of hby3 1).trans (show _ = some (Value.slice Ao (bound l).length co) from rfl)
        go_wp2
        refine bodyPost_ret (v := .agg #[.int .i64 n, .slice Ao (bound l).length co]) (by simp [results, Try.results14, go_sem, hr0, hr1]) rfl ⟨_, rfl, ho4, ?_⟩
        exact (hb.setCell (by simp) _).setCell (by simp) _
    · have R := Lib.hid (show (l.take k).map cut12 = bound l by rw [bound, List.take_of_length_le (by omega), List.take_of_length_le (by omega)])
      rw [R.out] at ho
      obtain ⟨Ao, co, rfl, _, _, _⟩ := (ho.toSl 0).open_
      have hy0 := cell_of hby 0
      have hy1 := cell_of hby 1
      simp only [List.getElem?_toArray, List.getElem?_cons_zero, List.getElem?_cons_succ] at hy0 hy1
      clear R
      have hf0 := frozen_of hby 0
      have hf1 := frozen_of hby 1
      have hby2 := blk_set hby 0 (.int .i64 n)
      have hq1 := Quiet.set hby (B := w.heap.size) (T := [3, 23]) (by omega) (by decide) 0 (.int .i64 n)
      have hq2 := Quiet.set hby2 (B := w.heap.size) (T := [3, 23]) (by omega) (by decide) 1 (.slice Ao (bound l).length co)
      have ho4 := (ho.move (stable_row1.mono (Nat.zero_le _)) hq1 (by decide)).move (stable_row1.mono (Nat.zero_le _)) hq2 (by decide)
      have hby3 := blk_set hby2 1 (.slice Ao (bound l).length co)
      have hr0 := (cell_of hby3 0).trans (show _ = some (Value.int .i64 n) from rfl)
      have hr1 := (cell_of hby3 1).trans (show _ = some (Value.slice Ao (bound l).length co) from rfl)
      go_wp2
      refine bodyPost_ret (v := .agg #[.int .i64 n, .slice Ao (bound l).length co]) (by simp [results, Try.results14, go_sem, hr0, hr1]) rfl ⟨_, rfl, ho4, ?_⟩
      exact (hb.setCell (by simp) _).setCell (by simp) _
end Go.Proofs.Ytpafgieijplehaa
