/- The walk of the law RupChecks. -/
import Derived.Test.YtpafgieijplehaaL1W
set_option linter.unusedVariables false
set_option linter.unusedSimpArgs false
namespace Go.Proofs.Ytpafgieijplehaa
open Go.RowKit

theorem okGrid_bound {l : List (List Int)} (h : Rup.okGrid l) : Rup.okGrid (bound l) := by
  intro c hc x hx
  obtain ⟨a, ha, rfl⟩ := List.mem_map.1 hc
  exact h a (List.mem_of_mem_take ha) x (List.mem_of_mem_take hx)
theorem check_eq {l p : List (List Int)} (hl : Rup.okGrid l) (hp : Rup.okGrid p) : Rup.check Rup.follows l p 0 false = Rup.check Rup.rfollows l p 0 false :=
  Rup.check_congr p l 0 false hl hp fun _ _ h1 h2 => Rup.follows_eq h1 h2
set_option maxRecDepth 100000 in
set_option maxHeartbeats 800000 in
theorem law2_any (b0 b1 : Nat) (n : Int) (l p : List (List Int)) (vl vp : Value) (w : World) (hl : Grid b0 w vl l) (hp : Grid b1 w vp p) :
    Calls Try.prog 4 #[.agg #[.int .i64 n, vl], vp] w fun e w' => e = .returned (.bool true) ∧ Below w.heap.size w w' := by
  obtain ⟨A, c, rfl, _, _, _⟩ := hl.open_
  obtain ⟨B, d, rfl, hd1, hd2, _⟩ := hp.open_
  replace hl := grid_re hl (Nat.le_refl _)
  replace hp := grid_re hp (Nat.le_refl _)
  go_enter Try.func4, Try.ntmps4
  have hb := (Below.refl w.heap.size w).alloc (Nat.le_refl _) (.cells #[.int .i64 n, .slice A l.length c] 28)
  have hbx := blk_new w (.cells #[.int .i64 n, .slice A l.length c] 28)
  replace hl := grid_alloc hl (.cells #[.int .i64 n, .slice A l.length c] 28)
  replace hp := grid_alloc hp (.cells #[.int .i64 n, .slice A l.length c] 28)
  go_wp2_with fail
  refine (bound_any _ _ _ _ _ hl).mono ?_
  rintro e w1 ⟨v1, rfl, ho, hb1⟩
  have hg : Grid 0 _ _ _ := ho.toSl 0
  clear ho hl
  replace hb := below_then hb hb1
  replace hp := grid_below hp hb1
  replace hbx := blk_below hbx hb1
  clear hb1
  obtain ⟨A1, c1, rfl, _, _, _⟩ := hg.open_
  have hf0 := frozen_of hbx 0
  have hf1 := frozen_of hbx 1
  have hcc0 := (cell_of hbx 0).trans (show _ = some (Value.int .i64 n) from rfl)
  have hcc1 := (cell_of hbx 1).trans (show _ = some (Value.slice A l.length c) from rfl)
  have hq1 := Quiet.set hbx (B := w.heap.size) (T := [3, 23]) (Nat.le_refl _) (by decide) 0 (.int .i64 n)
  have hbx2 := blk_set hbx 0 (.int .i64 n)
  have hq2 := Quiet.set hbx2 (B := w.heap.size) (T := [3, 23]) (Nat.le_refl _) (by decide) 1 (.slice A1 (bound l).length c1)
  have hbx3 := blk_set hbx2 1 (.slice A1 (bound l).length c1)
  replace hbx3 : _ = some (Obj.cells #[.int .i64 n, .slice A1 (bound l).length c1] 28 (0, 0)) := hbx3
  replace hg := grid_q (grid_q hg hq1) hq2
  replace hp := grid_q (grid_q hp hq1) hq2
  replace hb := (hb.setCell (p := ⟨w.heap.size, 0, none⟩) (Nat.le_refl _) (.int .i64 n)).setCell (p := ⟨w.heap.size, 1, none⟩) (Nat.le_refl _) (.slice A1 (bound l).length c1)
  have hlk := bound_len l
  have hfk := bound_flat l
  have hlp := bound_len p
  have hfp := bound_flat p
  have hEq := Lib.hid (check_eq (grid_ok hg) (show Rup.okGrid (bound p) from okGrid_bound (grid_ok hp)))
  have hS1 := Lib.hid (same_bound l)
  have hS2 := Lib.hid (same_bound p)
  have hz10 := (cell_of hbx3 0).trans (show _ = some (Value.int .i64 n) from rfl)
  have hz11 := (cell_of hbx3 1).trans (show _ = some (Value.slice A1 (bound l).length c1) from rfl)
  go_wp2_with fail
  clear hbx hbx2 hq1 hq2 hf0 hf1 hcc0 hcc1
  refine (lists_any _ _ _ _ hp).mono ?_
  rintro e w2 ⟨v2, rfl, ho, hb2⟩
  replace hp : Grid 0 _ _ _ := ho.toSl 0
  clear ho hz10 hz11
  replace hb := below_then hb hb2
  replace hg := grid_below hg hb2
  replace hbx3 := blk_below hbx3 hb2
  clear hb2
  have hz20 := (cell_of hbx3 0).trans (show _ = some (Value.int .i64 n) from rfl)
  have hz21 := (cell_of hbx3 1).trans (show _ = some (Value.slice A1 (bound l).length c1) from rfl)
  go_wp2_with fail
  refine (lists_any _ _ _ _ hg).mono ?_
  rintro e w3 ⟨v3, rfl, ho, hb3⟩
  have hw : Grid 0 _ _ _ := ho.toSl 0
  clear ho hz20 hz21
  replace hb := below_then hb hb3
  replace hg := grid_below hg hb3
  replace hp := grid_below hp hb3
  replace hbx3 := blk_below hbx3 hb3
  clear hb3
  have hz30 := (cell_of hbx3 0).trans (show _ = some (Value.int .i64 n) from rfl)
  have hz31 := (cell_of hbx3 1).trans (show _ = some (Value.slice A1 (bound l).length c1) from rfl)
  go_wp2_with fail
  refine (lists_any _ _ _ _ hp).mono ?_
  rintro e w4 ⟨v4, rfl, ho, hb4⟩
  have hh : Grid 0 _ _ _ := ho.toSl 0
  clear ho hz30 hz31
  replace hb := below_then hb hb4
  replace hg := grid_below hg hb4
  replace hp := grid_below hp hb4
  replace hw := grid_below hw hb4
  replace hbx3 := blk_below hbx3 hb4
  clear hb4
  have hz40 := (cell_of hbx3 0).trans (show _ = some (Value.int .i64 n) from rfl)
  have hz41 := (cell_of hbx3 1).trans (show _ = some (Value.slice A1 (bound l).length c1) from rfl)
  go_wp2_with fail
  refine (check_any _ _ _ _ _ _ _ _ hg hp (by omega)).mono ?_
  rintro e w5 ⟨rfl, hb5⟩
  clear hz40 hz41
  replace hb := below_then hb hb5
  replace hg := grid_below hg hb5
  replace hp := grid_below hp hb5
  replace hw := grid_below hw hb5
  replace hh := grid_below hh hb5
  replace hbx3 := blk_below hbx3 hb5
  clear hb5
  have hz50 := (cell_of hbx3 0).trans (show _ = some (Value.int .i64 n) from rfl)
  have hz51 := (cell_of hbx3 1).trans (show _ = some (Value.slice A1 (bound l).length c1) from rfl)
  go_wp2_with fail
  refine (check16_any _ _ _ _ _ _ _ _ hg hp (by omega) (by omega)).mono ?_
  rintro e w6 ⟨rfl, hb6⟩
  rw [← hEq.out]
  clear hz50 hz51
  replace hb := below_then hb hb6
  replace hg := grid_below hg hb6
  replace hp := grid_below hp hb6
  replace hw := grid_below hw hb6
  replace hh := grid_below hh hb6
  replace hbx3 := blk_below hbx3 hb6
  clear hb6
  have hz60 := (cell_of hbx3 0).trans (show _ = some (Value.int .i64 n) from rfl)
  have hz61 := (cell_of hbx3 1).trans (show _ = some (Value.slice A1 (bound l).length c1) from rfl)
  go_wp2_with fail
  refine (same_val _ _ _ _ _ _ _ hg hw _ hS1.out).mono ?_
  rintro e w7 ⟨rfl, hb7⟩
  clear hz60 hz61
  replace hb := below_then hb hb7
  replace hg := grid_below hg hb7
  replace hp := grid_below hp hb7
  replace hw := grid_below hw hb7
  replace hh := grid_below hh hb7
  replace hbx3 := blk_below hbx3 hb7
  clear hb7
  have hz70 := (cell_of hbx3 0).trans (show _ = some (Value.int .i64 n) from rfl)
  have hz71 := (cell_of hbx3 1).trans (show _ = some (Value.slice A1 (bound l).length c1) from rfl)
  go_wp2_with fail
  refine (same_val _ _ _ _ _ _ _ hp hh _ hS2.out).mono ?_
  rintro e w8 ⟨rfl, hb8⟩
  clear hz70 hz71
  replace hb := below_then hb hb8
  replace hg := grid_below hg hb8
  replace hp := grid_below hp hb8
  replace hw := grid_below hw hb8
  replace hh := grid_below hh hb8
  replace hbx3 := blk_below hbx3 hb8
  clear hb8
  go_wp2_with fail
  refine (fixed_any _).mono ?_
  rintro e w9 ⟨rfl, hb9⟩
  replace hb := below_then hb hb9
  clear hb9
  go_wp2
  go_ret
  exact ⟨ret_val (by simp), hb⟩
end Go.Proofs.Ytpafgieijplehaa
