/- The walk of the law RupSound. -/
import Derived.Test.YtpafgieijplehaaL2W
import Derived.Test.YtpafgieijplehaaLawB
set_option linter.unusedVariables false
set_option linter.unusedSimpArgs false
namespace Go.Proofs.Ytpafgieijplehaa
open Go.RowKit

set_option maxRecDepth 100000 in
set_option maxHeartbeats 1600000 in
theorem law3_any (b0 b1 b2 : Nat) (n : Int) (l p : List (List Int)) (a : List Bool) (vl vp va : Value) (w : World) (hl : Grid b0 w vl l) (hp : Grid b1 w vp p) (ha : Bits b2 w va a) :
    Calls Try.prog 5 #[.agg #[.int .i64 n, vl], vp, va] w fun e w' => e = .returned (.bool true) ∧ Below w.heap.size w w' := by
  replace ha := bits_re ha (Nat.le_refl _)
  replace hl := grid_re hl (Nat.le_refl _)
  replace hp := grid_re hp (Nat.le_refl _)
  obtain ⟨A, c, rfl, _, _, _⟩ := hl.open_
  obtain ⟨B, d, rfl, hd1, hd2, _⟩ := hp.open_
  obtain ⟨Aa, ca, rfl, hca, hcb, _⟩ := ha.open_
  have hal : a.length ≤ 9223372036854775807 := by unfold maxLen at hcb; omega
  have hy0 := ha.take (n := min a.length 100) (Nat.min_le_left _ _)
  obtain ⟨a1, hey⟩ : ∃ y, y = a.take (min a.length 100) := ⟨_, rfl⟩
  rw [← hey] at hy0
  have hla1 : a1.length ≤ 100 := by rw [hey]; exact Nat.le_trans (List.length_take_le _ _) (Nat.min_le_right _ _)
  have HCa1 : Hid (a1 = a.take 100) := Lib.hid (by rw [hey, Nat.min_comm, ← List.take_take, List.take_of_length_le (Nat.le_refl _)])
  clear hey
  have hq : ((100 : Int) < (a.length : Int) ∧ 100 ≤ ca ∧ (100 : Int) ≤ (ca : Int) ∧ Bits w.heap.size w (.slice Aa 100 ca) a1) ∨ (((¬ (100 : Int) < (a.length : Int)) ∧ ((100 : Int) < (a.length : Int)) = False ∧ (100 < a.length) = False ∧ (if (100 : Int) < (a.length : Int) then 100 else (a.length : Int)) = (a.length : Int)) ∧ a.length ≤ ca ∧ (a.length : Int) ≤ (ca : Int) ∧ Bits w.heap.size w (.slice Aa a.length ca) a1) := by
    by_cases h12 : (100 : Int) < (a.length : Int)
    · rw [Nat.min_eq_right (by omega)] at hy0
      exact Or.inl ⟨h12, by omega, by omega, hy0⟩
    · rw [Nat.min_eq_left (by omega)] at hy0
      exact Or.inr ⟨⟨h12, eq_false h12, eq_false (by omega), if_neg h12⟩, by omega, by omega, hy0⟩
  clear hy0
  rcases hq with ⟨h12, hq1, hq2, ha1⟩ | ⟨⟨h12, h13, h14, h15⟩, hq1, hq2, ha1⟩
  all_goals
    go_enter Try.func5, Try.ntmps5
    have hb := (Below.refl w.heap.size w).alloc (Nat.le_refl _) (.cells #[.int .i64 n, .slice A l.length c] 28)
    have hbx := blk_new w (.cells #[.int .i64 n, .slice A l.length c] 28)
    replace hl := grid_alloc hl (.cells #[.int .i64 n, .slice A l.length c] 28)
    replace hp := grid_alloc hp (.cells #[.int .i64 n, .slice A l.length c] 28)
    replace ha1 := bits_below ha1 hb
    go_wp2_with fail
    refine (bound_any _ _ _ _ _ hl).mono ?_
    rintro e w1 ⟨v1, rfl, ho, hb1⟩
    have hg : Grid 0 _ _ _ := ho.toSl 0
    clear ho hl
    replace hb := below_then hb hb1
    replace hp := grid_below hp hb1
    replace ha1 := bits_below ha1 hb1
    replace hbx := blk_below hbx hb1
    clear hb1
    obtain ⟨A1, c1, rfl, _, _, _⟩ := hg.open_
    have hf0 := frozen_of hbx 0
    have hf1 := frozen_of hbx 1
    have hcc0 := (cell_of hbx 0).trans (show _ = some (Value.int .i64 n) from rfl)
    have hcc1 := (cell_of hbx 1).trans (show _ = some (Value.slice A l.length c) from rfl)
    have hq1 := Quiet.set hbx (B := w.heap.size) (T := [3, 23, 4]) (Nat.le_refl _) (by decide) 0 (.int .i64 n)
    have hbx2 := blk_set hbx 0 (.int .i64 n)
    have hq2 := Quiet.set hbx2 (B := w.heap.size) (T := [3, 23, 4]) (Nat.le_refl _) (by decide) 1 (.slice A1 (bound l).length c1)
    have hbx3 := blk_set hbx2 1 (.slice A1 (bound l).length c1)
    replace hbx3 : _ = some (Obj.cells #[.int .i64 n, .slice A1 (bound l).length c1] 28 (0, 0)) := hbx3
    replace hg := grid_q (grid_q hg (hq1.mono (Nat.le_refl _) (by decide))) (hq2.mono (Nat.le_refl _) (by decide))
    replace hp := grid_q (grid_q hp (hq1.mono (Nat.le_refl _) (by decide))) (hq2.mono (Nat.le_refl _) (by decide))
    replace ha1 := bits_q (bits_q ha1 (hq1.mono (Nat.le_refl _) (by decide))) (hq2.mono (Nat.le_refl _) (by decide))
    replace hb := (hb.setCell (p := ⟨w.heap.size, 0, none⟩) (Nat.le_refl _) (.int .i64 n)).setCell (p := ⟨w.heap.size, 1, none⟩) (Nat.le_refl _) (.slice A1 (bound l).length c1)
    have hlk := bound_len l
    have hfk := bound_flat l
    have hlp := bound_len p
    have hfp := bound_flat p
    have hz10 := (cell_of hbx3 0).trans (show _ = some (Value.int .i64 n) from rfl)
    have hz11 := (cell_of hbx3 1).trans (show _ = some (Value.slice A1 (bound l).length c1) from rfl)
    go_wp2_with fail
    clear hbx hbx2 hq1 hq2 hf0 hf1 hcc0 hcc1
    refine (lists_any _ _ _ _ hp).mono ?_
    rintro e w2 ⟨v2, rfl, ho, hb2⟩
    replace hp : Grid 0 _ _ _ := ho.toSl 0
    clear ho hz10 hz11
    replace hb := below_then hb hb2
    replace hg := grid_below hg hb2
    replace ha1 := bits_below ha1 hb2
    replace hbx3 := blk_below hbx3 hb2
    clear hb2
    obtain ⟨B2, d2, rfl, _, _, _⟩ := hp.open_
    have hz20 := (cell_of hbx3 0).trans (show _ = some (Value.int .i64 n) from rfl)
    have hz21 := (cell_of hbx3 1).trans (show _ = some (Value.slice A1 (bound l).length c1) from rfl)
    have hal1 : a1.length ≤ 1000000 := by omega
    clear hz20 hz21
    have hz20 := cell_alloc0 ((cell_of hbx3 0).trans (show _ = some (Value.int .i64 n) from rfl)) (.cells #[] 23)
    have hz21 := cell_alloc0 ((cell_of hbx3 1).trans (show _ = some (Value.slice A1 (bound l).length c1) from rfl)) (.cells #[] 23)
    go_wp2
    go_loopw [7, 8] (fun vl i wr => ∃ k : Nat, k ≤ (bound l).length ∧ i = .int .i64 k ∧ ∃ lf : List (List Int), Hid (lf = ((bound l).take k).filter (clauseAt a1)) ∧ lf.length ≤ k ∧ OwnGrid w2.heap.size 0 wr vl lf ∧ Below w2.heap.size w2 wr) (fun _ i _ => (bound l).length - (intOf i).toNat)
    case atStart => exact ⟨0, Nat.zero_le _, rfl, [], Lib.hid (by simp), Nat.le_refl _, Own.empty _ _ _ _ (Nat.le_refl _), (Below.refl _ _).alloc (Nat.le_refl _) _⟩
    case round =>
      clear hz20 hz21
      obtain ⟨k, hk, rfl, lf, HF, hlf, ho, hb2⟩ := hrel
      have hg2 := grid_below hg hb2
      have ha2 := bits_below ha1 hb2
      have hbx4 := blk_below hbx3 hb2
      have hz40 := (cell_of hbx4 0).trans (show _ = some (Value.int .i64 n) from rfl)
      have hz41 := (cell_of hbx4 1).trans (show _ = some (Value.slice A1 (bound l).length c1) from rfl)
      by_cases hlt : k < (bound l).length
      · obtain ⟨bl, off, u, rfl, hc, hi⟩ := hg2.at_ hlt []
        have HT := Lib.hid (take_snoc hlt [])
        generalize (bound l).getD k [] = x at hc HT hi
        obtain ⟨Ax, cx, rfl, _, _, _⟩ := hi.open_
        rcases Bool.eq_false_or_eq_true (clauseAt a1 x) with hcl | hcl
        · have R := Lib.hid (show lf ++ [x] = ((bound l).take (k + 1)).filter (clauseAt a1) by rw [HT.out, List.filter_append, ← HF.out]; simp [hcl])
          go_wp2_with (first | (go_at_call 18; refine (clause_val _ _ _ _ _ _ _ hi ha2 hal1 _ hcl).mono ?_; rintro e w3 ⟨rfl, hb3⟩; have ho3 := ho.move (stable_row1.mono (Nat.zero_le _)) (Quiet.below hb3) (T := [3, 23]) (by decide); have hi3 := row_below hi hb3; have hb4 := hb2.trans (hb3.mono hb2.size); have hbx5 := blk_below hbx4 hb3; have hc5 := cell_below hb3 hc; have hz50 := (cell_of hbx5 0).trans (show _ = some (Value.int .i64 n) from rfl); have hz51 := (cell_of hbx5 1).trans (show _ = some (Value.slice (some ⟨bl, off, none⟩) (bound l).length c1) from rfl); clear hz40 hz41) | (at_builtin; refine wpList_push (w0 := w2) w2.heap.size rfl _ _ 22 23 _ 24 rfl Try.underlying22 info_row rfl (by decide) [3] ho3 (stable_row1.mono (Nat.zero_le _)) (by decide) hi3 rfl rfl rfl hb4 hb4.size (by omega) ?_; intro v5 w5 ho5 hb5 hg5) | go_in)
          go_roundw
          case rel => exact ⟨k + 1, by omega, by go_num, _, R, by simp; omega, ho5, hb5⟩
          case measure => simp [intOf]; omega
        · have R := Lib.hid (show lf = ((bound l).take (k + 1)).filter (clauseAt a1) by rw [HT.out, List.filter_append, ← HF.out]; simp [hcl])
          go_wp2_with (first | (go_at_call 18; refine (clause_val _ _ _ _ _ _ _ hi ha2 hal1 _ hcl).mono ?_; rintro e w3 ⟨rfl, hb3⟩; have ho3 := ho.move (stable_row1.mono (Nat.zero_le _)) (Quiet.below hb3) (T := [3, 23]) (by decide); have hb4 := hb2.trans (hb3.mono hb2.size)) | go_in)
          go_roundw
          case rel => exact ⟨k + 1, by omega, by go_num, _, R, by omega, ho3, hb4⟩
          case measure => simp [intOf]; omega
      · have HF2 := Lib.hid (show lf = (bound l).filter (clauseAt a1) by rw [HF.out, List.take_of_length_le (by omega)])
        obtain ⟨Al, cl, rfl, _, _, _⟩ := (ho.toSl 0).open_
        have hgl : Grid 0 _ _ _ := ho.toSl 0
        have hp2 := grid_below hp hb2
        replace hb := hb.trans (hb2.mono hb.size)
        have hA : ∀ c, c ∈ lf → clauseAt a1 c = true := fun c hc => by rw [HF2.out] at hc; exact (List.mem_filter.1 hc).2
        have hS := Rup.check_sound hal1 (bound p) lf 0 false (grid_ok hgl) (grid_ok hp2) hA
        obtain ⟨hS1, hS2, hS3, hS4⟩ := hS
        generalize hch : Rup.check Rup.follows lf (bound p) 0 false = ch at hS1 hS2 hS3 hS4
        obtain ⟨nn, ee⟩ := ch
        simp only at hS1 hS3 hS4
        subst hS1
        have hl60 : lf.length ≤ 60 := by omega
        clear hb2 hg2 hS2 HF HF2 ho hA
        have hS5 := Lib.hid hS4
        clear hS4
        go_wp2_with fail
        refine (check_val _ _ _ _ _ _ _ _ hgl hp2 (by omega) (nn : Int) false (by simpa using hch) (Int.natCast_nonneg _)).mono ?_
        rintro e w6 ⟨rfl, hb6⟩
        clear hch hgl hbx4 hz40 hz41
        replace hb := below_then hb hb6
        replace hp2 := grid_below hp2 hb6
        replace ha2 := bits_below ha2 hb6
        clear hb6
        have hd1 : decide ((nn : Int) < 0) = false := decide_eq_false (by omega)
        have hd2 : decide ((bound p).length < nn) = false := decide_eq_false (by omega)
        have hd3 : decide (((bound p).length : Int) < (nn : Int)) = false := decide_eq_false (by omega)
        go_wp2
        clear hk hlt
        go_loopw [11] (fun i wr => ∃ k : Nat, k ≤ nn ∧ i = .int .i64 k ∧ Below w6.heap.size w6 wr) (fun i _ => nn - (intOf i).toNat)
        case atStart => exact ⟨0, Nat.zero_le _, rfl, Below.refl _ _⟩
        case round =>
          obtain ⟨k, hk, rfl, hb7⟩ := hrel
          have hp3 := grid_below hp2 hb7
          have ha3 := bits_below ha2 hb7
          by_cases hlt : k < nn
          · have hcl := hS5.out k (Nat.zero_le _) hlt
            simp only [Nat.sub_zero] at hcl
            obtain ⟨bl, off, u, rfl, hc, hi⟩ := hp3.at_ (k := k) (by omega) []
            generalize (bound p).getD k [] = x at hc hi hcl
            obtain ⟨Ax, cx, rfl, _, _, _⟩ := hi.open_
            have hcl2 := Lib.hid hcl
            clear hcl
            go_wp2_with (first | (go_at_call 18; refine (clause_val _ _ _ _ _ _ _ hi ha3 hal1 _ hcl2.out).mono ?_; rintro e w8 ⟨rfl, hb8⟩) | go_in)
            go_roundw
            case rel => exact ⟨k + 1, by omega, by go_num, hb7.trans (hb8.mono hb7.size)⟩
            case measure => simp [intOf]; omega
          · replace hb := below_then hb hb7
            clear hb7
            go_wp2_with fail
            refine (fixed_any _).mono ?_
            rintro e w9 ⟨rfl, hb9⟩
            replace hb := below_then hb hb9
            clear hb9
            go_wp2
            go_ret
            exact ⟨rfl, hb⟩
end Go.Proofs.Ytpafgieijplehaa
