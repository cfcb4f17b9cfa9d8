/- The walk of the law RupMore. -/
import Derived.Test.YtpafgieijplehaaL3W
set_option linter.unusedVariables false
set_option linter.unusedSimpArgs false
namespace Go.Proofs.Ytpafgieijplehaa
open Go.RowKit

theorem follows_self {l : List (List Int)} {c : List Int} (hl : Rup.okGrid l) (hc : c ∈ l) : Rup.follows l c = true :=
  (Rup.follows_iff hl (hl c hc)).2 (Or.inl ⟨c, hc, fun y hy hn => .start hy hn⟩)
theorem follows_mono {l l' : List (List Int)} {p p' : List Int} (hl : Rup.okGrid l) (hp : Rup.okRow p) (hl' : Rup.okGrid l') (hp' : Rup.okRow p') (h1 : ∀ c, c ∈ l → c ∈ l') (h2 : ∀ x, x ∈ p → x ∈ p') (h : Rup.follows l p = true) : Rup.follows l' p' = true :=
  (Rup.follows_iff hl' hp').2 (((Rup.follows_iff hl hp).1 h).mono h1 h2)

set_option maxRecDepth 100000 in
set_option maxHeartbeats 3200000 in
theorem law4_any (b0 b1 b2 : Nat) (l m : List (List Int)) (p : List Int) (vl vm vp : Value) (w : World) (hl : Grid b0 w vl l) (hm : Grid b1 w vm m) (hp : Row b2 w vp p) :
    Calls Try.prog 6 #[vl, vm, vp] w fun e w' => e = .returned (.bool true) ∧ Below w.heap.size w w' := by
  replace hl := grid_re hl (Nat.le_refl _)
  replace hm := grid_re hm (Nat.le_refl _)
  replace hp := row_re hp (Nat.le_refl _)
  obtain ⟨A, c, rfl, _, _, _⟩ := hl.open_
  obtain ⟨B, d, rfl, hd1, hd2, _⟩ := hm.open_
  obtain ⟨Aa, ca, rfl, hca, hcb, _⟩ := hp.open_
  have hal : p.length ≤ 9223372036854775807 := by unfold maxLen at hcb; omega
  clear hd1 hd2
  have hy0 := hp.take (n := min p.length 12) (Nat.min_le_left _ _)
  obtain ⟨y, hey⟩ : ∃ y, y = p.take (min p.length 12) := ⟨_, rfl⟩
  rw [← hey] at hy0
  have hly : y.length ≤ 12 := by rw [hey]; exact Nat.le_trans (List.length_take_le _ _) (Nat.min_le_right _ _)
  have HCy : Hid (y = p.take 12) := Lib.hid (by rw [hey, Nat.min_comm, ← List.take_take, List.take_of_length_le (Nat.le_refl _)])
  clear hey
  have hq : ((12 : Int) < (p.length : Int) ∧ 12 ≤ ca ∧ (12 : Int) ≤ (ca : Int) ∧ Row w.heap.size w (.slice Aa 12 ca) y) ∨ (((¬ (12 : Int) < (p.length : Int)) ∧ ((12 : Int) < (p.length : Int)) = False ∧ (12 < p.length) = False ∧ (if (12 : Int) < (p.length : Int) then 12 else (p.length : Int)) = (p.length : Int)) ∧ p.length ≤ ca ∧ (p.length : Int) ≤ (ca : Int) ∧ Row w.heap.size w (.slice Aa p.length ca) y) := by
    by_cases h12 : (12 : Int) < (p.length : Int)
    · rw [Nat.min_eq_right (by omega)] at hy0
      exact Or.inl ⟨h12, by omega, by omega, hy0⟩
    · rw [Nat.min_eq_left (by omega)] at hy0
      exact Or.inr ⟨⟨h12, eq_false h12, eq_false (by omega), if_neg h12⟩, by omega, by omega, hy0⟩
  clear hy0
  rcases hq with ⟨h12, hq1, hq2, hy⟩ | ⟨⟨h12, h13, h14, h15⟩, hq1, hq2, hy⟩
  all_goals
    go_enter Try.func6, Try.ntmps6
    go_wp2_with fail
    refine (lists_any _ _ _ _ hl).mono ?_
    rintro e w1 ⟨v1, rfl, ho, hb1⟩
    have hg : Grid 0 _ _ _ := ho.toSl 0
    clear ho hl
    have hb := hb1
    replace hm := grid_below hm hb1
    replace hy := row_below hy hb1
    clear hb1
    obtain ⟨A1, c1, rfl, _, _, _⟩ := hg.open_
    go_wp2_with fail
    refine (lists_any _ _ _ _ hm).mono ?_
    rintro e w2 ⟨v2, rfl, ho, hb2⟩
    replace hm : Grid 0 _ _ _ := ho.toSl 0
    clear ho
    replace hb := below_then hb hb2
    replace hg := grid_below hg hb2
    replace hy := row_below hy hb2
    clear hb2
    obtain ⟨B2, d2, rfl, _, _, _⟩ := hm.open_
    have hlk := bound_len l
    have hlm := bound_len m
    go_wp2
    go_loopw [7] (fun i wr => ∃ k : Nat, k ≤ (bound l).length ∧ i = .int .i64 k ∧ Below w2.heap.size w2 wr) (fun i _ => (bound l).length - (intOf i).toNat)
    case atStart => exact ⟨0, Nat.zero_le _, rfl, Below.refl _ _⟩
    case round =>
      obtain ⟨k, hk, rfl, hb3⟩ := hrel
      have hg3 := grid_below hg hb3
      by_cases hlt : k < (bound l).length
      · obtain ⟨bl, off, u, rfl, hc, hi⟩ := hg3.at_ hlt []
        have hF := follows_self (grid_ok hg3) (getD_mem hlt [])
        generalize (bound l).getD k [] = x at hc hi hF
        obtain ⟨Ax, cx, rfl, _, _, _⟩ := hi.open_
        have hF2 := Lib.hid hF
        clear hF
        go_wp2_with (first | (go_at_call 12; refine (follows_val _ _ _ _ _ _ _ hg3 hi _ hF2.out).mono ?_; rintro e w4 ⟨rfl, hb4⟩) | go_in)
        go_roundw
        case rel => exact ⟨k + 1, by omega, by go_num, hb3.trans (hb4.mono hb3.size)⟩
        case measure => simp [intOf]; omega
      · skip
        have hm3 := grid_below hm hb3
        have hy3 := row_below hy hb3
        replace hb := below_then hb hb3
        clear hb3 hg hm hy
        rcases Bool.eq_false_or_eq_true (Rup.follows (bound l) y) with hfl | hfl
        · go_wp2_with fail
          refine (follows_val _ _ _ _ _ _ _ hg3 hy3 _ hfl).mono ?_
          rintro e w5 ⟨rfl, hb5⟩
          replace hb := below_then hb hb5
          replace hg3 := grid_below hg3 hb5
          replace hm3 := grid_below hm3 hb5
          replace hy3 := row_below hy3 hb5
          clear hb5
          go_wp2
          go_loopw [8, 9] (fun vl i wr => ∃ k : Nat, k ≤ (bound m).length ∧ i = .int .i64 k ∧ ∃ lf : List (List Int), Hid (lf = (bound m).take k) ∧ lf.length ≤ k + 60 ∧ OwnGrid w5.heap.size 0 wr vl lf ∧ Below w5.heap.size w5 wr) (fun _ i _ => (bound m).length - (intOf i).toNat)
          case atStart => exact ⟨0, Nat.zero_le _, rfl, [], Lib.hid (by simp), by simp, Own.empty _ _ _ _ (Nat.le_refl _), (Below.refl _ _).alloc (Nat.le_refl _) _⟩
          case round =>
            obtain ⟨k, hk, rfl, lf, HF, hlf, ho, hb6⟩ := hrel
            have hg6 := grid_below hm3 hb6
            by_cases hlt : k < (bound m).length
            · obtain ⟨bl, off, u, rfl, hc, hi⟩ := hg6.at_ hlt []
              have HT := Lib.hid (take_snoc hlt [])
              generalize (bound m).getD k [] = x at hc HT hi
              obtain ⟨Ax, cx, rfl, _, _, _⟩ := hi.open_
              have R := Lib.hid (show lf ++ [x] = (bound m).take (k + 1) by rw [HT.out, HF.out])
              go_wp2_with (first | (at_builtin; refine wpList_push (w0 := w5) w5.heap.size rfl _ _ 22 23 _ 24 rfl Try.underlying22 info_row rfl (by decide) [3] ho (stable_row1.mono (Nat.zero_le _)) (by decide) hi rfl rfl rfl hb6 hb6.size (by omega) ?_; intro v7 w7 ho7 hb7 hg7) | go_in)
              go_roundw
              case rel => exact ⟨k + 1, by omega, by go_num, _, R, by simp; omega, ho7, hb7⟩
              case measure => simp [intOf]; omega
            · have HF2 := Lib.hid (show lf = (bound m) by rw [HF.out, List.take_of_length_le (by omega)])
              go_wp2
              go_loopw [8, 10] (fun vl i wr => ∃ k : Nat, k ≤ (bound l).length ∧ i = .int .i64 k ∧ ∃ lf : List (List Int), Hid (lf = bound m ++ (bound l).take k) ∧ lf.length ≤ k + 60 ∧ OwnGrid w5.heap.size 0 wr vl lf ∧ Below w5.heap.size w5 wr) (fun _ i _ => (bound l).length - (intOf i).toNat)
              case atStart => exact ⟨0, Nat.zero_le _, rfl, _, Lib.hid (by rw [HF2.out]; simp), by rw [HF2.out]; omega, ho, hb6⟩
              case round =>
                clear ho hb6 HF HF2 hlt hk
                obtain ⟨k, hk, rfl, lf, HF, hlf, ho, hb6⟩ := hrel
                have hg6 := grid_below hg3 hb6
                by_cases hlt : k < (bound l).length
                · obtain ⟨bl, off, u, rfl, hc, hi⟩ := hg6.at_ hlt []
                  have HT := Lib.hid (take_snoc hlt [])
                  generalize (bound l).getD k [] = x at hc HT hi
                  obtain ⟨Ax, cx, rfl, _, _, _⟩ := hi.open_
                  have R := Lib.hid (show lf ++ [x] = bound m ++ (bound l).take (k + 1) by rw [HT.out, HF.out]; simp)
                  go_wp2_with (first | (at_builtin; refine wpList_push (w0 := w5) w5.heap.size rfl _ _ 22 23 _ 24 rfl Try.underlying22 info_row rfl (by decide) [3] ho (stable_row1.mono (Nat.zero_le _)) (by decide) hi rfl rfl rfl hb6 hb6.size (by omega) ?_; intro v7 w7 ho7 hb7 hg7) | go_in)
                  go_roundw
                  case rel => exact ⟨k + 1, by omega, by go_num, _, R, by simp; omega, ho7, hb7⟩
                  case measure => simp [intOf]; omega
                · have HF2 := Lib.hid (show lf = bound m ++ (bound l) by rw [HF.out, List.take_of_length_le (by omega)])
                  obtain ⟨Al, cl, rfl, _, _, _⟩ := (ho.toSl 0).open_
                  have hall : Grid 0 _ _ _ := ho.toSl 0
                  have hy6 := row_below hy3 hb6
                  have hg7 := grid_below hg3 hb6
                  replace hb := below_then hb hb6
                  have hsz6 := hb6.size
                  have hok1 := grid_ok hg7
                  have hokm := grid_ok (grid_below hm3 hb6)
                  have hoky := row_ok hy6
                  have hokl := grid_ok hall
                  have hF1 := Lib.hid (follows_mono hok1 hoky hokl hoky (fun c hc => by rw [HF2.out]; exact List.mem_append_right _ hc) (fun _ h => h) hfl)
                  obtain ⟨yl, hyl5⟩ : ∃ z : List Int, z = y ++ [5] := ⟨_, rfl⟩
                  have hF3 : Hid (Rup.follows (bound l) yl = true) := Lib.hid (hyl5 ▸ follows_mono hok1 hoky hok1 (show Rup.okRow (y ++ [5]) from fun x hx => by rcases List.mem_append.1 hx with h | h; exact hoky x h; rw [List.mem_singleton.1 h]; unfold Rup.inr; omega) (fun _ h => h) (fun _ h => List.mem_append_left _ h) hfl)
                  have HY5 := Lib.hid hyl5
                  clear hyl5
                  clear hok1 hokm hoky hokl hb6 hm3 hy3 hg3 HF HF2 ho
                  obtain ⟨wo, rfl⟩ : ∃ wo : World, wo = wr := ⟨_, rfl⟩
                  go_wp2_with (first | (at_builtin; refine wpList_push (w0 := wo) wo.heap.size rfl _ _ 23 3 _ 8 rfl Try.underlying23 info_int rfl (by decide) [] ho8 (stable_i64 _ _) (by decide) (i64_mk 5 (by decide) (by decide)) rfl rfl rfl hb8 hb8.size (by omega) ?_; intro v9 w9 ho9 hb9 hg9; rw [← HY5.out] at ho9; obtain ⟨A9, c9, rfl, _, _, _⟩ := (ho9.toSl 0).open_; have hall9 := grid_below hall hb9; have hg9 := grid_below hg7 hb9; have hy9 := row_below hy6 hb9; have hl9 : Row 0 _ _ _ := ho9.toSl 0; replace hb := below_then hb hb9; clear hb9 hb8 ho8 ho9) | (at_builtin; refine wpList_app (w0 := wo) wo.heap.size rfl _ _ 23 3 _ 8 rfl Try.underlying23 info_int rfl (by decide) [] (Own.empty _ _ I64 _ (Nat.le_refl _)) (stable_i64 _ _) (by decide) (row_alloc hy6 _) rfl rfl (fun _ _ h => by rw [h.1]; rfl) ((Below.refl _ _).alloc (Nat.le_refl _) _) (by simp) (by simp only [List.length_nil]; omega) ?_; intro v8 w8 ho8 hb8 hg8; rw [List.nil_append] at ho8; obtain ⟨A8, c8, rfl, _, _, _⟩ := (ho8.toSl 0).open_) | fail)
                  refine (follows_val _ _ _ _ _ _ _ hall9 hy9 _ hF1.out).mono ?_
                  rintro e w10 ⟨rfl, hb10⟩
                  replace hb := below_then hb hb10
                  replace hg9 := grid_below hg9 hb10
                  replace hl9 := row_below hl9 hb10
                  clear hb10
                  go_wp2_with fail
                  refine (follows_val _ _ _ _ _ _ _ hg9 hl9 _ hF3.out).mono ?_
                  rintro e w11 ⟨rfl, hb11⟩
                  replace hb := below_then hb hb11
                  clear hb11
                  go_wp2_with fail
                  refine (fixed_any _).mono ?_
                  rintro e w12 ⟨rfl, hb12⟩
                  replace hb := below_then hb hb12
                  clear hb12
                  go_wp2
                  go_ret
                  exact ⟨rfl, hb⟩
        · go_wp2_with fail
          refine (follows_val _ _ _ _ _ _ _ hg3 hy3 _ hfl).mono ?_
          rintro e w5 ⟨rfl, hb5⟩
          replace hb := below_then hb hb5
          clear hb5
          go_wp2_with fail
          refine (fixed_any _).mono ?_
          rintro e w6 ⟨rfl, hb6⟩
          replace hb := below_then hb hb6
          clear hb6
          go_wp2
          go_ret
          exact ⟨rfl, hb⟩
end Go.Proofs.Ytpafgieijplehaa
