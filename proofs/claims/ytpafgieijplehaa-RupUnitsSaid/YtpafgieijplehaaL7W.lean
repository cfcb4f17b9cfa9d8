/- The walk of the law RupOrder. -/
import Derived.Test.YtpafgieijplehaaL6W
import Derived.Test.YtpafgieijplehaaPush
set_option linter.unusedVariables false
set_option linter.unusedSimpArgs false
namespace Go.Proofs.Ytpafgieijplehaa
open Go.RowKit

theorem bound_row_len (l : List (List Int)) (j : Nat) : ((bound l).getD j []).length ≤ 12 := by
  by_cases h : j < (bound l).length
  · have := getD_mem h []
    obtain ⟨z, _, e⟩ := List.mem_map.1 this
    rw [← e]; simp [cut12]; omega
  · simp [List.getD, List.getElem?_eq_none (Nat.le_of_not_lt h)]
def turn_ (l : List (List Int)) : List (List Int) := (l.map List.reverse).reverse
theorem turn_back {l : List (List Int)} {k : Nat} (h : k < l.length) : turn_ (l.drop k) = turn_ (l.drop (k + 1)) ++ [(l.getD k []).reverse] := by
  rw [drop_cons h [], turn_, List.map_cons, List.reverse_cons]; rfl
theorem sl_len {α : Type} {B : Nat} {e : TypeId} {R : Rep α} {w : World} {A : Option Addr} {n c : Nat} {xs : List α} (h : Sl B e R w (.slice A n c) xs) : n = xs.length := by
  obtain ⟨_, _, e1, _⟩ := h.open_
  injection e1
set_option maxRecDepth 100000 in
set_option maxHeartbeats 3200000 in
theorem law7_any (b0 b1 : Nat) (l : List (List Int)) (p : List Int) (vl vp : Value) (w : World) (hl : Grid b0 w vl l) (hp : Row b1 w vp p) :
    Calls Try.prog 9 #[vl, vp] w fun e w' => e = .returned (.bool true) ∧ Below w.heap.size w w' := by
  replace hl := grid_re hl (Nat.le_refl _)
  replace hp := row_re hp (Nat.le_refl _)
  obtain ⟨A, c, rfl, _, _, _⟩ := hl.open_
  obtain ⟨Aa, ca, rfl, hca, hcb, _⟩ := hp.open_
  have hal : p.length ≤ 9223372036854775807 := by unfold maxLen at hcb; omega
  have hy0 := hp.take (n := min p.length 12) (Nat.min_le_left _ _)
  obtain ⟨y, hey⟩ : ∃ y, y = p.take (min p.length 12) := ⟨_, rfl⟩
  rw [← hey] at hy0
  have hly : y.length ≤ 12 := by rw [hey]; exact Nat.le_trans (List.length_take_le _ _) (Nat.min_le_right _ _)
  have HCy : Hid (y = p.take 12) := Lib.hid (by rw [hey, Nat.min_comm, ← List.take_take, List.take_of_length_le (Nat.le_refl _)])
  clear hey
  have hq : ((12 : Int) < (p.length : Int) ∧ 12 ≤ ca ∧ (12 : Int) ≤ (ca : Int) ∧ Row w.heap.size w (.slice Aa 12 ca) y) ∨ (((¬ (12 : Int) < (p.length : Int)) ∧ ((12 : Int) < (p.length : Int)) = False ∧ (12 < p.length) = False ∧ (if (12 : Int) < (p.length : Int) then 12 else (p.length : Int)) = (p.length : Int)) ∧ p.length ≤ ca ∧ (p.length : Int) ≤ (ca : Int) ∧ Row w.heap.size w (.slice Aa p.length ca) y) := by
    by_cases h12 : (12 : Int) < (p.length : Int)
    · rw [Nat.min_eq_right (by omega)] at hy0
      exact Or.inl ⟨h12, by omega, by omega, hy0⟩
    · rw [Nat.min_eq_left (by omega)] at hy0
      exact Or.inr ⟨⟨h12, eq_false h12, eq_false (by omega), if_neg h12⟩, by omega, by omega, hy0⟩
  clear hy0
  rcases hq with ⟨h12, hq1, hq2, hy⟩ | ⟨⟨h12, h13, h14, h15⟩, hq1, hq2, hy⟩
  all_goals
    go_enter Try.func9, Try.ntmps9
    go_wp2_with fail
    refine (lists_any _ _ _ _ hl).mono ?_
    rintro e w1 ⟨v1, rfl, ho, hb1⟩
    have hg : Grid 0 _ _ _ := ho.toSl 0
    clear ho hl
    have hb := hb1
    replace hy := row_below hy hb1
    clear hb1
    obtain ⟨A1, c1, rfl, _, _, _⟩ := hg.open_
    have hlk := bound_len l
    have hrl : ∀ j, (((bound l).getD j []).length) ≤ 12 := bound_row_len l
    generalize bound l = bl at *
    go_wp2
    go_loopw [5, 7] (fun vm i wr => ∃ k : Nat, k ≤ bl.length ∧ i = .int .i64 ((k : Int) - 1) ∧ ∃ lm : List (List Int), Hid (lm = turn_ (bl.drop k)) ∧ lm.length + k = bl.length ∧ OwnGrid w1.heap.size 0 wr vm lm ∧ Below w1.heap.size w1 wr) (fun _ i _ => (intOf i + 1).toNat)
    case atStart => exact ⟨bl.length, Nat.le_refl _, rfl, [], Lib.hid (by simp [turn_]), by simp, Own.move (stable_row1.mono (Nat.zero_le _)) (Own.empty _ _ _ _ (Nat.le_refl _)) (Quiet.below ((Below.refl _ _).alloc (Nat.le_refl _) _)) (T := [3, 23]) (by decide), ((Below.refl _ _).alloc (Nat.le_refl _) _).alloc (by simp) _⟩
    case round =>
      obtain ⟨k, hk, hi0, lm, HM, hlm, ho, hb2⟩ := hrel
      have hg2 := grid_below hg hb2
      obtain ⟨Am, cm, rfl, _, _, _⟩ := (ho.toSl 0).open_
      rcases Nat.eq_zero_or_pos k with hk0 | hk0
      · subst hk0
        rw [show ((0 : Nat) : Int) - 1 = -1 from rfl] at hi0
        subst hi0
        have HM2 := Lib.hid (show lm = turn_ bl from HM.out)
        have hm2 : Grid 0 _ _ _ := ho.toSl 0
        have hy2 := row_below hy hb2
        replace hb := below_then hb hb2
        have hylen := Lib.hid (sl_len hy2)
        obtain ⟨w2, rfl⟩ : ∃ w2 : World, w2 = wr := ⟨_, rfl⟩
        clear HM ho hy hg hb2 hlk hrl
        go_wp2
        go_loopw [6, 10] (fun vq i wq => ∃ k : Nat, k ≤ y.length ∧ i = .int .i64 ((k : Int) - 1) ∧ ∃ lq : List Int, Hid (lq = (y.drop k).reverse) ∧ lq.length + k = y.length ∧ Own0 w2.heap.size 3 I64 wq vq lq ∧ Below w2.heap.size w2 wq) (fun _ i _ => (intOf i + 1).toNat)
        case atStart => exact ⟨y.length, Nat.le_refl _, by rw [← hylen.out] <;> rfl, [], Lib.hid (by simp), by simp, Or.inr ⟨rfl, _, rfl⟩, Below.refl _ _⟩
        case round =>
          obtain ⟨k, hk, hi0, lq, HQ, hlq, hoq, hbq⟩ := hrel
          have hy3 := row_below hy2 hbq
          obtain ⟨Aq, cq, rfl, _, _, _⟩ := (hoq.toSl 0).open_
          rcases Nat.eq_zero_or_pos k with hk0 | hk0
          · subst hk0
            rw [show ((0 : Nat) : Int) - 1 = -1 from rfl] at hi0
            subst hi0
            have HQ2 := Lib.hid (show lq = y.reverse from HQ.out)
            have hgq := grid_below hg2 hbq
            have hmq := grid_below hm2 hbq
            have hqq : Row 0 _ _ _ := hoq.toSl 0
            obtain ⟨rr, hrr⟩ : ∃ z, Rup.follows bl y = z := ⟨_, rfl⟩
            have hrr2 := Lib.hid (show Rup.follows lm lq = rr by rw [HM2.out, HQ2.out, ← hrr]; exact (Rup.follows_turned (grid_ok hgq) (row_ok hy3)).symm)
            replace hrr := Lib.hid hrr
            replace hb := below_then hb hbq
            clear HQ HQ2 HM2 hbq hoq hm2 hy2 hg2
            go_wp2_with fail
            refine (follows_val _ _ _ _ _ _ _ hgq hy3 _ hrr.out).mono ?_
            rintro e w5 ⟨rfl, hb5⟩
            replace hb := below_then hb hb5
            replace hmq := grid_below hmq hb5
            replace hqq := row_below hqq hb5
            clear hb5
            go_wp2_with fail
            refine (follows_val _ _ _ _ _ _ _ hmq hqq _ hrr2.out).mono ?_
            rintro e w6 ⟨rfl, hb6⟩
            replace hb := below_then hb hb6
            clear hb6
            cases rr
            all_goals
              go_wp2_with fail
              refine (fixed_any _).mono ?_
              rintro e w7 ⟨rfl, hb7⟩
              replace hb := below_then hb hb7
              go_wp2
              go_ret
              exact ⟨rfl, hb⟩
          · obtain ⟨j, rfl⟩ : ∃ j, k = j + 1 := ⟨k - 1, by omega⟩
            rw [show ((j + 1 : Nat) : Int) - 1 = (j : Int) by omega] at hi0
            subst hi0
            have hjp : j < p.length := by have := hylen.out; omega
            obtain ⟨bx, off, u, rfl, hc, hi⟩ := hy3.at_ (k := j) (by omega) 0
            obtain ⟨rfl, hi1, hi2⟩ := hi
            have HT := Lib.hid (drop_back (xs := y) (k := j) (by omega) 0)
            generalize y.getD j 0 = x at hc HT hi1 hi2
            have R := Lib.hid (show lq ++ [x] = (y.drop j).reverse by rw [HT.out, HQ.out])
            clear HT HQ
            go_wp2_with (first | (at_builtin; refine wpList_push0 (w0 := w2) w2.heap.size rfl _ _ 23 3 _ 8 rfl Try.underlying23 info_int rfl (by decide) [] hoq (stable_i64 _ _) (by decide) (i64_mk _ hi1 hi2) rfl rfl rfl hbq hbq.size (by omega) ?_; intro v7 w7 ho7 hb7 hg7) | go_in)
            go_roundw
            case rel => exact ⟨j, by omega, by go_num, _, R, by simp; omega, Or.inl ho7, hb7⟩
            case measure => simp [intOf] <;> omega
      · obtain ⟨j, rfl⟩ : ∃ j, k = j + 1 := ⟨k - 1, by omega⟩
        rw [show ((j + 1 : Nat) : Int) - 1 = (j : Int) by omega] at hi0
        subst hi0
        obtain ⟨bx, off, u, rfl, hc, hi⟩ := hg2.at_ (k := j) (by omega) []
        have HT := Lib.hid (turn_back (l := bl) (k := j) (by omega))
        have hxl := hrl j
        generalize bl.getD j [] = x at hc HT hi hxl
        obtain ⟨Ax, cx, rfl, _, _, _⟩ := hi.open_
        have R := Lib.hid (show lm ++ [x.reverse] = turn_ (bl.drop j) by rw [HT.out, HM.out])
        have hc2 := cell_alloc0 hc (.cells #[] 3)
        clear HT HM
        obtain ⟨wo, rfl⟩ : ∃ wo : World, wo = wr := ⟨_, rfl⟩
        go_wp2
        go_loopw [8, 9] (fun vc i wj => ∃ k : Nat, k ≤ x.length ∧ i = .int .i64 ((k : Int) - 1) ∧ ∃ lc : List Int, Hid (lc = (x.drop k).reverse) ∧ lc.length + k = x.length ∧ Own wo.heap.size 3 I64 wj vc lc ∧ Below wo.heap.size wo wj) (fun _ i _ => (intOf i + 1).toNat)
        case atStart => exact ⟨x.length, Nat.le_refl _, rfl, [], Lib.hid (by simp), by simp, Own.empty _ _ _ _ (Nat.le_refl _), (Below.refl _ _).alloc (Nat.le_refl _) _⟩
        case round =>
          obtain ⟨k, hk, hi0, lc, HC, hlc, hoc, hbc⟩ := hrel
          have hc3 := cell_below hbc hc
          have hi3 := row_below hi hbc
          obtain ⟨Ac, cc, rfl, _, _, _⟩ := (hoc.toSl 0).open_
          rcases Nat.eq_zero_or_pos k with hk0 | hk0
          · subst hk0
            rw [show ((0 : Nat) : Int) - 1 = -1 from rfl] at hi0
            subst hi0
            have HC2 := Lib.hid (show lc = x.reverse from HC.out)
            have R2 := Lib.hid (show lm ++ [lc] = turn_ (bl.drop j) by rw [HC2.out]; exact R.out)
            have hrc : Row 0 _ _ _ := hoc.toSl 0
            have hom := ho.move (stable_row1.mono (Nat.zero_le _)) (Quiet.below hbc) (T := [3, 23]) (by decide)
            have hbo := hb2.trans (hbc.mono hb2.size)
            clear HC HC2 R
            go_wp2_with (first | (at_builtin; refine wpList_push (w0 := w1) w1.heap.size rfl _ _ 22 23 _ 24 rfl Try.underlying22 info_row rfl (by decide) [3] hom (stable_row1.mono (Nat.zero_le _)) (by decide) hrc rfl rfl rfl hbo hbo.size (by omega) ?_; intro v7 w7 ho7 hb7 hg7) | go_in)
            go_roundw
            case rel => exact ⟨j, by omega, by go_num, _, R2, by simp; omega, ho7, hb7⟩
            case measure => simp [intOf] <;> omega
          · obtain ⟨q, rfl⟩ : ∃ j, k = j + 1 := ⟨k - 1, by omega⟩
            rw [show ((q + 1 : Nat) : Int) - 1 = (q : Int) by omega] at hi0
            subst hi0
            obtain ⟨by_, offy, uy, rfl, hcy, hiy⟩ := hi3.at_ (k := q) (by omega) 0
            obtain ⟨rfl, hi1, hi2⟩ := hiy
            have HT := Lib.hid (drop_back (xs := x) (k := q) (by omega) 0)
            generalize x.getD q 0 = x0 at hcy HT hi1 hi2
            have R3 := Lib.hid (show lc ++ [x0] = (x.drop q).reverse by rw [HT.out, HC.out])
            clear HT HC
            go_wp2_with (first | (at_builtin; refine wpList_push (w0 := wo) wo.heap.size rfl _ _ 23 3 _ 8 rfl Try.underlying23 info_int rfl (by decide) [] hoc (stable_i64 _ _) (by decide) (i64_mk _ hi1 hi2) rfl rfl rfl hbc hbc.size (by omega) ?_; intro v7 w7 ho7 hb7 hg7) | go_in)
            go_roundw
            case rel => exact ⟨q, by omega, by go_num, _, R3, by simp; omega, ho7, hb7⟩
            case measure => simp [intOf] <;> omega
end Go.Proofs.Ytpafgieijplehaa
