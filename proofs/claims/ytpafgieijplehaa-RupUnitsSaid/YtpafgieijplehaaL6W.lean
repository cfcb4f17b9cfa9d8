/- The walk of the law RupFirst. -/
import Derived.Test.YtpafgieijplehaaL4W
import Derived.Test.YtpafgieijplehaaLawC
set_option linter.unusedVariables false
set_option linter.unusedSimpArgs false
namespace Go.Proofs.Ytpafgieijplehaa
open Go.RowKit

set_option maxRecDepth 100000 in
set_option maxHeartbeats 1600000 in
theorem law6_any (b0 b1 b2 : Nat) (n : Int) (l p m : List (List Int)) (vl vp vm : Value) (w : World) (hl : Grid b0 w vl l) (hp : Grid b1 w vp p) (hm : Grid b2 w vm m) :
    Calls Try.prog 8 #[.agg #[.int .i64 n, vl], vp, vm] w fun e w' => e = .returned (.bool true) ∧ Below w.heap.size w w' := by
  replace hl := grid_re hl (Nat.le_refl _)
  replace hm := grid_re hm (Nat.le_refl _)
  replace hp := grid_re hp (Nat.le_refl _)
  obtain ⟨A, c, rfl, _, _, _⟩ := hl.open_
  obtain ⟨B, d, rfl, _, _, _⟩ := hp.open_
  obtain ⟨Aa, ca, rfl, _, _, _⟩ := hm.open_
  have hfl := field_l
  go_enter Try.func8, Try.ntmps8
  have hb := (Below.refl w.heap.size w).alloc (Nat.le_refl _) (.cells #[.int .i64 n, .slice A l.length c] 28)
  replace hl := grid_alloc hl (.cells #[.int .i64 n, .slice A l.length c] 28)
  replace hp := grid_alloc hp (.cells #[.int .i64 n, .slice A l.length c] 28)
  replace hm := grid_alloc hm (.cells #[.int .i64 n, .slice A l.length c] 28)
  go_wp2_with fail
  refine (lists_any _ _ _ _ hl).mono ?_
  rintro e w1 ⟨v1, rfl, ho, hb1⟩
  replace hl : Grid 0 _ _ _ := ho.toSl 0
  clear ho
  replace hb := below_then hb hb1
  replace hp := grid_below hp hb1
  replace hm := grid_below hm hb1
  clear hb1
  go_wp2_with fail
  refine (lists_any _ _ _ _ hp).mono ?_
  rintro e w2 ⟨v2, rfl, ho, hb2⟩
  replace hp : Grid 0 _ _ _ := ho.toSl 0
  clear ho
  replace hb := below_then hb hb2
  replace hl := grid_below hl hb2
  replace hm := grid_below hm hb2
  clear hb2
  go_wp2_with fail
  refine (lists_any _ _ _ _ hm).mono ?_
  rintro e w3 ⟨v3, rfl, ho, hb3⟩
  replace hm : Grid 0 _ _ _ := ho.toSl 0
  clear ho
  replace hb := below_then hb hb3
  replace hl := grid_below hl hb3
  replace hp := grid_below hp hb3
  clear hb3
  obtain ⟨A1, c1, rfl, _, _, _⟩ := hl.open_
  obtain ⟨A2, c2, rfl, _, _, _⟩ := hp.open_
  obtain ⟨A3, c3, rfl, _, _, _⟩ := hm.open_
  have hbl := bound_len l
  have hbp := bound_len p
  have hbm := bound_len m
  generalize bound l = bl at *
  generalize bound p = bp at *
  generalize bound m = bm at *
  obtain ⟨bt, hbt⟩ : ∃ z : List (List Int), z = bp ++ bm := ⟨_, rfl⟩
  have hbtl : bt.length = bp.length + bm.length := by rw [hbt, List.length_append]
  obtain ⟨nn, ee, hc1⟩ : ∃ nn ee, Rup.check Rup.follows bl bp 0 false = (nn, ee) := ⟨_, _, rfl⟩
  obtain ⟨mm, ff, hc2⟩ : ∃ mm ff, Rup.check Rup.follows bl bt 0 false = (mm, ff) := ⟨_, _, rfl⟩
  have hA := Rup.check_append (F := Rup.follows) bp bm bl 0 false
  have hL := Rup.check_len (F := Rup.follows) bp bl 0 false
  rw [← hbt, hc2, hc1] at hA
  rw [hc1] at hL
  simp only [Nat.zero_add, Prod.mk.injEq] at hA hL
  obtain ⟨hA1, hA2⟩ := hA
  obtain ⟨_, hL2, _⟩ := hL
  have hways : (nn < bp.length ∧ mm = nn ∧ ff = ee) ∨ (nn = bp.length ∧ nn ≤ mm ∧ mm ≤ bt.length ∧ (ee = true → ff = true)) := by
    rcases Nat.lt_or_ge nn bp.length with h | h
    · exact Or.inl ⟨h, hA1 h⟩
    · have h0 : nn = bp.length := by omega
      obtain ⟨h1, h2, h3⟩ := hA2 h0
      exact Or.inr ⟨h0, h1, by omega, h3⟩
  have HC1 := Lib.hid hc1
  have HC2 := Lib.hid hc2
  have HBT := Lib.hid hbt
  have hbtl2 : bt.length ≤ 120 := by omega
  clear hA1 hA2 hc1 hc2 hbt hbtl
  go_wp2_with fail
  refine (check_val _ _ _ _ _ _ _ _ hl hp (by omega) (nn : Int) ee (by rw [Int.toNat_natCast]; exact HC1.out) (Int.natCast_nonneg _)).mono ?_
  rintro e w4 ⟨rfl, hb4⟩
  replace hb := below_then hb hb4
  replace hl := grid_below hl hb4
  replace hp := grid_below hp hb4
  replace hm := grid_below hm hb4
  clear hb4
  go_wp2_with (first | (at_builtin; refine wpList_app (w0 := w4) w4.heap.size rfl _ _ 22 23 _ 24 rfl Try.underlying22 info_row rfl (by decide) [3] ho8 (stable_row1.mono (Nat.zero_le _)) (by decide) hm8 rfl rfl (fun _ _ h => one_row _ h) hb8 hb8.size (by omega) ?_; intro v9 w9 ho9 hb9 hg9; rw [← HBT.out] at ho9; obtain ⟨A9, c9, rfl, _, _, _⟩ := (ho9.toSl 0).open_; have hbt9 : Grid 0 _ _ _ := ho9.toSl 0; have hl9 := grid_below hl hb9; replace hb := below_then hb hb9; clear hb9 hb8 ho8 ho9) | (at_builtin; refine wpList_app (w0 := w4) w4.heap.size rfl _ _ 22 23 _ 24 rfl Try.underlying22 info_row rfl (by decide) [3] (Own.empty _ _ (Row 0) _ (Nat.le_refl _)) (stable_row1.mono (Nat.zero_le _)) (by decide) (grid_alloc hp _) rfl rfl (fun _ _ h => one_row _ h) ((Below.refl _ _).alloc (Nat.le_refl _) _) (by simp) (by simp only [List.length_nil]; omega) ?_; intro v8 w8 ho8 hb8 hg8; rw [List.nil_append] at ho8; have hm8 := grid_below hm hb8; obtain ⟨A8, c8, rfl, _, _, _⟩ := (ho8.toSl 0).open_) | fail)
  refine (check_val _ _ _ _ _ _ _ _ hl9 hbt9 (by omega) (mm : Int) ff (by rw [Int.toNat_natCast]; exact HC2.out) (Int.natCast_nonneg _)).mono ?_
  rintro e w10 ⟨rfl, hb10⟩
  replace hb := below_then hb hb10
  clear hb10
  clear HC1 HC2 HBT hl hp hm hl9 hbt9
  have hd1 : decide ((nn : Int) < 0) = false := decide_eq_false (by omega)
  have hd2 : decide (bp.length < nn) = false := decide_eq_false (by omega)
  have hd3 : decide ((bp.length : Int) < (nn : Int)) = false := decide_eq_false (by omega)
  rcases hways with ⟨h1, rfl, rfl⟩ | ⟨h1, h2, h3, h4⟩
  · have hd4 : decide (mm < bp.length) = true := decide_eq_true h1
    go_wp2_with fail
    refine (fixed_any _).mono ?_
    rintro e w11 ⟨rfl, hb11⟩
    replace hb := below_then hb hb11
    go_wp2
    go_ret
    exact ⟨ret_val (by simp), hb⟩
  · have hd4 : decide (nn < bp.length) = false := decide_eq_false (by omega)
    have hd5 : decide (mm < nn) = false := decide_eq_false (by omega)
    have hd6 : decide (mm ≤ bt.length) = true := decide_eq_true h3
    have hd7 : decide ((mm : Int) < (nn : Int)) = false := decide_eq_false (by omega)
    have hd8 : decide ((mm : Int) ≤ (bt.length : Int)) = true := decide_eq_true (by omega)
    cases ee
    · go_wp2_with fail
      refine (fixed_any _).mono ?_
      rintro e w11 ⟨rfl, hb11⟩
      replace hb := below_then hb hb11
      go_wp2
      go_ret
      exact ⟨ret_val (by simp), hb⟩
    · obtain rfl := h4 rfl
      go_wp2_with fail
      refine (fixed_any _).mono ?_
      rintro e w11 ⟨rfl, hb11⟩
      replace hb := below_then hb hb11
      go_wp2
      go_ret
      exact ⟨ret_val (by simp), hb⟩
end Go.Proofs.Ytpafgieijplehaa
