/- The walks of Check. -/
import Derived.Test.YtpafgieijplehaaRefW2
import Derived.Test.YtpafgieijplehaaChkA
import Derived.WalkSpells
set_option linter.unusedVariables false
set_option linter.unusedSimpArgs false
namespace Go.Proofs.Ytpafgieijplehaa
open Go.RowKit

theorem one_row (u : Value) {b : Nat} {x : List Int} {w : World} (h : Row b w u x) : u.oneCell' = true := by
  obtain ⟨A, c, rfl, _⟩ := h
  rfl
abbrev OwnGrid (B b : Nat) : Rep (List (List Int)) := Own B 23 (Row b)
theorem stable_row1 {b : Nat} : Stable b [3] (Row b) := stable_row

set_option maxRecDepth 100000 in
theorem clone_any (b0 : Nat) (l : List (List Int)) (v : Value) (w : World) (hl : Grid b0 w v l) (hsz : l.length ≤ 1099511627776) (hb0 : b0 ≤ w.heap.size) :
    Calls Try.prog 22 #[v] w fun e w' => ∃ v', e = .returned v' ∧ OwnGrid w.heap.size b0 w' v' l ∧ Below w.heap.size w w' := by
  obtain ⟨A, c, rfl, hlc, hcm, hnil⟩ := hl.open_
  have heq : ∀ w1 : World, (binOp .eql 22 (.slice A l.length c) (.slice none 0 0)).run Try.prog w1 = .ok (.bool A.isNone) w1 := fun w1 => Lib.run_eql_slice_nil w1 22 23 A l.length c 0 0 Try.underlying22
  cases A with
  | none =>
    have hc0 := hnil rfl
    subst hc0
    obtain rfl : l = [] := List.eq_nil_of_length_eq_zero (by omega)
    simp only [Option.isNone, List.length_nil] at heq
    go_enter Try.func22, Try.ntmps22
    go_wp2
    go_ret
    exact ⟨_, rfl, Own.nil _ _ _ _, Below.refl _ _⟩
  | some a =>
    simp only [Option.isNone] at heq
    have hq := (stable_grid (T := [3, 23]) : Stable b0 _ (Grid b0)) _ _ _ _ (Quiet.below ((Below.refl w.heap.size w).alloc (Nat.le_refl _) (.cells #[] 23))) hl
    go_enter Try.func22, Try.ntmps22
    go_wp2_with (first | (at_builtin; refine wpList_app (w0 := w) w.heap.size rfl _ _ 22 23 _ 24 rfl Try.underlying22 info_row rfl (by decide) [3] (Own.empty _ _ (Row b0) _ (Nat.le_refl _)) (stable_row1.mono hb0) (by decide) hq rfl rfl (fun _ _ h => one_row _ h) ((Below.refl _ _).alloc (Nat.le_refl _) _) (by simp) (by simp; omega) ?_; intro v1 w1 ho1 hb1 hg1) | go_in)
    go_ret
    exact ⟨_, rfl, by simpa using ho1, hb1⟩

theorem flat_snoc (l : List (List Int)) (p : List Int) : (l ++ [p]).flatten.length = l.flatten.length + p.length := by simp
theorem flat_drop {l : List (List Int)} {k : Nat} (h : k < l.length) : (l.drop k).flatten.length = (l.getD k []).length + (l.drop (k + 1)).flatten.length := by
  rw [drop_cons h []]; simp

set_option maxRecDepth 100000 in
set_option maxHeartbeats 400000 in
theorem check_any (b0 b1 : Nat) (n : Int) (l proof : List (List Int)) (v vp : Value) (w : World) (hl : Grid b0 w v l) (hp : Grid b1 w vp proof) (hsz : l.length + proof.length ≤ 1099511627776) :
    Calls Try.prog 15 #[.agg #[.int .i64 n, v], vp] w fun e w' => e = .returned (.tuple #[.int .i64 (Rup.check Rup.follows l proof 0 false).1, .bool (Rup.check Rup.follows l proof 0 false).2]) ∧ Below w.heap.size w w' := by
  replace hl := grid_re hl (Nat.le_refl w.heap.size)
  replace hp := grid_re hp (Nat.le_refl w.heap.size)
  obtain ⟨A, c, rfl, hlc, hcm, hnil⟩ := hl.open_
  obtain ⟨Ap, cp, rfl, hpc, hpm, _⟩ := hp.open_
  clear hlc hcm hpc hpm
  go_enter Try.func15, Try.ntmps15
  go_wp2_with fail
  refine (clone_any w.heap.size l _ _ (grid_below hl ((Below.refl _ _).alloc (Nat.le_refl _) _)) (by omega) (by simp)).mono ?_
  rintro e w1 ⟨v1, rfl, ho, hb⟩
  have hs1 : w.heap.size + 1 ≤ w1.heap.size := by have := hb.size; simpa using this
  replace hb := ((Below.refl w.heap.size w).alloc (Nat.le_refl _) _).trans (hb.mono (by simp))
  simp only [World.size_alloc] at ho
  replace ho := ho.lower (Nat.le_succ w.heap.size)
  go_wp2
  go_loopw [6, 7, 15] (fun vl ve i wr => ∃ k : Nat, k ≤ proof.length ∧ i = .int .i64 k ∧ ∃ (em : Bool) (lc : List (List Int)), ve = .bool em ∧ OwnGrid w.heap.size w.heap.size wr vl lc ∧ lc.length + proof.length ≤ 1099511627776 + k ∧ Hid (Rup.check Rup.follows lc (proof.drop k) k em = Rup.check Rup.follows l proof 0 false) ∧ Below w.heap.size w wr ∧ w.heap.size + 1 ≤ wr.heap.size) (fun _ _ i _ => proof.length - (intOf i).toNat)
  case atStart => exact ⟨0, Nat.zero_le _, rfl, false, l, rfl, ho, by omega, Lib.hid (by simp), hb, hs1⟩
  case round =>
    clear ho hb
    obtain ⟨k, hk, rfl, em, lc, rfl, ho, hbd, H, hb, hsz1⟩ := hrel
    have hp2 := grid_below hp hb
    have hg : Grid w.heap.size wr u6 lc := ho.toSl _
    by_cases hlt : k < proof.length
    · obtain ⟨bl, off, u, rfl, hc, hi⟩ := hp2.at_ hlt []
      have HD := Lib.hid (drop_cons hlt [])
      generalize proof.getD k [] = x at hc HD hi
      obtain ⟨Ax, cx, rfl, hx1, hx2, _⟩ := hi.open_
      have hxl : x.length ≤ 9223372036854775807 := by unfold maxLen at hx2; omega
      clear hx1 hx2
      have hF := follows_any _ _ lc x _ _ wr hg hi
      rcases Bool.eq_false_or_eq_true (Rup.follows lc x) with hf | hf
      · have R := Lib.hid (show Rup.check Rup.follows (lc ++ [x]) (proof.drop (k + 1)) (k + 1) (em || Rup.none_ x) = Rup.check Rup.follows l proof 0 false by have H1 := H.out; rw [HD.out] at H1; simpa [Rup.check, hf] using H1)
        go_wp2_with (first | (go_at_call 12; refine hF.mono ?_; rintro e w2 ⟨rfl, hb2⟩; have ho2 := ho.move (stable_row1.mono (by omega)) (Quiet.below hb2) (T := [3, 23]) (by decide); have hi2 := row_below hi hb2; have hb3 := hb.trans (hb2.mono hb.size); have hb4 := hb2.size) | (at_builtin; refine wpList_push (w0 := w) w.heap.size rfl _ _ 22 23 _ 24 rfl Try.underlying22 info_row rfl (by decide) [3] ho2 (stable_row1.mono (by omega)) (by decide) hi2 rfl rfl rfl hb3 (by omega) (by omega) ?_; intro v3 w3 ho3 hb5 hg3) | go_in)
        all_goals
          go_roundw
          case rel => exact ⟨k + 1, by omega, by go_num, _, _, rfl, ho3, by simp; omega, Lib.hid (by
            have R1 := R.out
            clear R H HD hf hF
            first
              | (have he : em = true := by assumption
                 subst he
                 simpa [Rup.none_] using R1)
              | (have he : ¬ em = true := by assumption
                 have he2 : em = false := by simpa using he
                 subst he2
                 simpa [Rup.none_] using R1)), hb5, Nat.le_trans (Nat.le_trans hsz1 hb4) hg3.size⟩
          case measure => simp [intOf]; omega
      · have R := Lib.hid (show Rup.check Rup.follows l proof 0 false = (k, em) by have H1 := H.out; rw [HD.out] at H1; rw [← H1]; simp [Rup.check, hf])
        go_wp2_with (first | (go_at_call 12; refine hF.mono ?_; rintro e w2 ⟨rfl, hb2⟩; have hb3 := hb.trans (hb2.mono hb.size)) | go_in)
        go_ret2
        exact ⟨ret_val (by rw [R.out]; rfl), hb3⟩
    · have R := Lib.hid (show Rup.check Rup.follows l proof 0 false = (proof.length, em) by have H1 := H.out; rw [List.drop_eq_nil_of_le (by omega)] at H1; rw [← H1, show k = proof.length by omega]; rfl)
      go_wp2
      go_ret2
      exact ⟨ret_val (by rw [R.out]; rfl), hb⟩
end Go.Proofs.Ytpafgieijplehaa
