/- The walks of the document's answer for rup. -/
import Derived.Test.YtpafgieijplehaaRupW
import Derived.Test.YtpafgieijplehaaRefA
set_option linter.unusedVariables false
set_option linter.unusedSimpArgs false
namespace Go.Proofs.Ytpafgieijplehaa
open Go.RowKit

theorem info_int : (Try.prog.info? 3).map (fun i => (i.zero, i.size, i.bytes)) = some (some (.int .i64 0), 1, 8) := by kernel_rfl
theorem info_row : (Try.prog.info? 23).map (fun i => (i.zero, i.size, i.bytes)) = some (some (.slice none 0 0), 1, 24) := by kernel_rfl

theorem odd_any (x : Int) (h1 : -9223372036854775808 ≤ x) (h2 : x ≤ 9223372036854775807) (w : World) : Calls Try.prog 26 #[.int .i64 x] w fun e w' => e = .returned (.bool (Rup.never x)) ∧ w = w' := by
  go_enter Try.func26, Try.ntmps26
  go_wp2
  · have h0 : x = 0 := by assumption
    go_ret
    exact ⟨ret_val (by subst h0; rfl), rfl⟩
  all_goals
    go_ret
    refine ⟨ret_val (congrArg Value.bool ?_), rfl⟩
    have h3 : ¬ x = 0 := by assumption
    first
      | (have h4 : 0 ≤ x := by assumption
         simp [Rup.never, h3]; omega)
      | (have h4 : x < 0 := by assumption
         have h5 : decide (wrap64 (-x) < 0) = (x == -9223372036854775808) := by
           rw [Bool.eq_iff_iff]
           simp only [decide_eq_true_eq, beq_iff_eq]
           unfold wrap64
           omega
         simp [Rup.never, h5])

theorem has_any (b0 : Nat) (l : List Int) (x : Int) (v : Value) (w : World) (hl : Row b0 w v l) : Calls Try.prog 27 #[v, .int .i64 x] w fun e w' => e = .returned (.bool (Rup.has l x)) ∧ w = w' := by
  obtain ⟨A, c, rfl, hlc, hcm, _⟩ := hl.open_
  have hlen : l.length ≤ 9223372036854775807 := by unfold maxLen at hcm; omega
  clear hlc hcm
  go_enter Try.func27, Try.ntmps27
  go_wp2
  go_loop [5] (fun i => ∃ k : Nat, k ≤ l.length ∧ i = .int .i64 k ∧ Hid (Rup.has (l.drop k) x = Rup.has l x)) (fun i => l.length - (intOf i).toNat)
  case atStart => exact ⟨0, Nat.zero_le _, rfl, Lib.hid (by simp)⟩
  case round =>
    obtain ⟨k, hk, rfl, H⟩ := hrel
    by_cases hlt : k < l.length
    · obtain ⟨b, off, u, rfl, hc, hu⟩ := hl.at_ hlt 0
      have HD := Lib.hid (drop_cons hlt 0)
      obtain ⟨rfl, _⟩ := hu
      generalize l.getD k 0 = y at hc HD
      go_wp2
      · go_ret
        refine ⟨ret_val (congrArg Value.bool ?_), rfl⟩
        have h1 : (y == x) = true := by assumption
        rw [← H.out, HD.out]
        simp [Rup.has, beq_iff_eq.1 h1]
      · have h1 : (y == x) = false := by assumption
        have h2 : ¬ x = y := fun e => by simp [e] at h1
        go_round
        case rel => exact ⟨k + 1, by omega, by go_num, Lib.hid (by rw [← H.out, HD.out]; simp [Rup.has, h2])⟩
        case measure => simp [intOf]; omega
    · go_wp2
      go_ret
      refine ⟨ret_val (congrArg Value.bool ?_), rfl⟩
      rw [← H.out, List.drop_eq_nil_of_le (by omega)]
      rfl
theorem rest_any (b0 b1 : Nat) (l holds : List Int) (v vh : Value) (w : World) (hl : Row b0 w v l) (hh : Row b1 w vh holds) (hlen : l.length ≤ 17592186044416) :
    Calls Try.prog 28 #[v, vh] w fun e w' => ∃ v', e = .returned v' ∧ Own w.heap.size 3 I64 w' v' (Rup.rest holds l []) ∧ Below w.heap.size w w' := by
  obtain ⟨A, c, rfl, hlc, hcm, _⟩ := hl.open_
  obtain ⟨Ah, ch, rfl, _, _, _⟩ := hh.open_
  clear hlc hcm
  go_enter Try.func28, Try.ntmps28
  go_wp2
  go_loopw [5, 6] (fun vo i wr => ∃ k : Nat, k ≤ l.length ∧ i = .int .i64 k ∧ ∃ out : List Int, Own w.heap.size 3 I64 wr vo out ∧ out.length ≤ k ∧ Hid (Rup.rest holds (l.drop k) out = Rup.rest holds l []) ∧ Below w.heap.size w wr) (fun _ i _ => l.length - (intOf i).toNat)
  case atStart => exact ⟨0, Nat.zero_le _, rfl, [], Own.empty _ _ _ _ (Nat.le_refl _), Nat.le_refl _, Lib.hid (by simp), (Below.refl _ _).alloc (Nat.le_refl _) _⟩
  case round =>
    obtain ⟨k, hk, rfl, out, ho, hol, H, hb⟩ := hrel
    have ho2 := ho.toSl 0
    obtain ⟨Ao, co, rfl, _, _, _⟩ := ho2.open_
    have hl2 := row_below hl hb
    have hh2 := row_below hh hb
    by_cases hlt : k < l.length
    · obtain ⟨b, off, u, rfl, hc, hu⟩ := hl2.at_ hlt 0
      have HD := Lib.hid (drop_cons hlt 0)
      obtain ⟨rfl, hx1, hx2⟩ := hu
      generalize l.getD k 0 = y at hc HD hx1 hx2
      rcases Bool.eq_false_or_eq_true (Rup.never y) with hn | hn
      · go_wp2_with (first | (go_at_call 26; refine (odd_any _ hx1 hx2 _).mono ?_; rintro e w' ⟨rfl, rfl⟩) | go_in)
        go_roundw
        case rel => exact ⟨k + 1, by omega, by go_num, out, ho, by omega, Lib.hid (by have H1 := H.out; have H2 := HD.out; rw [← H1, H2]; simp [Rup.rest, hn]), hb⟩
        case measure => simp [intOf]; omega
      · have R1 := has_any b1 holds (wrap64 (-y)) _ wr hh2
        have R2 := has_any 0 out y _ wr ho2
        rcases Bool.eq_false_or_eq_true (Rup.has holds (wrap64 (-y))) with hm | hm
        all_goals rcases Bool.eq_false_or_eq_true (Rup.has out y) with ho3 | ho3
        all_goals go_wp2_with (first | (go_at_call 26; refine (odd_any _ hx1 hx2 _).mono ?_; rintro e w' ⟨rfl, rfl⟩) | (go_at_call 27; (first | (with_reducible refine R1.mono ?_) | (with_reducible refine R2.mono ?_)); rintro e w' ⟨rfl, rfl⟩) | (at_builtin; refine wpList_push (w0 := w) w.heap.size rfl _ _ 23 3 _ 8 rfl Try.underlying23 info_int rfl (by decide) [] ho (stable_i64 _ _) (by decide) ⟨rfl, hx1, hx2⟩ rfl rfl rfl hb hb.size (by omega) ?_; intro v1 w1 ho1 hb1 hg1) | go_in)
        all_goals first
          | (have R := Lib.hid (show Rup.rest holds (l.drop (k + 1)) (out ++ [y]) = Rup.rest holds l [] by have H1 := H.out; have H2 := HD.out; rw [← H1, H2]; rw [wrap_neg] at hm; simp [Rup.rest, hn, hm, ho3])
             go_roundw
             case rel => exact ⟨k + 1, by omega, by go_num, _, ho1, by simp; omega, R, hb1⟩
             case measure => simp [intOf]; omega)
          | (have R := Lib.hid (show Rup.rest holds (l.drop (k + 1)) out = Rup.rest holds l [] by have H1 := H.out; have H2 := HD.out; rw [← H1, H2]; rw [wrap_neg] at hm; simp [Rup.rest, hn, hm, ho3])
             go_roundw
             case rel => exact ⟨k + 1, by omega, by go_num, out, ho, by omega, R, hb⟩
             case measure => simp [intOf]; omega)
    · go_wp2
      go_ret
      refine ⟨_, rfl, ?_, hb⟩
      have H1 := H.out
      rw [List.drop_eq_nil_of_le (by omega)] at H1
      rw [← H1]
      exact ho
end Go.Proofs.Ytpafgieijplehaa
