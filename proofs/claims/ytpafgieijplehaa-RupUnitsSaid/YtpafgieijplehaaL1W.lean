/- The walk of the law RupFollows. -/
import Derived.Test.YtpafgieijplehaaFixW
import Derived.Test.YtpafgieijplehaaOpen
set_option linter.unusedVariables false
set_option linter.unusedSimpArgs false
namespace Go.Proofs.Ytpafgieijplehaa
open Go.RowKit

theorem grid_ok {b : Nat} {w : World} {v : Value} {l : List (List Int)} (h : Grid b w v l) : Rup.okGrid l := by
  obtain ⟨A, c, rfl, _, _, _, h4⟩ := h
  intro r hr x hx
  obtain ⟨k, hk⟩ := List.mem_iff_getElem?.1 hr
  obtain ⟨b', off, _, _, _, hc⟩ := h4 (List.length_pos_of_mem hr)
  obtain ⟨u, _, hu⟩ := hc k r hk
  obtain ⟨A', c', rfl, _, _, _, h5⟩ := hu
  obtain ⟨j, hj⟩ := List.mem_iff_getElem?.1 hx
  obtain ⟨b2, off2, _, _, _, hc2⟩ := h5 (List.length_pos_of_mem hx)
  obtain ⟨u2, _, hu2⟩ := hc2 j x hj
  exact hu2.2
theorem row_ok {b : Nat} {w : World} {v : Value} {l : List Int} (h : Row b w v l) : Rup.okRow l := by
  obtain ⟨A', c', rfl, _, _, _, h5⟩ := h
  intro x hx
  obtain ⟨j, hj⟩ := List.mem_iff_getElem?.1 hx
  obtain ⟨b2, off2, _, _, _, hc2⟩ := h5 (List.length_pos_of_mem hx)
  obtain ⟨u2, _, hu2⟩ := hc2 j x hj
  exact hu2.2
theorem bound_len (l : List (List Int)) : (bound l).length ≤ 60 := by simp [bound]; omega
theorem bound_flat (l : List (List Int)) : (bound l).flatten.length ≤ 720 := by
  have h : ∀ (m : List (List Int)) (n : Nat), m.length ≤ n → (m.map cut12).flatten.length ≤ 12 * n := by
    intro m
    induction m with
    | nil => intro n _; simp
    | cons a m ih =>
      intro n hn
      cases n with
      | zero => simp at hn
      | succ n =>
        have := ih n (by simpa using hn)
        have h2 : (cut12 a).length ≤ 12 := List.length_take_le _ _
        rw [List.map_cons, List.flatten_cons, List.length_append]; omega
  exact h (l.take 60) 60 (List.length_take_le _ _)

theorem bound_bound (l : List (List Int)) : bound (bound l) = bound l := by
  have h : ∀ m : List (List Int), (m.map cut12).map cut12 = m.map cut12 := by
    intro m
    rw [List.map_map]
    refine List.map_congr_left fun a _ => ?_
    simp [cut12, List.take_take]
  have e : (bound l).take 60 = bound l := List.take_of_length_le (bound_len l)
  show ((bound l).take 60).map cut12 = _
  rw [e, bound, h]
theorem same_bound (l : List (List Int)) : sameGrid (bound l) (bound (bound l)) = true := by
  rw [bound_bound]; exact beq_self_eq_true _

set_option maxRecDepth 100000 in
set_option maxHeartbeats 400000 in
theorem law1_any (b0 b1 : Nat) (l : List (List Int)) (p : List Int) (vl vp : Value) (w : World) (hl : Grid b0 w vl l) (hp : Row b1 w vp p) :
    Calls Try.prog 3 #[vl, vp] w fun e w' => e = .returned (.bool true) ∧ Below w.heap.size w w' := by
  obtain ⟨A, c, rfl, _, _, _⟩ := hl.open_
  obtain ⟨B, d, rfl, hd1, hd2, _⟩ := hp.open_
  have hpl : p.length ≤ 9223372036854775807 := by unfold maxLen at hd2; omega
  have hy0 := hp.take (n := min p.length 12) (Nat.min_le_left _ _)
  obtain ⟨y, hy⟩ : ∃ y, y = p.take (min p.length 12) := ⟨_, rfl⟩
  rw [← hy] at hy0
  have hyl : y.length ≤ 12 := by rw [hy]; exact Nat.le_trans (List.length_take_le _ _) (Nat.min_le_right _ _)
  clear hy
  have hq : ((12 : Int) < (p.length : Int) ∧ 12 ≤ d ∧ (12 : Int) ≤ (d : Int) ∧ Row b1 w (.slice B 12 d) y) ∨ (((¬ (12 : Int) < (p.length : Int)) ∧ ((12 : Int) < (p.length : Int)) = False ∧ (12 < p.length) = False ∧ (if (12 : Int) < (p.length : Int) then 12 else (p.length : Int)) = (p.length : Int)) ∧ p.length ≤ d ∧ (p.length : Int) ≤ (d : Int) ∧ Row b1 w (.slice B p.length d) y) := by
    by_cases h12 : (12 : Int) < (p.length : Int)
    · rw [Nat.min_eq_right (by omega)] at hy0
      exact Or.inl ⟨h12, by omega, by omega, hy0⟩
    · rw [Nat.min_eq_left (by omega)] at hy0
      exact Or.inr ⟨⟨h12, eq_false h12, eq_false (by omega), if_neg h12⟩, by omega, by omega, hy0⟩
  clear hy0
  have hL := lists_any b0 l _ w hl
  rcases hq with ⟨h12, hq1, hq2, hy0⟩ | ⟨⟨h12, h13, h14, h15⟩, hq1, hq2, hy0⟩
  all_goals
    go_enter Try.func3, Try.ntmps3
    go_wp2_with fail
    refine hL.mono ?_
    rintro e w1 ⟨v1, rfl, ho, hb⟩
    have hg : Grid 0 _ _ _ := ho.toSl 0
    have hy1 := row_below hy0 hb
    have hsz : y.length + (bound l).flatten.length ≤ 17592186044415 := by have := bound_flat l; omega
    have heq := Lib.hid (Rup.follows_eq (grid_ok hg) (row_ok hy1))
    go_wp2_with fail
    refine (fixed_any _).mono ?_
    rintro e w2 ⟨rfl, hb2⟩
    replace hb := below_then hb hb2
    replace hg := grid_below hg hb2
    replace hy1 := row_below hy1 hb2
    clear hb2
    go_wp2_with fail
    refine (follows_any _ _ _ _ _ _ _ hg hy1).mono ?_
    rintro e w3 ⟨rfl, hb3⟩
    replace hb := below_then hb hb3
    replace hg := grid_below hg hb3
    replace hy1 := row_below hy1 hb3
    clear hb3
    go_wp2_with fail
    refine (follows16_any _ _ _ _ _ _ _ hg hy1 hsz).mono ?_
    rintro e w4 ⟨rfl, hb4⟩
    replace hb := below_then hb hb4
    clear hb4
    rw [← heq.out]
    go_wp2
    go_ret
    exact ⟨ret_val (by simp), hb⟩
end Go.Proofs.Ytpafgieijplehaa
