/- The walk of fixed: calls whose answers the document fixes. -/
import Derived.Test.YtpafgieijplehaaOth2W
set_option linter.unusedVariables false
set_option linter.unusedSimpArgs false
namespace Go.Proofs.Ytpafgieijplehaa
open Go.RowKit

theorem check_val (b0 b1 : Nat) (n : Int) (l proof : List (List Int)) (v vp : Value) (w : World) (hl : Grid b0 w v l) (hp : Grid b1 w vp proof) (hsz : l.length + proof.length ≤ 1099511627776) (i : Int) (b : Bool) (hr : Rup.check Rup.follows l proof 0 false = (i.toNat, b)) (hi : 0 ≤ i) :
    Calls Try.prog 15 #[.agg #[.int .i64 n, v], vp] w fun e w' => e = .returned (.tuple #[.int .i64 i, .bool b]) ∧ Below w.heap.size w w' := by
  have := check_any b0 b1 n l proof v vp w hl hp hsz
  rw [hr] at this
  rwa [Int.toNat_of_nonneg hi] at this
theorem follows_val (b1 b2 : Nat) (l : List (List Int)) (p : List Int) (vl vp : Value) (w : World) (hl : Grid b1 w vl l) (hp : Row b2 w vp p) (b : Bool) (hr : Rup.follows l p = b) :
    Calls Try.prog 12 #[vl, vp] w fun e w' => e = .returned (.bool b) ∧ Below w.heap.size w w' := by
  have := follows_any b1 b2 l p vl vp w hl hp
  rwa [hr] at this
theorem i64_mk {w : World} (x : Int) (h1 : -9223372036854775808 ≤ x) (h2 : x ≤ 9223372036854775807) : I64 w (.int .i64 x) x := ⟨rfl, h1, h2⟩
set_option maxRecDepth 100000 in
set_option maxHeartbeats 1000000 in
theorem fixed_any (w : World) : Calls Try.prog 11 #[] w fun e w' => e = .returned (.bool true) ∧ Below w.heap.size w w' := by
  go_enter Try.func11, Try.ntmps11
  go_wp2_with fail
  refine (check_val 0 0 1 [[1], [-1]] [[]] _ _ _ ?g1 ?p1 (by decide) 1 true (by decide +kernel) (by decide)).mono ?_
  case g1 => exact (Sl.lit (us := [_, _]) (by repeat (first | exact blk_top (by simp) | refine blk_alloc ?_ _)) rfl (by decide) ⟨(Sl.lit (us := [_]) (by repeat (first | exact blk_top (by simp) | refine blk_alloc ?_ _)) rfl (by decide) ⟨i64_mk _ (by decide) (by decide), trivial⟩), (Sl.lit (us := [_]) (by repeat (first | exact blk_top (by simp) | refine blk_alloc ?_ _)) rfl (by decide) ⟨i64_mk _ (by decide) (by decide), trivial⟩), trivial⟩)
  case p1 => exact (Sl.lit (us := [_]) (by repeat (first | exact blk_top (by simp) | refine blk_alloc ?_ _)) rfl (by decide) ⟨(Sl.lit (us := []) (by repeat (first | exact blk_top (by simp) | refine blk_alloc ?_ _)) rfl (by decide) trivial), trivial⟩)
  rintro e w1 ⟨rfl, hb1⟩
  have GL1 : Grid 0 w1 (.slice (some ⟨w.heap.size + 1 + 1, 0, none⟩) 2 2) [[1, 2], [-1, 2]] := grid_below (Sl.lit (us := [_, _]) (by repeat (first | exact blk_top (by simp) | refine blk_alloc ?_ _)) rfl (by decide) ⟨(Sl.lit (us := [_, _]) (by repeat (first | exact blk_top (by simp) | refine blk_alloc ?_ _)) rfl (by decide) ⟨i64_mk _ (by decide) (by decide), i64_mk _ (by decide) (by decide), trivial⟩), (Sl.lit (us := [_, _]) (by repeat (first | exact blk_top (by simp) | refine blk_alloc ?_ _)) rfl (by decide) ⟨i64_mk _ (by decide) (by decide), i64_mk _ (by decide) (by decide), trivial⟩), trivial⟩) hb1
  have hB1 : Below w.heap.size w w1 := below_then (by repeat (first | exact Below.refl _ _ | refine below_alloc1 ?_ _)) hb1
  clear hb1
  go_wp2_with fail
  refine (check_val 0 0 0 [[1, 2], [-1, 2]] [[2], [1], []] _ _ _ ?g2 ?p2 (by decide) 1 false (by decide +kernel) (by decide)).mono ?_
  case g2 => repeat (first | exact GL1 | refine grid_alloc ?_ _)
  case p2 => exact (Sl.lit (us := [_, _, _]) (by repeat (first | exact blk_top (by simp) | refine blk_alloc ?_ _)) rfl (by decide) ⟨(Sl.lit (us := [_]) (by repeat (first | exact blk_top (by simp) | refine blk_alloc ?_ _)) rfl (by decide) ⟨i64_mk _ (by decide) (by decide), trivial⟩), (Sl.lit (us := [_]) (by repeat (first | exact blk_top (by simp) | refine blk_alloc ?_ _)) rfl (by decide) ⟨i64_mk _ (by decide) (by decide), trivial⟩), (Sl.lit (us := []) (by repeat (first | exact blk_top (by simp) | refine blk_alloc ?_ _)) rfl (by decide) trivial), trivial⟩)
  rintro e w2 ⟨rfl, hb2⟩
  have GL2 : Grid 0 w2 (.slice (some ⟨w.heap.size + 1 + 1, 0, none⟩) 2 2) [[1, 2], [-1, 2]] := grid_below (by repeat (first | exact GL1 | refine grid_alloc ?_ _)) hb2
  have hB2 : Below w.heap.size w w2 := below_then (by repeat (first | exact hB1 | refine below_alloc1 ?_ _)) hb2
  clear hb2 GL1 hB1
  go_wp2_with fail
  refine (follows_val 0 0 [[1, 2], [-1, 2]] [2] _ _ _ ?g3 ?p3 true (by decide +kernel)).mono ?_
  case g3 => repeat (first | exact GL2 | refine grid_alloc ?_ _)
  case p3 => exact (Sl.lit (us := [_]) (by repeat (first | exact blk_top (by simp) | refine blk_alloc ?_ _)) rfl (by decide) ⟨i64_mk _ (by decide) (by decide), trivial⟩)
  rintro e w3 ⟨rfl, hb3⟩
  have GL3 : Grid 0 w3 (.slice (some ⟨w.heap.size + 1 + 1, 0, none⟩) 2 2) [[1, 2], [-1, 2]] := grid_below (by repeat (first | exact GL2 | refine grid_alloc ?_ _)) hb3
  have hB3 : Below w.heap.size w w3 := below_then (by repeat (first | exact hB2 | refine below_alloc1 ?_ _)) hb3
  clear hb3 GL2 hB2
  go_wp2_with fail
  refine (follows_val 0 0 [[1, 2], [-1, 2]] [1] _ _ _ ?g4 ?p4 false (by decide +kernel)).mono ?_
  case g4 => repeat (first | exact GL3 | refine grid_alloc ?_ _)
  case p4 => exact (Sl.lit (us := [_]) (by repeat (first | exact blk_top (by simp) | refine blk_alloc ?_ _)) rfl (by decide) ⟨i64_mk _ (by decide) (by decide), trivial⟩)
  rintro e w4 ⟨rfl, hb4⟩
  have GL4 : Grid 0 w4 (.slice (some ⟨w.heap.size + 1 + 1, 0, none⟩) 2 2) [[1, 2], [-1, 2]] := grid_below (by repeat (first | exact GL3 | refine grid_alloc ?_ _)) hb4
  have hB4 : Below w.heap.size w w4 := below_then (by repeat (first | exact hB3 | refine below_alloc1 ?_ _)) hb4
  clear hb4 GL3 hB3
  go_wp2_with fail
  refine (follows_val 0 0 [] [3, -3] _ _ _ ?g5 ?p5 true (by decide +kernel)).mono ?_
  case g5 => exact Sl.nil_
  case p5 => exact (Sl.lit (us := [_, _]) (by repeat (first | exact blk_top (by simp) | refine blk_alloc ?_ _)) rfl (by decide) ⟨i64_mk _ (by decide) (by decide), i64_mk _ (by decide) (by decide), trivial⟩)
  rintro e w5 ⟨rfl, hb5⟩
  have GL5 : Grid 0 w5 (.slice (some ⟨w.heap.size + 1 + 1, 0, none⟩) 2 2) [[1, 2], [-1, 2]] := grid_below (by repeat (first | exact GL4 | refine grid_alloc ?_ _)) hb5
  have hB5 : Below w.heap.size w w5 := below_then (by repeat (first | exact hB4 | refine below_alloc1 ?_ _)) hb5
  clear hb5 GL4 hB4
  go_wp2_with fail
  refine (follows_val 0 0 [] [] _ _ _ ?g6 ?p6 false (by decide +kernel)).mono ?_
  case g6 => exact Sl.nil_
  case p6 => exact Sl.nil_
  rintro e w6 ⟨rfl, hb6⟩
  have GL6 : Grid 0 w6 (.slice (some ⟨w.heap.size + 1 + 1, 0, none⟩) 2 2) [[1, 2], [-1, 2]] := grid_below (by repeat (first | exact GL5 | refine grid_alloc ?_ _)) hb6
  have hB6 : Below w.heap.size w w6 := below_then (by repeat (first | exact hB5 | refine below_alloc1 ?_ _)) hb6
  clear hb6 GL5 hB5
  go_wp2_with fail
  refine (follows_val 0 0 [[]] [] _ _ _ ?g7 ?p7 true (by decide +kernel)).mono ?_
  case g7 => exact (Sl.lit (us := [_]) (by repeat (first | exact blk_top (by simp) | refine blk_alloc ?_ _)) rfl (by decide) ⟨(Sl.lit (us := []) (by repeat (first | exact blk_top (by simp) | refine blk_alloc ?_ _)) rfl (by decide) trivial), trivial⟩)
  case p7 => exact Sl.nil_
  rintro e w7 ⟨rfl, hb7⟩
  have GL7 : Grid 0 w7 (.slice (some ⟨w.heap.size + 1 + 1, 0, none⟩) 2 2) [[1, 2], [-1, 2]] := grid_below (by repeat (first | exact GL6 | refine grid_alloc ?_ _)) hb7
  have hB7 : Below w.heap.size w w7 := below_then (by repeat (first | exact hB6 | refine below_alloc1 ?_ _)) hb7
  clear hb7 GL6 hB6
  go_wp2_with fail
  go_ret
  exact ⟨rfl, hB7⟩
end Go.Proofs.Ytpafgieijplehaa
