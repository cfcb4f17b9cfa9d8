/- simp.Op both ways round: the same number. -/
import Derived.Test.YtekleoccdockhaaDoorSOp
import Derived.Test.YtekleoccdockhaaDoorSAgain
set_option linter.unusedVariables false
set_option linter.unusedSimpArgs false
namespace Go.Proofs.YtekleoccdockhaaDoor
open Go.RowKit Go.Maps Go.MapKept

def OpTo (K : Nat → Prop) (d : Nat) (op x y : Int) (p : Nat) (ts us : List Term) : Prop := ∀ w, Tab w → DagAt K w d ts →
  Calls Tryd.prog 11 #[.pointer (some ⟨d, 0, none⟩), .int .i64 op, .int .i64 x, .int .i64 y] w fun e w' => e = .returned (.tuple #[.int .i64 (p : Nat), .int .i64 0]) ∧ DagAt K w' d us ∧ Kept K w w'
theorem opTo_made {K : Nat → Prop} {d op x y : Nat} {ts : List Term} (hl : ts.length < 100000000000) (hx : x < ts.length) (hy : y < ts.length) (ho : (doW op 0 0).isSome = true) (hG : Good ts) (hg : K 0) :
    OpTo K d op x y (made ts op x y).2 ts (made ts op x y).1 := fun w hT h => simpOp_any K d op x y ts hl hx hy ho hG hg w hT h
theorem turn_step {K : Nat → Prop} {d op x y D : Nat} {ts : List Term} (ht : turns op = true) (hl : ts.length < 10000000000) (hx : x < ts.length) (hy : y < ts.length) (hdx : dp ts x ≤ D) (hdy : dp ts y ≤ D) (hD : D < 100000) (hG : Good ts) (hg : K 0) :
    ∃ (p : Nat) (us us2 : List Term), OpTo K d op x y p ts us ∧ OpTo K d op y x p us us2 ∧ Good us2 ∧ Ext ts us2 ∧ us2.length ≤ ts.length + 16 * D + 20 := by
  have ho := turns_ok ht
  obtain ⟨m1, m2, m3⟩ := made_ok hG ho hx hy
  have l1 := (made_dp hG ho hx hy).1
  have hx1 : x < (made ts op x y).1.length := Nat.lt_of_lt_of_le hx m3.len
  have hy1 : y < (made ts op x y).1.length := Nat.lt_of_lt_of_le hy m3.len
  obtain ⟨n1, n2, n3⟩ := made_ok m1 ho hy1 hx1
  have l2 := (made_dp m1 ho hy1 hx1).1
  rw [dp_ext m3 hG hx, dp_ext m3 hG hy] at l2
  refine ⟨(made ts op x y).2, (made ts op x y).1, (made (made ts op x y).1 op y x).1, opTo_made (by omega) hx hy ho hG hg, ?_, n1, m3.trans n3, by omega⟩
  rw [made_turn hG ht hx hy]
  exact opTo_made (by omega) hy1 hx1 ho m1 hg
theorem same_step {K : Nat → Prop} {d x D : Nat} {ts : List Term} (hl : ts.length < 10000000000) (hx : x < ts.length) (hdx : dp ts x ≤ D) (hD : D < 100000) (hG : Good ts) (hg : K 0) :
    ∃ (p : Nat) (us : List Term), OpTo K d 28 x x p ts us ∧ p < us.length ∧ us.getD p default = ⟨0, 0, 0, 0, 0⟩ ∧ us.length < 1000000000000 := by
  have ho : (doW 28 0 0).isSome = true := rfl
  obtain ⟨m1, m2, m3⟩ := made_ok hG ho hx hx
  have l1 := (made_dp hG ho hx hx).1
  refine ⟨(made ts 28 x x).2, (made ts 28 x x).1, opTo_made (by omega) hx hx ho hG hg, m2, ?_, by omega⟩
  have key : made ts 28 x x = (ins ts (constT 0), pos ts (constT 0)) := by
    rw [made_next hG ho hx hx]
    have : next ts 28 x x = cst ts 0 := by
      unfold next
      cases hc : isC ts x with
      | true =>
        rw [if_pos ⟨rfl, rfl⟩]
        have : (doW 28 (wd ts x) (wd ts x)).getD 0 = 0 := by
          simp [doW, us]
        rw [this]
      | false =>
        rw [if_neg (by decide), if_neg (by simp), if_neg (by simp), if_neg (by simp)]
        simp [twiceN]
    rw [this]
    simp only [cst, Nx.fin]
  rw [key]
  exact ins_getD _ _ _
def turnOps : List Nat := [27, 36, 35, 32, 37, 38, 40]
theorem turnOps_turn : ∀ j, j < 7 → turns (turnOps.getD j 0) = true := by decide
end Go.Proofs.YtekleoccdockhaaDoor
