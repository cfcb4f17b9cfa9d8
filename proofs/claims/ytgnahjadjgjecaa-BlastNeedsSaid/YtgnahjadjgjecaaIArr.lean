/- An array of 32 numbers. -/
import Derived.Test.YtgnahjadjgjecaaTDag
set_option linter.unusedVariables false
set_option linter.unusedSimpArgs false
namespace Go.Proofs.Ytgnahjadjgjecaa
open Go.RowKit

def zV (z : Nat → Int) : Array Value := ((List.range 32).map fun r => Value.int .i64 (z r)).toArray
theorem zV_size (z : Nat → Int) : (zV z).size = 32 := by simp [zV]
theorem zV_get (z : Nat → Int) {r : Nat} (h : r < 32) : (zV z)[r]? = some (.int .i64 (z r)) := by simp [zV, h]
theorem zV_ext {y z : Nat → Int} (h : ∀ r, r < 32 → y r = z r) : zV y = zV z := by
  unfold zV
  congr 1
  exact List.map_congr_left fun r hr => by rw [h r (by simpa using hr)]
def setZ (z : Nat → Int) (n : Nat) (m : Int) : Nat → Int := fun r => if r = n then m else z r
theorem zV_set (z : Nat → Int) (n : Nat) (m : Int) : (zV z).setIfInBounds n (.int .i64 m) = zV (setZ z n m) := by
  apply Array.ext_getElem?
  intro i
  rw [Array.getElem?_setIfInBounds, zV_size]
  by_cases hi : i < 32
  · rw [zV_get _ hi, zV_get _ hi]
    unfold setZ
    by_cases e : n = i
    · rw [if_pos e, if_pos (by omega), if_pos e.symm]
    · rw [if_neg e, if_neg fun h => e h.symm]
  · have h1 : ∀ y : Nat → Int, (zV y)[i]? = none := fun y => Array.getElem?_eq_none (by rw [zV_size]; omega)
    rw [h1, h1]
    split
    · rw [if_neg (by omega)]
    · rfl
/-- The array z in the block g. -/
def ZAt (t : TypeId) (w : World) (g : Nat) (z : Nat → Int) : Prop := w.heap[g]? = some (.cells (zV z) t (0, 0))
section
variable {t : TypeId} {w : World} {g : Nat} {z : Nat → Int} (h : ZAt t w g z)
include h
theorem ZAt.lt : g < w.heap.size := (Array.getElem?_eq_some_iff.1 h).1
theorem ZAt.cell {i : Nat} (hi : i < 32) : w.cell? ⟨g, i, none⟩ = some (.int .i64 (z i)) := by
  unfold ZAt at h
  simp [World.cell?, h, zV_get z hi]
theorem ZAt.fro (i : Nat) : w.frozen? ⟨g, i, none⟩ = false := frozen_of h i
theorem ZAt.kept {K : Nat → Prop} {w' : World} (hk : Kept K w w') (hg : K g) : ZAt t w' g z := hk.blk hg h
theorem ZAt.below {w' : World} (hb : Below w.heap.size w w') : ZAt t w' g z := h.kept (Kept.below (K := fun _ => True) hb) trivial
theorem ZAt.set (n : Nat) (m : Int) : ZAt t (w.setCell ⟨g, n, none⟩ (.int .i64 m)) g (setZ z n m) := by
  have := blk_set h n (.int .i64 m)
  rw [zV_set] at this
  exact this
end
theorem ZAt.ext {t : TypeId} {w : World} {g : Nat} {y z : Nat → Int} (h : ZAt t w g y) (e : ∀ r, r < 32 → y r = z r) : ZAt t w g z := by
  unfold ZAt at h ⊢
  rw [← zV_ext e]
  exact h
theorem ZAt.new (t : TypeId) (w : World) (z : Nat → Int) : ZAt t (w.alloc (.cells (zV z) t)) w.heap.size z := blk_new w _
end Go.Proofs.Ytgnahjadjgjecaa
