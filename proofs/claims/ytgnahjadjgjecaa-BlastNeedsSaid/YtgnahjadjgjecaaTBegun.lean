/- begun: a Dag's map, once. -/
import Derived.Test.YtgnahjadjgjecaaTOnce2
import Derived.Test.YtgnahjadjgjecaaTMap
set_option linter.unusedVariables false
set_option linter.unusedSimpArgs false
namespace Go.Proofs.Ytgnahjadjgjecaa
open Go.RowKit

theorem six_cells {W : World} {b : Nat} {u0 u1 u2 u3 u4 u5 : Value} {t : TypeId} {fz : Nat × Nat} (h : W.heap[b]? = some (.cells #[u0, u1, u2, u3, u4, u5] t fz)) :
    W.cell? ⟨b, 0, none⟩ = some u0 ∧ W.cell? ⟨b, 1, none⟩ = some u1 ∧ W.cell? ⟨b, 2, none⟩ = some u2 ∧ W.cell? ⟨b, 3, none⟩ = some u3 ∧ W.cell? ⟨b, 4, none⟩ = some u4 ∧ W.cell? ⟨b, 5, none⟩ = some u5 :=
  ⟨(cell_of h 0).trans rfl, (cell_of h 1).trans rfl, (cell_of h 2).trans rfl, (cell_of h 3).trans rfl, (cell_of h 4).trans rfl, (cell_of h 5).trans rfl⟩
set_option maxRecDepth 100000 in
set_option maxHeartbeats 1600000 in
theorem begun_first (b m : Nat) (vl x4 : Value) (n : Int) (w : World) (h : w.heap[b]? = some (.cells #[vl, .int .u32 0, .int .i32 0, .int .u32 0, x4, .int .i64 n] 108 (0, 0))) :
    Calls Try.prog 38 #[.pointer (some ⟨b, 0, none⟩), .map (some m)] w fun r w' => r = .returned (.tuple #[]) ∧
      w'.heap[b]? = some (.cells #[vl, .int .u32 1, .int .i32 0, .int .u32 0, .map (some m), .int .i64 n] 108 (0, 0)) ∧ w.grownBy w' (some b) := by
  have hmf : ∀ (fn : Fn) (first cap : Array Value) (w : World), (Instr.makeFunc fn first cap).run Try.prog w = .ok (.func fn first cap) w := fun _ _ _ _ => rfl
  have hlt : b < w.heap.size := (Array.getElem?_eq_some_iff.1 h).1
  go_enter Try.func38, Try.ntmps38
  have hW := blk_alloc (blk_alloc h (.cells #[.pointer (some ⟨b, 0, none⟩)] 28)) (.cells #[.map (some m)] 103)
  have hp := (cell_of (blk_alloc (blk_new w (.cells #[.pointer (some ⟨b, 0, none⟩)] 28)) (.cells #[.map (some m)] 103)) 0).trans (show _ = some (Value.pointer (some ⟨b, 0, none⟩)) from rfl)
  have hm : ((w.alloc (.cells #[.pointer (some ⟨b, 0, none⟩)] 28)).alloc (.cells #[.map (some m)] 103)).cell? ⟨w.heap.size + 1, 0, none⟩ = some (.map (some m)) := (cell_of (blk_top (by simp)) 0).trans rfl
  obtain ⟨c0, c1, c2, c3, c4, c5⟩ := six_cells hW
  have hbl := ((Below.refl w.heap.size w).alloc (Nat.le_refl _) (.cells #[.pointer (some ⟨b, 0, none⟩)] 28)).alloc (by simp) (.cells #[.map (some m)] 103)
  go_wp2_with fail
  refine (do_first b ⟨w.heap.size, 0, none⟩ ⟨w.heap.size + 1, 0, none⟩ (by simp; omega) (by simp; omega) x4 m _ hp hm c1 c2 c4 (frozen_of hW 1) (frozen_of hW 2) (frozen_of hW 4)).mono ?_
  rintro r w1 ⟨rfl, rfl⟩
  generalize (w.alloc (.cells #[.pointer (some ⟨b, 0, none⟩)] 28)).alloc (.cells #[.map (some m)] 103) = W2 at hW hbl
  have hE := blk_set (blk_set (w := ((W2.setCell ⟨b, 2, none⟩ (.int .i32 1)).setCell ⟨b, 4, none⟩ (.map (some m))).drew) (blk_set (blk_set hW 2 (.int .i32 1)) 4 (.map (some m))) 1 (.int .u32 1)) 2 (.int .i32 0)
  have hG : w.grownBy ((((W2.setCell ⟨b, 2, none⟩ (.int .i32 1)).setCell ⟨b, 4, none⟩ (.map (some m))).drew.setCell ⟨b, 1, none⟩ (.int .u32 1)).setCell ⟨b, 2, none⟩ (.int .i32 0)) (some b) := by
    refine ⟨hbl.os, hbl.tape, hbl.output, by simpa using hbl.size, fun i hi hne => ?_⟩
    have hib : i ≠ b := fun e => hne (by rw [e])
    rw [Below.heap_setCell _ ⟨b, 2, none⟩ _ i (by simpa using hib), Below.heap_setCell _ ⟨b, 1, none⟩ _ i (by simpa using hib)]
    show ((W2.setCell ⟨b, 2, none⟩ (.int .i32 1)).setCell ⟨b, 4, none⟩ (.map (some m))).heap[i]? = _
    rw [Below.heap_setCell _ ⟨b, 4, none⟩ _ i (by simpa using hib), Below.heap_setCell _ ⟨b, 2, none⟩ _ i (by simpa using hib)]
    exact hbl.block i hi
  go_wp2_with fail
  go_end0
  exact ⟨rfl, hE, hG⟩
set_option maxRecDepth 100000 in
theorem begun_again (b m : Nat) (vl x4 : Value) (n : Int) (w : World) (h : w.heap[b]? = some (.cells #[vl, .int .u32 1, .int .i32 0, .int .u32 0, x4, .int .i64 n] 108 (0, 0))) :
    Calls Try.prog 38 #[.pointer (some ⟨b, 0, none⟩), .map (some m)] w fun r w' => r = .returned (.tuple #[]) ∧ Below w.heap.size w w' := by
  have hmf : ∀ (fn : Fn) (first cap : Array Value) (w : World), (Instr.makeFunc fn first cap).run Try.prog w = .ok (.func fn first cap) w := fun _ _ _ _ => rfl
  have hlt : b < w.heap.size := (Array.getElem?_eq_some_iff.1 h).1
  have hW := blk_alloc (blk_alloc h (.cells #[.pointer (some ⟨b, 0, none⟩)] 28)) (.cells #[.map (some m)] 103)
  obtain ⟨c0, c1, c2, c3, c4, c5⟩ := six_cells hW
  have hbl := ((Below.refl w.heap.size w).alloc (Nat.le_refl _) (.cells #[.pointer (some ⟨b, 0, none⟩)] 28)).alloc (by simp) (.cells #[.map (some m)] 103)
  go_enter Try.func38, Try.ntmps38
  go_wp2_with fail
  refine (do_done ⟨b, 1, none⟩ 1 (by decide) _ _ c1).mono ?_
  rintro r w1 ⟨rfl, rfl⟩
  go_wp2_with fail
  go_end0
  exact ⟨rfl, hbl⟩
end Go.Proofs.Ytgnahjadjgjecaa
