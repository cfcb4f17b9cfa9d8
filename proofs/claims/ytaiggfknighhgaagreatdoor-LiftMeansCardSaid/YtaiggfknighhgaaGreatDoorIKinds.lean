/- inst.kinds. -/
import Derived.Test.YtaiggfknighhgaaGreatDoorChecked
import Derived.Test.YtaiggfknighhgaaGreatDoorCells
import Derived.Test.YtaiggfknighhgaaGreatDoorIPure
import Derived.Laws.Rows
import Derived.Laws.Tables
import Derived.Deep.WholeRow
import Derived.Tactics2
import Derived.IntWalk
set_option linter.unusedVariables false
set_option linter.unusedSimpArgs false
namespace Go.Proofs.YtaiggfknighhgaaGreatDoor
open Go.RowKit

def kindsL : List (Nat × Nat × Nat × Nat) := [(85, 55, 0, 0), (85, 23, 0, 0), (74, 111, 0, 0), (73, 103, 0, 0), (66, 99, 0, 0), (66, 99, 1, 0), (66, 99, 4, 0), (66, 99, 5, 0), (66, 99, 6, 0), (66, 99, 7, 0), (73, 3, 0, 0), (73, 3, 1, 0), (73, 3, 2, 0), (73, 3, 4, 0), (73, 3, 5, 0), (83, 35, 0, 0), (83, 35, 1, 0), (83, 35, 2, 0), (73, 19, 0, 0), (73, 19, 2, 0), (73, 19, 3, 0), (73, 19, 4, 0), (73, 19, 6, 0), (73, 19, 7, 0), (72, 19, 1, 0), (72, 19, 5, 0), (72, 19, 5, 32), (82, 51, 0, 0), (82, 51, 0, 32), (82, 51, 1, 0), (82, 51, 2, 0), (82, 51, 3, 0), (82, 51, 4, 0), (82, 51, 5, 0), (82, 51, 5, 32), (82, 51, 6, 0), (82, 51, 7, 0), (82, 51, 0, 1), (82, 51, 1, 1), (82, 51, 2, 1), (82, 51, 3, 1), (82, 51, 4, 1), (82, 51, 5, 1), (82, 51, 6, 1), (82, 51, 7, 1), (69, 115, 0, 0), (69, 115, 0, 0)]
def kindV (x : Nat × Nat × Nat × Nat) : List Value := [.int .u8 (x.1 : Int), .int .u32 (x.2.1 : Int), .int .u32 (x.2.2.1 : Int), .int .u32 (x.2.2.2 : Int)]
def kindsA : Array Value := (kindsL.flatMap kindV).toArray
theorem kindsA_size : kindsA.size = 188 := by kernel_rfl
set_option maxRecDepth 100000 in
set_option maxHeartbeats 4000000 in
theorem kinds_any (w : World) : Calls Tryz.prog 56 #[] w fun e w' => e = .returned (.agg kindsA) ∧ Below w.heap.size w w' := by
  go_enter Tryz.func56, Tryz.ntmps56
  go_wp2_with (first | (refine wpList_store_row rfl 111 (.tmp 0) (.tmp 48) rfl w.heap.size kindsA rfl (by kernel_rfl) 111 _ (blk_new w _) (by kernel_rfl) (by kernel_rfl) (by kernel_rfl) ?_) | fail)
  rw [World.setRow_alloc_new]
  exact bodyPost_ret (v := .agg kindsA) (results_cell_row rfl _ _ w.heap.size 111 kindsA (0, 0) _ rfl (blk_new w _) Tryz.underlying111 rfl (by kernel_rfl)) rfl ⟨rfl, (Below.refl _ _).alloc (Nat.le_refl _) _⟩
end Go.Proofs.YtaiggfknighhgaaGreatDoor
