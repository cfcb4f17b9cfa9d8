/- What a query, and a slice of numbers, are that were handed in. -/
import Derived.Test.YtgnahjadjgjecaaGreatOpen
import Derived.Test.YtgnahjadjgjecaaGreatOpenO
import Derived.Test.YtgnahjadjgjecaaGreatOpenR0
import Derived.Test.YtgnahjadjgjecaaGreatBLawA
set_option linter.unusedVariables false
set_option linter.unusedSimpArgs false
namespace Go.Proofs.YtgnahjadjgjecaaGreat
open Go.RowKit Go.Deep Go.WideShapes

theorem cells_query : Tryz.prog.cellsOf 25 = 3 := by kernel_rfl
theorem reads_ints : Reads Tryz.prog 23 (fun W => Sl W.heap.size 3 I64) := reads_slice Tryz.underlying23 (by kernel_rfl) (reads_i64 Tryz.underlying3)
end Go.Proofs.YtgnahjadjgjecaaGreat
