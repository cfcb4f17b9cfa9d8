/- What a query, and a slice of numbers, are that were handed in. -/
import Derived.Test.YtgnahjadjgjecaaOpen
import Derived.Test.YtgnahjadjgjecaaOpenO
import Derived.Test.YtgnahjadjgjecaaOpenR0
import Derived.Test.YtgnahjadjgjecaaBLawA
set_option linter.unusedVariables false
set_option linter.unusedSimpArgs false
namespace Go.Proofs.Ytgnahjadjgjecaa
open Go.RowKit Go.Deep Go.WideShapes

theorem cells_query : Try.prog.cellsOf 25 = 3 := by kernel_rfl
theorem reads_ints : Reads Try.prog 23 (fun W => Sl W.heap.size 3 I64) := reads_slice Try.underlying23 (by kernel_rfl) (reads_i64 Try.underlying3)
end Go.Proofs.Ytgnahjadjgjecaa
