/- A segment, and what a row of the table says. -/
import Derived.Test.YtlpoebobfdmcmaaEMust
set_option linter.unusedVariables false
set_option linter.unusedSimpArgs false
namespace Go.Proofs.Ytlpoebobfdmcmaa
open Go.RowKit

structure Seg where
  addr : Nat
  data : ByteArray
  size : Int
  flags : Int
def Seg.val (g : Seg) : Value := .agg #[.int .u32 g.addr, .string g.data, .int .i64 g.size, .int .i64 g.flags]
def segOf (s : ByteArray) (a : Nat) : Except Int Seg :=
  if num (toL s) a 4 = 1 ∧ num (toL s) (a + 24) 4 ≤ 7 ∧ num (toL s) (a + 16) 4 ≤ num (toL s) (a + 20) 4 then
    if num (toL s) (a + 4) 4 ≤ s.size ∧ num (toL s) (a + 16) 4 ≤ s.size - num (toL s) (a + 4) 4 then
      .ok ⟨num (toL s) (a + 8) 4, s.extract (num (toL s) (a + 4) 4) (num (toL s) (a + 4) 4 + num (toL s) (a + 16) 4), num (toL s) (a + 20) 4, num (toL s) (a + 24) 4⟩
    else .error 60
  else .error 62
end Go.Proofs.Ytlpoebobfdmcmaa
