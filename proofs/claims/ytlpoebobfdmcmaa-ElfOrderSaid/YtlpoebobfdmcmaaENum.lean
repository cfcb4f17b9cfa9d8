/- Numbers of a loop's round (in a walk's great context the kernel takes minutes for what these say at once). -/
import Derived.Test.YtlpoebobfdmcmaaCells
namespace Go.Proofs.Ytlpoebobfdmcmaa
open Go.RowKit
theorem vsucc (k : Nat) : Value.int .i64 ((k : Int) + 1) = Value.int .i64 ((k + 1 : Nat) : Int) := rfl
theorem vadd (a b : Nat) : Value.int .i64 ((a : Int) + (b : Int)) = Value.int .i64 ((a + b : Nat) : Int) := rfl
theorem vat (n : Nat) : Value.int .i64 (52 + 32 * (n : Int)) = Value.int .i64 ((52 + 32 * n : Nat) : Int) := by congr 1
end Go.Proofs.Ytlpoebobfdmcmaa
