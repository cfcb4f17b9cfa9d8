/-
  No cell of these rows narrows 'for every input' (looked for: loops, veiled, ifaces, maps, wideKeys, modest, calm, conditions, laid).
  DERIVED. THE GIVEN ROWS OF THIS SEAT. 7 by the template 'for every input the law returns true; each argument reads behind the call as it read before'; 0 by the template 'total and deterministic' (their statements: YtkleidcepnmioaaTotals.lean).
  GIVEN WITH THE SEED: the statements are not yours to turn. If you find one false, say at which input.
  Laid BY PROGRAM, IN A SANDBOX (cutbox-rows.mjs): the forced cells as the released guide's own fill.sh prints them over the translation 04e57e3d029e0bca… (all of the seat's roots in one cut). By AI agents, Wed Nov 11 2026. No macro, syntax, notation, axiom, sorry.
-/
import Derived.Test.YtkleidcepnmioaaChecked
import GoSem.Claim
import GoSem.ClaimJoined
import GoSem.ClaimMapViews
import Derived.JoinedTies
import Derived.KernelRfl
namespace Go.Proofs.Ytkleidcepnmioaa
/- THE CELL 'sum', in the pinned program and in every row, IS THE sha256 OF THE DUMP (.gsa) THAT YtkleidcepnmioaaProg.lean LOADS. Nothing in Lean hashes anything: it is a label: what it is worth is what the hold of that sum in a sandbox is worth. -/
noncomputable def Try.pinned : Pinned := { name := "ytkleidcepnmioaa", sum := "04e57e3d029e0bca6409037aab8b929e83f586c5f781cf4c36604f1120ade1a4", checked := Try.checked }
namespace Rows
def none {H : Type} : Left H := { results := [], args := [] }

/-- 'whetstonelaw10.TermWords': WHATEVER THE INPUT: true; the input reads as it did. -/
def termWordsSpec : ChangeSpec := { name := "termWords", fn := fun _ => fun
  | [d1, d2, d3] => { results := [.lit (.bool true)], args := [d1, d2, d3] }
  | _ => none }
def termWordsRow : OpenClaim := { program := "ytkleidcepnmioaa", sum := "04e57e3d029e0bca6409037aab8b929e83f586c5f781cf4c36604f1120ade1a4", func := "whetstone/whetstonelaw10.TermWords", spec := "termWords", inPlace := ["sync/atomic.LoadUint32", "(*internal/sync.Mutex).Lock", "internal/race.Disable", "sync/atomic.CompareAndSwapInt32", "internal/race.Enable", "internal/race.Acquire", "(*internal/sync.Mutex).lockSlow", "internal/sync.runtime_canSpin", "internal/sync.runtime_doSpin", "internal/sync.throw", "internal/sync.runtime_nanotime", "internal/sync.runtime_SemacquireMutex", "sync/atomic.AddInt32", "(*internal/sync.Mutex).Unlock", "internal/race.ReleaseMerge", "(*internal/sync.Mutex).unlockSlow", "internal/sync.fatal", "internal/sync.runtime_Semrelease", "sync/atomic.StoreUint32", "sync/atomic.AddInt64"], unfollowed := true, recurses := true, plainKeys := false, apart := false }
def TermWordsSaid : Prop := termWordsRow.holds Try.pinned (OpenSpec.ofChange termWordsSpec)

/-- ITS FALSE NEIGHBOUR: 'it returns false'. Refute it at one input. -/
def termWordsWrong : ChangeSpec := { name := "termWords", fn := fun _ => fun
  | [d1, d2, d3] => { results := [.lit (.bool false)], args := [d1, d2, d3] }
  | _ => none }
def TermWordsWrongFalsely : Prop := termWordsRow.holds Try.pinned (OpenSpec.ofChange termWordsWrong)

/-- 'whetstonelaw10.TermDoes': WHATEVER THE INPUT: true; the input reads as it did. -/
def termDoesSpec : ChangeSpec := { name := "termDoes", fn := fun _ => fun
  | [d] => { results := [.lit (.bool true)], args := [d] }
  | _ => none }
def termDoesRow : OpenClaim := { program := "ytkleidcepnmioaa", sum := "04e57e3d029e0bca6409037aab8b929e83f586c5f781cf4c36604f1120ade1a4", func := "whetstone/whetstonelaw10.TermDoes", spec := "termDoes", inPlace := ["sync/atomic.LoadUint32", "(*internal/sync.Mutex).Lock", "internal/race.Disable", "sync/atomic.CompareAndSwapInt32", "internal/race.Enable", "internal/race.Acquire", "(*internal/sync.Mutex).lockSlow", "internal/sync.runtime_canSpin", "internal/sync.runtime_doSpin", "internal/sync.throw", "internal/sync.runtime_nanotime", "internal/sync.runtime_SemacquireMutex", "sync/atomic.AddInt32", "(*internal/sync.Mutex).Unlock", "internal/race.ReleaseMerge", "(*internal/sync.Mutex).unlockSlow", "internal/sync.fatal", "internal/sync.runtime_Semrelease", "sync/atomic.StoreUint32", "maps.clone", "sync/atomic.LoadInt64", "sync/atomic.StoreInt64", "sync/atomic.AddInt64"], unfollowed := true, recurses := true, plainKeys := false, apart := false }
def TermDoesSaid : Prop := termDoesRow.holds Try.pinned (OpenSpec.ofChange termDoesSpec)

/-- ITS FALSE NEIGHBOUR: 'it returns false'. Refute it at one input. -/
def termDoesWrong : ChangeSpec := { name := "termDoes", fn := fun _ => fun
  | [d] => { results := [.lit (.bool false)], args := [d] }
  | _ => none }
def TermDoesWrongFalsely : Prop := termDoesRow.holds Try.pinned (OpenSpec.ofChange termDoesWrong)

/-- 'whetstonelaw10.TermEvals': WHATEVER THE INPUT: true; the input reads as it did. -/
def termEvalsSpec : ChangeSpec := { name := "termEvals", fn := fun _ => fun
  | [d1, d2, d3] => { results := [.lit (.bool true)], args := [d1, d2, d3] }
  | _ => none }
def termEvalsRow : OpenClaim := { program := "ytkleidcepnmioaa", sum := "04e57e3d029e0bca6409037aab8b929e83f586c5f781cf4c36604f1120ade1a4", func := "whetstone/whetstonelaw10.TermEvals", spec := "termEvals", inPlace := ["sync/atomic.LoadUint32", "(*internal/sync.Mutex).Lock", "internal/race.Disable", "sync/atomic.CompareAndSwapInt32", "internal/race.Enable", "internal/race.Acquire", "(*internal/sync.Mutex).lockSlow", "internal/sync.runtime_canSpin", "internal/sync.runtime_doSpin", "internal/sync.throw", "internal/sync.runtime_nanotime", "internal/sync.runtime_SemacquireMutex", "sync/atomic.AddInt32", "(*internal/sync.Mutex).Unlock", "internal/race.ReleaseMerge", "(*internal/sync.Mutex).unlockSlow", "internal/sync.fatal", "internal/sync.runtime_Semrelease", "sync/atomic.StoreUint32", "maps.clone", "sync/atomic.LoadInt64", "sync/atomic.StoreInt64", "sync/atomic.AddInt64"], unfollowed := true, recurses := true, plainKeys := false, apart := false }
def TermEvalsSaid : Prop := termEvalsRow.holds Try.pinned (OpenSpec.ofChange termEvalsSpec)

/-- ITS FALSE NEIGHBOUR: 'it returns false'. Refute it at one input. -/
def termEvalsWrong : ChangeSpec := { name := "termEvals", fn := fun _ => fun
  | [d1, d2, d3] => { results := [.lit (.bool false)], args := [d1, d2, d3] }
  | _ => none }
def TermEvalsWrongFalsely : Prop := termEvalsRow.holds Try.pinned (OpenSpec.ofChange termEvalsWrong)

/-- 'whetstonelaw10.TermOnce': WHATEVER THE INPUT: true; the input reads as it did. -/
def termOnceSpec : ChangeSpec := { name := "termOnce", fn := fun _ => fun
  | [d] => { results := [.lit (.bool true)], args := [d] }
  | _ => none }
def termOnceRow : OpenClaim := { program := "ytkleidcepnmioaa", sum := "04e57e3d029e0bca6409037aab8b929e83f586c5f781cf4c36604f1120ade1a4", func := "whetstone/whetstonelaw10.TermOnce", spec := "termOnce", inPlace := ["sync/atomic.LoadUint32", "(*internal/sync.Mutex).Lock", "internal/race.Disable", "sync/atomic.CompareAndSwapInt32", "internal/race.Enable", "internal/race.Acquire", "(*internal/sync.Mutex).lockSlow", "internal/sync.runtime_canSpin", "internal/sync.runtime_doSpin", "internal/sync.throw", "internal/sync.runtime_nanotime", "internal/sync.runtime_SemacquireMutex", "sync/atomic.AddInt32", "(*internal/sync.Mutex).Unlock", "internal/race.ReleaseMerge", "(*internal/sync.Mutex).unlockSlow", "internal/sync.fatal", "internal/sync.runtime_Semrelease", "sync/atomic.StoreUint32", "maps.clone", "sync/atomic.LoadInt64", "sync/atomic.StoreInt64", "sync/atomic.AddInt64"], unfollowed := true, recurses := true, plainKeys := false, apart := false }
def TermOnceSaid : Prop := termOnceRow.holds Try.pinned (OpenSpec.ofChange termOnceSpec)

/-- ITS FALSE NEIGHBOUR: 'it returns false'. Refute it at one input. -/
def termOnceWrong : ChangeSpec := { name := "termOnce", fn := fun _ => fun
  | [d] => { results := [.lit (.bool false)], args := [d] }
  | _ => none }
def TermOnceWrongFalsely : Prop := termOnceRow.holds Try.pinned (OpenSpec.ofChange termOnceWrong)

/-- 'whetstonelaw10.TermVars': WHATEVER THE INPUT: true; the input reads as it did. -/
def termVarsSpec : ChangeSpec := { name := "termVars", fn := fun _ => fun
  | [d1, d2, d3] => { results := [.lit (.bool true)], args := [d1, d2, d3] }
  | _ => none }
def termVarsRow : OpenClaim := { program := "ytkleidcepnmioaa", sum := "04e57e3d029e0bca6409037aab8b929e83f586c5f781cf4c36604f1120ade1a4", func := "whetstone/whetstonelaw10.TermVars", spec := "termVars", inPlace := ["sync/atomic.LoadUint32", "(*internal/sync.Mutex).Lock", "internal/race.Disable", "sync/atomic.CompareAndSwapInt32", "internal/race.Enable", "internal/race.Acquire", "(*internal/sync.Mutex).lockSlow", "internal/sync.runtime_canSpin", "internal/sync.runtime_doSpin", "internal/sync.throw", "internal/sync.runtime_nanotime", "internal/sync.runtime_SemacquireMutex", "sync/atomic.AddInt32", "(*internal/sync.Mutex).Unlock", "internal/race.ReleaseMerge", "(*internal/sync.Mutex).unlockSlow", "internal/sync.fatal", "internal/sync.runtime_Semrelease", "sync/atomic.StoreUint32", "maps.clone", "sync/atomic.LoadInt64", "sync/atomic.StoreInt64", "sync/atomic.AddInt64"], unfollowed := true, recurses := true, plainKeys := false, apart := false }
def TermVarsSaid : Prop := termVarsRow.holds Try.pinned (OpenSpec.ofChange termVarsSpec)

/-- ITS FALSE NEIGHBOUR: 'it returns false'. Refute it at one input. -/
def termVarsWrong : ChangeSpec := { name := "termVars", fn := fun _ => fun
  | [d1, d2, d3] => { results := [.lit (.bool false)], args := [d1, d2, d3] }
  | _ => none }
def TermVarsWrongFalsely : Prop := termVarsRow.holds Try.pinned (OpenSpec.ofChange termVarsWrong)

/-- 'whetstonelaw10.TermDeep': WHATEVER THE INPUT: true; the input reads as it did. -/
def termDeepSpec : ChangeSpec := { name := "termDeep", fn := fun _ => fun
  | [d1, d2, d3] => { results := [.lit (.bool true)], args := [d1, d2, d3] }
  | _ => none }
def termDeepRow : OpenClaim := { program := "ytkleidcepnmioaa", sum := "04e57e3d029e0bca6409037aab8b929e83f586c5f781cf4c36604f1120ade1a4", func := "whetstone/whetstonelaw10.TermDeep", spec := "termDeep", inPlace := ["sync/atomic.LoadUint32", "(*internal/sync.Mutex).Lock", "internal/race.Disable", "sync/atomic.CompareAndSwapInt32", "internal/race.Enable", "internal/race.Acquire", "(*internal/sync.Mutex).lockSlow", "internal/sync.runtime_canSpin", "internal/sync.runtime_doSpin", "internal/sync.throw", "internal/sync.runtime_nanotime", "internal/sync.runtime_SemacquireMutex", "sync/atomic.AddInt32", "(*internal/sync.Mutex).Unlock", "internal/race.ReleaseMerge", "(*internal/sync.Mutex).unlockSlow", "internal/sync.fatal", "internal/sync.runtime_Semrelease", "sync/atomic.StoreUint32", "maps.clone", "sync/atomic.LoadInt64", "sync/atomic.StoreInt64", "sync/atomic.AddInt64"], unfollowed := true, recurses := true, plainKeys := false, apart := false }
def TermDeepSaid : Prop := termDeepRow.holds Try.pinned (OpenSpec.ofChange termDeepSpec)

/-- ITS FALSE NEIGHBOUR: 'it returns false'. Refute it at one input. -/
def termDeepWrong : ChangeSpec := { name := "termDeep", fn := fun _ => fun
  | [d1, d2, d3] => { results := [.lit (.bool false)], args := [d1, d2, d3] }
  | _ => none }
def TermDeepWrongFalsely : Prop := termDeepRow.holds Try.pinned (OpenSpec.ofChange termDeepWrong)

/-- 'whetstonelaw10.TermCopies': WHATEVER THE INPUT: true; the input reads as it did. -/
def termCopiesSpec : ChangeSpec := { name := "termCopies", fn := fun _ => fun
  | [d1, d2] => { results := [.lit (.bool true)], args := [d1, d2] }
  | _ => none }
def termCopiesRow : OpenClaim := { program := "ytkleidcepnmioaa", sum := "04e57e3d029e0bca6409037aab8b929e83f586c5f781cf4c36604f1120ade1a4", func := "whetstone/whetstonelaw10.TermCopies", spec := "termCopies", inPlace := ["sync/atomic.LoadUint32", "(*internal/sync.Mutex).Lock", "internal/race.Disable", "sync/atomic.CompareAndSwapInt32", "internal/race.Enable", "internal/race.Acquire", "(*internal/sync.Mutex).lockSlow", "internal/sync.runtime_canSpin", "internal/sync.runtime_doSpin", "internal/sync.throw", "internal/sync.runtime_nanotime", "internal/sync.runtime_SemacquireMutex", "sync/atomic.AddInt32", "(*internal/sync.Mutex).Unlock", "internal/race.ReleaseMerge", "(*internal/sync.Mutex).unlockSlow", "internal/sync.fatal", "internal/sync.runtime_Semrelease", "sync/atomic.StoreUint32", "maps.clone", "sync/atomic.LoadInt64", "sync/atomic.StoreInt64", "sync/atomic.AddInt64"], unfollowed := true, recurses := true, plainKeys := false, apart := false }
def TermCopiesSaid : Prop := termCopiesRow.holds Try.pinned (OpenSpec.ofChange termCopiesSpec)

/-- ITS FALSE NEIGHBOUR: 'it returns false'. Refute it at one input. -/
def termCopiesWrong : ChangeSpec := { name := "termCopies", fn := fun _ => fun
  | [d1, d2] => { results := [.lit (.bool false)], args := [d1, d2] }
  | _ => none }
def TermCopiesWrongFalsely : Prop := termCopiesRow.holds Try.pinned (OpenSpec.ofChange termCopiesWrong)

/- THE SECOND FORM. 'bulk': how many values and letters a reading holds, each counted each time it is reached (what is shared counts as often as it is met; a slice's spare places count too). A statement '..UptoSaid' is the law's where the arguments, and the package variables that the reading takes, are together of bulk at most 1048576: NARROWER than '..Said'. Prove '..Said' where nothing that the law and all that it calls make is longer than what came in: it says more and counts as full. Else prove '..UptoSaid'. A law counts once. -/
mutual
def uptoBulk {H : Type} : DataW H → Nat
  | .lit (.string bytes) => bytes.length + 1
  | .lit _ => 1
  | .nil => 1
  | .ptr d => uptoBulk d + 1
  | .slice elems spare => uptoBulkAll elems + uptoBulkAll spare + 1
  | .agg parts => uptoBulkAll parts + 1
  | .iface _ d => uptoBulk d + 1
  | .map entries => uptoBulkEntries entries + 1
  | .held _ => 1
def uptoBulkAll {H : Type} : List (DataW H) → Nat
  | [] => 0
  | d :: r => uptoBulk d + uptoBulkAll r
def uptoBulkEntries {H : Type} : List (Lit × DataW H) → Nat
  | [] => 0
  | x :: r => uptoBulkEntry x + uptoBulkEntries r
def uptoBulkEntry {H : Type} : Lit × DataW H → Nat
  | (.string bytes, d) => bytes.length + uptoBulk d + 1
  | (_, d) => uptoBulk d + 1
 end
def uptoSmall : (H : Type) → List (DataW H) → Bool := fun _ ds => decide (uptoBulkAll ds ≤ 1048576)
def OpenSpec.upto (s : _root_.Go.ChangeSpec) : _root_.Go.OpenSpec := { _root_.Go.OpenSpec.ofChange s with cond := some uptoSmall }

/-- 'whetstonelaw10.TermWords', WHERE WHAT IT READS IS OF BULK AT MOST 1048576: true; the input reads as it did. -/
def termWordsUptoRow : OpenClaim := { program := "ytkleidcepnmioaa", sum := "04e57e3d029e0bca6409037aab8b929e83f586c5f781cf4c36604f1120ade1a4", func := "whetstone/whetstonelaw10.TermWords", spec := "termWords", inPlace := ["sync/atomic.LoadUint32", "(*internal/sync.Mutex).Lock", "internal/race.Disable", "sync/atomic.CompareAndSwapInt32", "internal/race.Enable", "internal/race.Acquire", "(*internal/sync.Mutex).lockSlow", "internal/sync.runtime_canSpin", "internal/sync.runtime_doSpin", "internal/sync.throw", "internal/sync.runtime_nanotime", "internal/sync.runtime_SemacquireMutex", "sync/atomic.AddInt32", "(*internal/sync.Mutex).Unlock", "internal/race.ReleaseMerge", "(*internal/sync.Mutex).unlockSlow", "internal/sync.fatal", "internal/sync.runtime_Semrelease", "sync/atomic.StoreUint32", "sync/atomic.AddInt64"], unfollowed := true, recurses := true, plainKeys := false, apart := false, narrowed := true }
def TermWordsUptoSaid : Prop := termWordsUptoRow.holds Try.pinned (OpenSpec.upto termWordsSpec)

/-- 'whetstonelaw10.TermDoes', WHERE WHAT IT READS IS OF BULK AT MOST 1048576: true; the input reads as it did. -/
def termDoesUptoRow : OpenClaim := { program := "ytkleidcepnmioaa", sum := "04e57e3d029e0bca6409037aab8b929e83f586c5f781cf4c36604f1120ade1a4", func := "whetstone/whetstonelaw10.TermDoes", spec := "termDoes", inPlace := ["sync/atomic.LoadUint32", "(*internal/sync.Mutex).Lock", "internal/race.Disable", "sync/atomic.CompareAndSwapInt32", "internal/race.Enable", "internal/race.Acquire", "(*internal/sync.Mutex).lockSlow", "internal/sync.runtime_canSpin", "internal/sync.runtime_doSpin", "internal/sync.throw", "internal/sync.runtime_nanotime", "internal/sync.runtime_SemacquireMutex", "sync/atomic.AddInt32", "(*internal/sync.Mutex).Unlock", "internal/race.ReleaseMerge", "(*internal/sync.Mutex).unlockSlow", "internal/sync.fatal", "internal/sync.runtime_Semrelease", "sync/atomic.StoreUint32", "maps.clone", "sync/atomic.LoadInt64", "sync/atomic.StoreInt64", "sync/atomic.AddInt64"], unfollowed := true, recurses := true, plainKeys := false, apart := false, narrowed := true }
def TermDoesUptoSaid : Prop := termDoesUptoRow.holds Try.pinned (OpenSpec.upto termDoesSpec)

/-- 'whetstonelaw10.TermEvals', WHERE WHAT IT READS IS OF BULK AT MOST 1048576: true; the input reads as it did. -/
def termEvalsUptoRow : OpenClaim := { program := "ytkleidcepnmioaa", sum := "04e57e3d029e0bca6409037aab8b929e83f586c5f781cf4c36604f1120ade1a4", func := "whetstone/whetstonelaw10.TermEvals", spec := "termEvals", inPlace := ["sync/atomic.LoadUint32", "(*internal/sync.Mutex).Lock", "internal/race.Disable", "sync/atomic.CompareAndSwapInt32", "internal/race.Enable", "internal/race.Acquire", "(*internal/sync.Mutex).lockSlow", "internal/sync.runtime_canSpin", "internal/sync.runtime_doSpin", "internal/sync.throw", "internal/sync.runtime_nanotime", "internal/sync.runtime_SemacquireMutex", "sync/atomic.AddInt32", "(*internal/sync.Mutex).Unlock", "internal/race.ReleaseMerge", "(*internal/sync.Mutex).unlockSlow", "internal/sync.fatal", "internal/sync.runtime_Semrelease", "sync/atomic.StoreUint32", "maps.clone", "sync/atomic.LoadInt64", "sync/atomic.StoreInt64", "sync/atomic.AddInt64"], unfollowed := true, recurses := true, plainKeys := false, apart := false, narrowed := true }
def TermEvalsUptoSaid : Prop := termEvalsUptoRow.holds Try.pinned (OpenSpec.upto termEvalsSpec)

/-- 'whetstonelaw10.TermOnce', WHERE WHAT IT READS IS OF BULK AT MOST 1048576: true; the input reads as it did. -/
def termOnceUptoRow : OpenClaim := { program := "ytkleidcepnmioaa", sum := "04e57e3d029e0bca6409037aab8b929e83f586c5f781cf4c36604f1120ade1a4", func := "whetstone/whetstonelaw10.TermOnce", spec := "termOnce", inPlace := ["sync/atomic.LoadUint32", "(*internal/sync.Mutex).Lock", "internal/race.Disable", "sync/atomic.CompareAndSwapInt32", "internal/race.Enable", "internal/race.Acquire", "(*internal/sync.Mutex).lockSlow", "internal/sync.runtime_canSpin", "internal/sync.runtime_doSpin", "internal/sync.throw", "internal/sync.runtime_nanotime", "internal/sync.runtime_SemacquireMutex", "sync/atomic.AddInt32", "(*internal/sync.Mutex).Unlock", "internal/race.ReleaseMerge", "(*internal/sync.Mutex).unlockSlow", "internal/sync.fatal", "internal/sync.runtime_Semrelease", "sync/atomic.StoreUint32", "maps.clone", "sync/atomic.LoadInt64", "sync/atomic.StoreInt64", "sync/atomic.AddInt64"], unfollowed := true, recurses := true, plainKeys := false, apart := false, narrowed := true }
def TermOnceUptoSaid : Prop := termOnceUptoRow.holds Try.pinned (OpenSpec.upto termOnceSpec)

/-- 'whetstonelaw10.TermVars', WHERE WHAT IT READS IS OF BULK AT MOST 1048576: true; the input reads as it did. -/
def termVarsUptoRow : OpenClaim := { program := "ytkleidcepnmioaa", sum := "04e57e3d029e0bca6409037aab8b929e83f586c5f781cf4c36604f1120ade1a4", func := "whetstone/whetstonelaw10.TermVars", spec := "termVars", inPlace := ["sync/atomic.LoadUint32", "(*internal/sync.Mutex).Lock", "internal/race.Disable", "sync/atomic.CompareAndSwapInt32", "internal/race.Enable", "internal/race.Acquire", "(*internal/sync.Mutex).lockSlow", "internal/sync.runtime_canSpin", "internal/sync.runtime_doSpin", "internal/sync.throw", "internal/sync.runtime_nanotime", "internal/sync.runtime_SemacquireMutex", "sync/atomic.AddInt32", "(*internal/sync.Mutex).Unlock", "internal/race.ReleaseMerge", "(*internal/sync.Mutex).unlockSlow", "internal/sync.fatal", "internal/sync.runtime_Semrelease", "sync/atomic.StoreUint32", "maps.clone", "sync/atomic.LoadInt64", "sync/atomic.StoreInt64", "sync/atomic.AddInt64"], unfollowed := true, recurses := true, plainKeys := false, apart := false, narrowed := true }
def TermVarsUptoSaid : Prop := termVarsUptoRow.holds Try.pinned (OpenSpec.upto termVarsSpec)

/-- 'whetstonelaw10.TermDeep', WHERE WHAT IT READS IS OF BULK AT MOST 1048576: true; the input reads as it did. -/
def termDeepUptoRow : OpenClaim := { program := "ytkleidcepnmioaa", sum := "04e57e3d029e0bca6409037aab8b929e83f586c5f781cf4c36604f1120ade1a4", func := "whetstone/whetstonelaw10.TermDeep", spec := "termDeep", inPlace := ["sync/atomic.LoadUint32", "(*internal/sync.Mutex).Lock", "internal/race.Disable", "sync/atomic.CompareAndSwapInt32", "internal/race.Enable", "internal/race.Acquire", "(*internal/sync.Mutex).lockSlow", "internal/sync.runtime_canSpin", "internal/sync.runtime_doSpin", "internal/sync.throw", "internal/sync.runtime_nanotime", "internal/sync.runtime_SemacquireMutex", "sync/atomic.AddInt32", "(*internal/sync.Mutex).Unlock", "internal/race.ReleaseMerge", "(*internal/sync.Mutex).unlockSlow", "internal/sync.fatal", "internal/sync.runtime_Semrelease", "sync/atomic.StoreUint32", "maps.clone", "sync/atomic.LoadInt64", "sync/atomic.StoreInt64", "sync/atomic.AddInt64"], unfollowed := true, recurses := true, plainKeys := false, apart := false, narrowed := true }
def TermDeepUptoSaid : Prop := termDeepUptoRow.holds Try.pinned (OpenSpec.upto termDeepSpec)

/-- 'whetstonelaw10.TermCopies', WHERE WHAT IT READS IS OF BULK AT MOST 1048576: true; the input reads as it did. -/
def termCopiesUptoRow : OpenClaim := { program := "ytkleidcepnmioaa", sum := "04e57e3d029e0bca6409037aab8b929e83f586c5f781cf4c36604f1120ade1a4", func := "whetstone/whetstonelaw10.TermCopies", spec := "termCopies", inPlace := ["sync/atomic.LoadUint32", "(*internal/sync.Mutex).Lock", "internal/race.Disable", "sync/atomic.CompareAndSwapInt32", "internal/race.Enable", "internal/race.Acquire", "(*internal/sync.Mutex).lockSlow", "internal/sync.runtime_canSpin", "internal/sync.runtime_doSpin", "internal/sync.throw", "internal/sync.runtime_nanotime", "internal/sync.runtime_SemacquireMutex", "sync/atomic.AddInt32", "(*internal/sync.Mutex).Unlock", "internal/race.ReleaseMerge", "(*internal/sync.Mutex).unlockSlow", "internal/sync.fatal", "internal/sync.runtime_Semrelease", "sync/atomic.StoreUint32", "maps.clone", "sync/atomic.LoadInt64", "sync/atomic.StoreInt64", "sync/atomic.AddInt64"], unfollowed := true, recurses := true, plainKeys := false, apart := false, narrowed := true }
def TermCopiesUptoSaid : Prop := termCopiesUptoRow.holds Try.pinned (OpenSpec.upto termCopiesSpec)

end Rows
end Go.Proofs.Ytkleidcepnmioaa
