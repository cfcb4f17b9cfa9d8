/-
  No cell of these rows narrows 'for every input' (looked for: loops, veiled, ifaces, maps, wideKeys, modest, calm, conditions, laid).
  DERIVED. THE GIVEN ROWS OF THIS SEAT. 5 by the template 'for every input the law returns true; each argument reads behind the call as it read before'; 0 by the template 'total and deterministic' (their statements: YtgnahjadjgjecaaGreatTotals.lean).
  GIVEN WITH THE SEED: the statements are not yours to turn. If you find one false, say at which input.
  Laid BY PROGRAM, IN A SANDBOX (cutbox-rows.mjs): the forced cells as the released guide's own fill.sh prints them over the translation 349c0515f213f6ea… (all of the seat's roots in one cut). By AI agents, Wed Nov 11 2026. No macro, syntax, notation, axiom, sorry.
-/
import Derived.Test.YtgnahjadjgjecaaGreatChecked
import GoSem.Claim
import GoSem.ClaimJoined
import GoSem.ClaimMapViews
import Derived.JoinedTies
import Derived.KernelRfl
namespace Go.Proofs.YtgnahjadjgjecaaGreat
/- THE CELL 'sum', in the pinned program and in every row, IS THE sha256 OF THE DUMP (.gsa) THAT YtgnahjadjgjecaaGreatProg.lean LOADS. Nothing in Lean hashes anything: it is a label: what it is worth is what the hold of that sum in a sandbox is worth. -/
noncomputable def Tryz.pinned : Pinned := { name := "ytgnahjadjgjecaagreat", sum := "349c0515f213f6eaf39b05bd71cd9e6fd85d948ed39a0002a390c46ea3e09edd", checked := Tryz.checked }
namespace Rows
def none {H : Type} : Left H := { results := [], args := [] }

/-- 'whetstonelaw14.BlastDiffers': WHATEVER THE INPUT: true; the input reads as it did. -/
def blastDiffersSpec : ChangeSpec := { name := "blastDiffers", fn := fun _ => fun
  | [d1, d2] => { results := [.lit (.bool true)], args := [d1, d2] }
  | _ => none }
def blastDiffersRow : OpenClaim := { program := "ytgnahjadjgjecaagreat", sum := "349c0515f213f6eaf39b05bd71cd9e6fd85d948ed39a0002a390c46ea3e09edd", func := "whetstone/whetstonelaw14.BlastDiffers", spec := "blastDiffers", inPlace := ["sync/atomic.LoadUint32", "(*internal/sync.Mutex).Lock", "internal/race.Disable", "sync/atomic.CompareAndSwapInt32", "internal/race.Enable", "internal/race.Acquire", "(*internal/sync.Mutex).lockSlow", "internal/sync.runtime_canSpin", "internal/sync.runtime_doSpin", "internal/sync.throw", "internal/sync.runtime_nanotime", "internal/sync.runtime_SemacquireMutex", "sync/atomic.AddInt32", "(*internal/sync.Mutex).Unlock", "internal/race.ReleaseMerge", "(*internal/sync.Mutex).unlockSlow", "internal/sync.fatal", "internal/sync.runtime_Semrelease", "sync/atomic.StoreUint32", "maps.clone", "sync/atomic.LoadInt64", "sync/atomic.StoreInt64", "sync/atomic.AddInt64"], unfollowed := true, recurses := true, plainKeys := false, apart := false }
def BlastDiffersSaid : Prop := blastDiffersRow.holds Tryz.pinned (OpenSpec.ofChange blastDiffersSpec)

/-- ITS FALSE NEIGHBOUR: 'it returns false'. Refute it at one input. -/
def blastDiffersWrong : ChangeSpec := { name := "blastDiffers", fn := fun _ => fun
  | [d1, d2] => { results := [.lit (.bool false)], args := [d1, d2] }
  | _ => none }
def BlastDiffersWrongFalsely : Prop := blastDiffersRow.holds Tryz.pinned (OpenSpec.ofChange blastDiffersWrong)

/-- 'whetstonelaw14.BlastHolds': WHATEVER THE INPUT: true; the input reads as it did. -/
def blastHoldsSpec : ChangeSpec := { name := "blastHolds", fn := fun _ => fun
  | [d1, d2, d3] => { results := [.lit (.bool true)], args := [d1, d2, d3] }
  | _ => none }
def blastHoldsRow : OpenClaim := { program := "ytgnahjadjgjecaagreat", sum := "349c0515f213f6eaf39b05bd71cd9e6fd85d948ed39a0002a390c46ea3e09edd", func := "whetstone/whetstonelaw14.BlastHolds", spec := "blastHolds", inPlace := ["sync/atomic.LoadUint32", "(*internal/sync.Mutex).Lock", "internal/race.Disable", "sync/atomic.CompareAndSwapInt32", "internal/race.Enable", "internal/race.Acquire", "(*internal/sync.Mutex).lockSlow", "internal/sync.runtime_canSpin", "internal/sync.runtime_doSpin", "internal/sync.throw", "internal/sync.runtime_nanotime", "internal/sync.runtime_SemacquireMutex", "sync/atomic.AddInt32", "(*internal/sync.Mutex).Unlock", "internal/race.ReleaseMerge", "(*internal/sync.Mutex).unlockSlow", "internal/sync.fatal", "internal/sync.runtime_Semrelease", "sync/atomic.StoreUint32", "maps.clone", "sync/atomic.LoadInt64", "sync/atomic.StoreInt64", "sync/atomic.AddInt64"], unfollowed := true, recurses := true, plainKeys := false, apart := false }
def BlastHoldsSaid : Prop := blastHoldsRow.holds Tryz.pinned (OpenSpec.ofChange blastHoldsSpec)

/-- ITS FALSE NEIGHBOUR: 'it returns false'. Refute it at one input. -/
def blastHoldsWrong : ChangeSpec := { name := "blastHolds", fn := fun _ => fun
  | [d1, d2, d3] => { results := [.lit (.bool false)], args := [d1, d2, d3] }
  | _ => none }
def BlastHoldsWrongFalsely : Prop := blastHoldsRow.holds Tryz.pinned (OpenSpec.ofChange blastHoldsWrong)

/-- 'whetstonelaw14.BlastSame': WHATEVER THE INPUT: true; the input reads as it did. -/
def blastSameSpec : ChangeSpec := { name := "blastSame", fn := fun _ => fun
  | [d1, d2] => { results := [.lit (.bool true)], args := [d1, d2] }
  | _ => none }
def blastSameRow : OpenClaim := { program := "ytgnahjadjgjecaagreat", sum := "349c0515f213f6eaf39b05bd71cd9e6fd85d948ed39a0002a390c46ea3e09edd", func := "whetstone/whetstonelaw14.BlastSame", spec := "blastSame", inPlace := ["sync/atomic.LoadUint32", "(*internal/sync.Mutex).Lock", "internal/race.Disable", "sync/atomic.CompareAndSwapInt32", "internal/race.Enable", "internal/race.Acquire", "(*internal/sync.Mutex).lockSlow", "internal/sync.runtime_canSpin", "internal/sync.runtime_doSpin", "internal/sync.throw", "internal/sync.runtime_nanotime", "internal/sync.runtime_SemacquireMutex", "sync/atomic.AddInt32", "(*internal/sync.Mutex).Unlock", "internal/race.ReleaseMerge", "(*internal/sync.Mutex).unlockSlow", "internal/sync.fatal", "internal/sync.runtime_Semrelease", "sync/atomic.StoreUint32", "maps.clone", "sync/atomic.LoadInt64", "sync/atomic.StoreInt64", "sync/atomic.AddInt64"], unfollowed := true, recurses := true, plainKeys := false, apart := false }
def BlastSameSaid : Prop := blastSameRow.holds Tryz.pinned (OpenSpec.ofChange blastSameSpec)

/-- ITS FALSE NEIGHBOUR: 'it returns false'. Refute it at one input. -/
def blastSameWrong : ChangeSpec := { name := "blastSame", fn := fun _ => fun
  | [d1, d2] => { results := [.lit (.bool false)], args := [d1, d2] }
  | _ => none }
def BlastSameWrongFalsely : Prop := blastSameRow.holds Tryz.pinned (OpenSpec.ofChange blastSameWrong)

/-- 'whetstonelaw14.BlastTurns': WHATEVER THE INPUT: true; the input reads as it did. -/
def blastTurnsSpec : ChangeSpec := { name := "blastTurns", fn := fun _ => fun
  | [d1, d2] => { results := [.lit (.bool true)], args := [d1, d2] }
  | _ => none }
def blastTurnsRow : OpenClaim := { program := "ytgnahjadjgjecaagreat", sum := "349c0515f213f6eaf39b05bd71cd9e6fd85d948ed39a0002a390c46ea3e09edd", func := "whetstone/whetstonelaw14.BlastTurns", spec := "blastTurns", inPlace := ["sync/atomic.LoadUint32", "(*internal/sync.Mutex).Lock", "internal/race.Disable", "sync/atomic.CompareAndSwapInt32", "internal/race.Enable", "internal/race.Acquire", "(*internal/sync.Mutex).lockSlow", "internal/sync.runtime_canSpin", "internal/sync.runtime_doSpin", "internal/sync.throw", "internal/sync.runtime_nanotime", "internal/sync.runtime_SemacquireMutex", "sync/atomic.AddInt32", "(*internal/sync.Mutex).Unlock", "internal/race.ReleaseMerge", "(*internal/sync.Mutex).unlockSlow", "internal/sync.fatal", "internal/sync.runtime_Semrelease", "sync/atomic.StoreUint32", "maps.clone", "sync/atomic.LoadInt64", "sync/atomic.StoreInt64", "sync/atomic.AddInt64"], unfollowed := true, recurses := true, plainKeys := false, apart := false }
def BlastTurnsSaid : Prop := blastTurnsRow.holds Tryz.pinned (OpenSpec.ofChange blastTurnsSpec)

/-- ITS FALSE NEIGHBOUR: 'it returns false'. Refute it at one input. -/
def blastTurnsWrong : ChangeSpec := { name := "blastTurns", fn := fun _ => fun
  | [d1, d2] => { results := [.lit (.bool false)], args := [d1, d2] }
  | _ => none }
def BlastTurnsWrongFalsely : Prop := blastTurnsRow.holds Tryz.pinned (OpenSpec.ofChange blastTurnsWrong)

/-- 'whetstonelaw14.BlastOps': WHATEVER THE INPUT: true; the input reads as it did. -/
def blastOpsSpec : ChangeSpec := { name := "blastOps", fn := fun _ => fun
  | [d1, d2] => { results := [.lit (.bool true)], args := [d1, d2] }
  | _ => none }
def blastOpsRow : OpenClaim := { program := "ytgnahjadjgjecaagreat", sum := "349c0515f213f6eaf39b05bd71cd9e6fd85d948ed39a0002a390c46ea3e09edd", func := "whetstone/whetstonelaw14.BlastOps", spec := "blastOps", inPlace := ["sync/atomic.LoadUint32", "(*internal/sync.Mutex).Lock", "internal/race.Disable", "sync/atomic.CompareAndSwapInt32", "internal/race.Enable", "internal/race.Acquire", "(*internal/sync.Mutex).lockSlow", "internal/sync.runtime_canSpin", "internal/sync.runtime_doSpin", "internal/sync.throw", "internal/sync.runtime_nanotime", "internal/sync.runtime_SemacquireMutex", "sync/atomic.AddInt32", "(*internal/sync.Mutex).Unlock", "internal/race.ReleaseMerge", "(*internal/sync.Mutex).unlockSlow", "internal/sync.fatal", "internal/sync.runtime_Semrelease", "sync/atomic.StoreUint32", "sync/atomic.AddInt64"], unfollowed := true, recurses := true, plainKeys := false, apart := false }
def BlastOpsSaid : Prop := blastOpsRow.holds Tryz.pinned (OpenSpec.ofChange blastOpsSpec)

/-- ITS FALSE NEIGHBOUR: 'it returns false'. Refute it at one input. -/
def blastOpsWrong : ChangeSpec := { name := "blastOps", fn := fun _ => fun
  | [d1, d2] => { results := [.lit (.bool false)], args := [d1, d2] }
  | _ => none }
def BlastOpsWrongFalsely : Prop := blastOpsRow.holds Tryz.pinned (OpenSpec.ofChange blastOpsWrong)

/- THE SECOND FORM. 'bulk': how many values and letters a reading holds, each counted each time it is reached (what is shared counts as often as it is met; a slice's spare places count too). A statement '..UptoSaid' is the law's where the arguments, and the package variables that the reading takes, are together of bulk at most 1048576: NARROWER than '..Said'. Prove '..Said' where nothing that the law and all that it calls make is longer than what came in: it says more and counts as full. Else prove '..UptoSaid'. A law counts once. -/
mutual
def uptoBulk {H : Type} : DataW H → Nat
  | .lit (.string bytes) => bytes.length + 1
  | .lit _ => 1
  | .nil => 1
  | .ptr d => uptoBulk d + 1
  | .slice elems spare => uptoBulkAll elems + uptoBulkAll spare + 1
  | .agg parts => uptoBulkAll parts + 1
  | .iface _ d => uptoBulk d + 1
  | .map entries => uptoBulkEntries entries + 1
  | .held _ => 1
def uptoBulkAll {H : Type} : List (DataW H) → Nat
  | [] => 0
  | d :: r => uptoBulk d + uptoBulkAll r
def uptoBulkEntries {H : Type} : List (Lit × DataW H) → Nat
  | [] => 0
  | x :: r => uptoBulkEntry x + uptoBulkEntries r
def uptoBulkEntry {H : Type} : Lit × DataW H → Nat
  | (.string bytes, d) => bytes.length + uptoBulk d + 1
  | (_, d) => uptoBulk d + 1
 end
def uptoSmall : (H : Type) → List (DataW H) → Bool := fun _ ds => decide (uptoBulkAll ds ≤ 1048576)
def OpenSpec.upto (s : _root_.Go.ChangeSpec) : _root_.Go.OpenSpec := { _root_.Go.OpenSpec.ofChange s with cond := some uptoSmall }

/-- 'whetstonelaw14.BlastDiffers', WHERE WHAT IT READS IS OF BULK AT MOST 1048576: true; the input reads as it did. -/
def blastDiffersUptoRow : OpenClaim := { program := "ytgnahjadjgjecaagreat", sum := "349c0515f213f6eaf39b05bd71cd9e6fd85d948ed39a0002a390c46ea3e09edd", func := "whetstone/whetstonelaw14.BlastDiffers", spec := "blastDiffers", inPlace := ["sync/atomic.LoadUint32", "(*internal/sync.Mutex).Lock", "internal/race.Disable", "sync/atomic.CompareAndSwapInt32", "internal/race.Enable", "internal/race.Acquire", "(*internal/sync.Mutex).lockSlow", "internal/sync.runtime_canSpin", "internal/sync.runtime_doSpin", "internal/sync.throw", "internal/sync.runtime_nanotime", "internal/sync.runtime_SemacquireMutex", "sync/atomic.AddInt32", "(*internal/sync.Mutex).Unlock", "internal/race.ReleaseMerge", "(*internal/sync.Mutex).unlockSlow", "internal/sync.fatal", "internal/sync.runtime_Semrelease", "sync/atomic.StoreUint32", "maps.clone", "sync/atomic.LoadInt64", "sync/atomic.StoreInt64", "sync/atomic.AddInt64"], unfollowed := true, recurses := true, plainKeys := false, apart := false, narrowed := true }
def BlastDiffersUptoSaid : Prop := blastDiffersUptoRow.holds Tryz.pinned (OpenSpec.upto blastDiffersSpec)

/-- 'whetstonelaw14.BlastHolds', WHERE WHAT IT READS IS OF BULK AT MOST 1048576: true; the input reads as it did. -/
def blastHoldsUptoRow : OpenClaim := { program := "ytgnahjadjgjecaagreat", sum := "349c0515f213f6eaf39b05bd71cd9e6fd85d948ed39a0002a390c46ea3e09edd", func := "whetstone/whetstonelaw14.BlastHolds", spec := "blastHolds", inPlace := ["sync/atomic.LoadUint32", "(*internal/sync.Mutex).Lock", "internal/race.Disable", "sync/atomic.CompareAndSwapInt32", "internal/race.Enable", "internal/race.Acquire", "(*internal/sync.Mutex).lockSlow", "internal/sync.runtime_canSpin", "internal/sync.runtime_doSpin", "internal/sync.throw", "internal/sync.runtime_nanotime", "internal/sync.runtime_SemacquireMutex", "sync/atomic.AddInt32", "(*internal/sync.Mutex).Unlock", "internal/race.ReleaseMerge", "(*internal/sync.Mutex).unlockSlow", "internal/sync.fatal", "internal/sync.runtime_Semrelease", "sync/atomic.StoreUint32", "maps.clone", "sync/atomic.LoadInt64", "sync/atomic.StoreInt64", "sync/atomic.AddInt64"], unfollowed := true, recurses := true, plainKeys := false, apart := false, narrowed := true }
def BlastHoldsUptoSaid : Prop := blastHoldsUptoRow.holds Tryz.pinned (OpenSpec.upto blastHoldsSpec)

/-- 'whetstonelaw14.BlastSame', WHERE WHAT IT READS IS OF BULK AT MOST 1048576: true; the input reads as it did. -/
def blastSameUptoRow : OpenClaim := { program := "ytgnahjadjgjecaagreat", sum := "349c0515f213f6eaf39b05bd71cd9e6fd85d948ed39a0002a390c46ea3e09edd", func := "whetstone/whetstonelaw14.BlastSame", spec := "blastSame", inPlace := ["sync/atomic.LoadUint32", "(*internal/sync.Mutex).Lock", "internal/race.Disable", "sync/atomic.CompareAndSwapInt32", "internal/race.Enable", "internal/race.Acquire", "(*internal/sync.Mutex).lockSlow", "internal/sync.runtime_canSpin", "internal/sync.runtime_doSpin", "internal/sync.throw", "internal/sync.runtime_nanotime", "internal/sync.runtime_SemacquireMutex", "sync/atomic.AddInt32", "(*internal/sync.Mutex).Unlock", "internal/race.ReleaseMerge", "(*internal/sync.Mutex).unlockSlow", "internal/sync.fatal", "internal/sync.runtime_Semrelease", "sync/atomic.StoreUint32", "maps.clone", "sync/atomic.LoadInt64", "sync/atomic.StoreInt64", "sync/atomic.AddInt64"], unfollowed := true, recurses := true, plainKeys := false, apart := false, narrowed := true }
def BlastSameUptoSaid : Prop := blastSameUptoRow.holds Tryz.pinned (OpenSpec.upto blastSameSpec)

/-- 'whetstonelaw14.BlastTurns', WHERE WHAT IT READS IS OF BULK AT MOST 1048576: true; the input reads as it did. -/
def blastTurnsUptoRow : OpenClaim := { program := "ytgnahjadjgjecaagreat", sum := "349c0515f213f6eaf39b05bd71cd9e6fd85d948ed39a0002a390c46ea3e09edd", func := "whetstone/whetstonelaw14.BlastTurns", spec := "blastTurns", inPlace := ["sync/atomic.LoadUint32", "(*internal/sync.Mutex).Lock", "internal/race.Disable", "sync/atomic.CompareAndSwapInt32", "internal/race.Enable", "internal/race.Acquire", "(*internal/sync.Mutex).lockSlow", "internal/sync.runtime_canSpin", "internal/sync.runtime_doSpin", "internal/sync.throw", "internal/sync.runtime_nanotime", "internal/sync.runtime_SemacquireMutex", "sync/atomic.AddInt32", "(*internal/sync.Mutex).Unlock", "internal/race.ReleaseMerge", "(*internal/sync.Mutex).unlockSlow", "internal/sync.fatal", "internal/sync.runtime_Semrelease", "sync/atomic.StoreUint32", "maps.clone", "sync/atomic.LoadInt64", "sync/atomic.StoreInt64", "sync/atomic.AddInt64"], unfollowed := true, recurses := true, plainKeys := false, apart := false, narrowed := true }
def BlastTurnsUptoSaid : Prop := blastTurnsUptoRow.holds Tryz.pinned (OpenSpec.upto blastTurnsSpec)

/-- 'whetstonelaw14.BlastOps', WHERE WHAT IT READS IS OF BULK AT MOST 1048576: true; the input reads as it did. -/
def blastOpsUptoRow : OpenClaim := { program := "ytgnahjadjgjecaagreat", sum := "349c0515f213f6eaf39b05bd71cd9e6fd85d948ed39a0002a390c46ea3e09edd", func := "whetstone/whetstonelaw14.BlastOps", spec := "blastOps", inPlace := ["sync/atomic.LoadUint32", "(*internal/sync.Mutex).Lock", "internal/race.Disable", "sync/atomic.CompareAndSwapInt32", "internal/race.Enable", "internal/race.Acquire", "(*internal/sync.Mutex).lockSlow", "internal/sync.runtime_canSpin", "internal/sync.runtime_doSpin", "internal/sync.throw", "internal/sync.runtime_nanotime", "internal/sync.runtime_SemacquireMutex", "sync/atomic.AddInt32", "(*internal/sync.Mutex).Unlock", "internal/race.ReleaseMerge", "(*internal/sync.Mutex).unlockSlow", "internal/sync.fatal", "internal/sync.runtime_Semrelease", "sync/atomic.StoreUint32", "sync/atomic.AddInt64"], unfollowed := true, recurses := true, plainKeys := false, apart := false, narrowed := true }
def BlastOpsUptoSaid : Prop := blastOpsUptoRow.holds Tryz.pinned (OpenSpec.upto blastOpsSpec)

end Rows
end Go.Proofs.YtgnahjadjgjecaaGreat
