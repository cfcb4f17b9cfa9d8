/-
  NARROWER THAN 'FOR EVERY INPUT', by the rows' own cells (each row's printed sentence says how): SimpShifts: laid · SimpWords: laid · SimpOps: laid · SimpTurns: laid · SimpAll: laid · SimpStays: laid.
  DERIVED. THE GIVEN ROWS OF THIS SEAT. 6 by the template 'for every input the law returns true; each argument reads behind the call as it read before'; 0 by the template 'total and deterministic' (their statements: YtekleoccdockhaaDoorTotals.lean).
  GIVEN WITH THE SEED: the statements are not yours to turn. If you find one false, say at which input.
  Laid BY PROGRAM, IN A SANDBOX (cutbox-rows.mjs): the forced cells as the released guide's own fill.sh prints them over the translation 347173f55367fb8c… (all of the seat's roots in one cut). By AI agents, Wed Nov 11 2026. No macro, syntax, notation, axiom, sorry.
-/
import Derived.Test.YtekleoccdockhaaDoorChecked
import GoSem.Claim
import GoSem.ClaimJoined
import GoSem.ClaimMapViews
import Derived.JoinedTies
import Derived.KernelRfl
namespace Go.Proofs.YtekleoccdockhaaDoor
/- THE CELL 'sum', in the pinned program and in every row, IS THE sha256 OF THE DUMP (.gsa) THAT YtekleoccdockhaaDoorProg.lean LOADS. Nothing in Lean hashes anything: it is a label: what it is worth is what the hold of that sum in a sandbox is worth. -/
noncomputable def Tryd.pinned : Pinned := { name := "ytekleoccdockhaadoor", sum := "347173f55367fb8c43fa9c976ae1a6a54466a34034bee022bc93a061cb3a2268", checked := Tryd.checked }
namespace Rows
def none {H : Type} : Left H := { results := [], args := [] }

/- WHAT THE LISTED PACKAGE-LEVEL VARIABLES READ AS WHEN THE CALL BEGINS. Each datum BY PROGRAM (the guide's laid-datum.mjs) off the statement by which the dump's own 'gosem.cut.vars' lays the variable. In a bare row this is a premise. The card (YtekleoccdockhaaDoorCards.lean) ties it to the program's text. -/
def laid_math_bits_deBruijn32tab {H : Type} : DataW H := .agg [.lit (.int .u8 0), .lit (.int .u8 1), .lit (.int .u8 28), .lit (.int .u8 2), .lit (.int .u8 29), .lit (.int .u8 14), .lit (.int .u8 24), .lit (.int .u8 3), .lit (.int .u8 30), .lit (.int .u8 22), .lit (.int .u8 20), .lit (.int .u8 15), .lit (.int .u8 25), .lit (.int .u8 17), .lit (.int .u8 4), .lit (.int .u8 8), .lit (.int .u8 31), .lit (.int .u8 27), .lit (.int .u8 13), .lit (.int .u8 23), .lit (.int .u8 21), .lit (.int .u8 19), .lit (.int .u8 16), .lit (.int .u8 7), .lit (.int .u8 26), .lit (.int .u8 12), .lit (.int .u8 18), .lit (.int .u8 6), .lit (.int .u8 11), .lit (.int .u8 5), .lit (.int .u8 10), .lit (.int .u8 9)]

/-- 'whetstonelaw11.SimpShifts': WHATEVER THE INPUT: true; the input reads as it did. -/
def simpShiftsSpec : ChangeSpec := { name := "simpShifts", fn := fun _ => fun
  | [d1, d2, d3] => { results := [.lit (.bool true)], args := [d1, d2, d3] }
  | _ => none }
def simpShiftsRow : OpenClaim := { program := "ytekleoccdockhaadoor", sum := "347173f55367fb8c43fa9c976ae1a6a54466a34034bee022bc93a061cb3a2268", func := "whetstone/whetstonelaw11.SimpShifts", spec := "simpShifts", inPlace := ["sync/atomic.LoadUint32", "(*internal/sync.Mutex).Lock", "internal/race.Disable", "sync/atomic.CompareAndSwapInt32", "internal/race.Enable", "internal/race.Acquire", "(*internal/sync.Mutex).lockSlow", "internal/sync.runtime_canSpin", "internal/sync.runtime_doSpin", "internal/sync.throw", "internal/sync.runtime_nanotime", "internal/sync.runtime_SemacquireMutex", "sync/atomic.AddInt32", "(*internal/sync.Mutex).Unlock", "internal/race.ReleaseMerge", "(*internal/sync.Mutex).unlockSlow", "internal/sync.fatal", "internal/sync.runtime_Semrelease", "sync/atomic.StoreUint32", "sync/atomic.AddInt64"], unfollowed := true, recurses := true, named := ["math/bits.deBruijn32tab"], plainKeys := false, apart := false, laid := [("math/bits.deBruijn32tab", laid_math_bits_deBruijn32tab)] }
def SimpShiftsSaid : Prop := simpShiftsRow.holds Tryd.pinned (OpenSpec.ofChange simpShiftsSpec)

/-- ITS FALSE NEIGHBOUR: 'it returns false'. Refute it at one input. -/
def simpShiftsWrong : ChangeSpec := { name := "simpShifts", fn := fun _ => fun
  | [d1, d2, d3] => { results := [.lit (.bool false)], args := [d1, d2, d3] }
  | _ => none }
def SimpShiftsWrongFalsely : Prop := simpShiftsRow.holds Tryd.pinned (OpenSpec.ofChange simpShiftsWrong)

/-- 'whetstonelaw11.SimpWords': WHATEVER THE INPUT: true; the input reads as it did. -/
def simpWordsSpec : ChangeSpec := { name := "simpWords", fn := fun _ => fun
  | [d1, d2, d3] => { results := [.lit (.bool true)], args := [d1, d2, d3] }
  | _ => none }
def simpWordsRow : OpenClaim := { program := "ytekleoccdockhaadoor", sum := "347173f55367fb8c43fa9c976ae1a6a54466a34034bee022bc93a061cb3a2268", func := "whetstone/whetstonelaw11.SimpWords", spec := "simpWords", inPlace := ["sync/atomic.LoadUint32", "(*internal/sync.Mutex).Lock", "internal/race.Disable", "sync/atomic.CompareAndSwapInt32", "internal/race.Enable", "internal/race.Acquire", "(*internal/sync.Mutex).lockSlow", "internal/sync.runtime_canSpin", "internal/sync.runtime_doSpin", "internal/sync.throw", "internal/sync.runtime_nanotime", "internal/sync.runtime_SemacquireMutex", "sync/atomic.AddInt32", "(*internal/sync.Mutex).Unlock", "internal/race.ReleaseMerge", "(*internal/sync.Mutex).unlockSlow", "internal/sync.fatal", "internal/sync.runtime_Semrelease", "sync/atomic.StoreUint32", "sync/atomic.AddInt64"], unfollowed := true, recurses := true, named := ["math/bits.deBruijn32tab"], plainKeys := false, apart := false, laid := [("math/bits.deBruijn32tab", laid_math_bits_deBruijn32tab)] }
def SimpWordsSaid : Prop := simpWordsRow.holds Tryd.pinned (OpenSpec.ofChange simpWordsSpec)

/-- ITS FALSE NEIGHBOUR: 'it returns false'. Refute it at one input. -/
def simpWordsWrong : ChangeSpec := { name := "simpWords", fn := fun _ => fun
  | [d1, d2, d3] => { results := [.lit (.bool false)], args := [d1, d2, d3] }
  | _ => none }
def SimpWordsWrongFalsely : Prop := simpWordsRow.holds Tryd.pinned (OpenSpec.ofChange simpWordsWrong)

/-- 'whetstonelaw11.SimpOps': WHATEVER THE INPUT: true; the input reads as it did. -/
def simpOpsSpec : ChangeSpec := { name := "simpOps", fn := fun _ => fun
  | [d1, d2] => { results := [.lit (.bool true)], args := [d1, d2] }
  | _ => none }
def simpOpsRow : OpenClaim := { program := "ytekleoccdockhaadoor", sum := "347173f55367fb8c43fa9c976ae1a6a54466a34034bee022bc93a061cb3a2268", func := "whetstone/whetstonelaw11.SimpOps", spec := "simpOps", inPlace := ["sync/atomic.LoadUint32", "(*internal/sync.Mutex).Lock", "internal/race.Disable", "sync/atomic.CompareAndSwapInt32", "internal/race.Enable", "internal/race.Acquire", "(*internal/sync.Mutex).lockSlow", "internal/sync.runtime_canSpin", "internal/sync.runtime_doSpin", "internal/sync.throw", "internal/sync.runtime_nanotime", "internal/sync.runtime_SemacquireMutex", "sync/atomic.AddInt32", "(*internal/sync.Mutex).Unlock", "internal/race.ReleaseMerge", "(*internal/sync.Mutex).unlockSlow", "internal/sync.fatal", "internal/sync.runtime_Semrelease", "sync/atomic.StoreUint32", "maps.clone", "sync/atomic.LoadInt64", "sync/atomic.StoreInt64", "sync/atomic.AddInt64"], unfollowed := true, recurses := true, named := ["math/bits.deBruijn32tab"], plainKeys := false, apart := false, laid := [("math/bits.deBruijn32tab", laid_math_bits_deBruijn32tab)] }
def SimpOpsSaid : Prop := simpOpsRow.holds Tryd.pinned (OpenSpec.ofChange simpOpsSpec)

/-- ITS FALSE NEIGHBOUR: 'it returns false'. Refute it at one input. -/
def simpOpsWrong : ChangeSpec := { name := "simpOps", fn := fun _ => fun
  | [d1, d2] => { results := [.lit (.bool false)], args := [d1, d2] }
  | _ => none }
def SimpOpsWrongFalsely : Prop := simpOpsRow.holds Tryd.pinned (OpenSpec.ofChange simpOpsWrong)

/-- 'whetstonelaw11.SimpTurns': WHATEVER THE INPUT: true; the input reads as it did. -/
def simpTurnsSpec : ChangeSpec := { name := "simpTurns", fn := fun _ => fun
  | [d1, d2, d3] => { results := [.lit (.bool true)], args := [d1, d2, d3] }
  | _ => none }
def simpTurnsRow : OpenClaim := { program := "ytekleoccdockhaadoor", sum := "347173f55367fb8c43fa9c976ae1a6a54466a34034bee022bc93a061cb3a2268", func := "whetstone/whetstonelaw11.SimpTurns", spec := "simpTurns", inPlace := ["sync/atomic.LoadUint32", "(*internal/sync.Mutex).Lock", "internal/race.Disable", "sync/atomic.CompareAndSwapInt32", "internal/race.Enable", "internal/race.Acquire", "(*internal/sync.Mutex).lockSlow", "internal/sync.runtime_canSpin", "internal/sync.runtime_doSpin", "internal/sync.throw", "internal/sync.runtime_nanotime", "internal/sync.runtime_SemacquireMutex", "sync/atomic.AddInt32", "(*internal/sync.Mutex).Unlock", "internal/race.ReleaseMerge", "(*internal/sync.Mutex).unlockSlow", "internal/sync.fatal", "internal/sync.runtime_Semrelease", "sync/atomic.StoreUint32", "maps.clone", "sync/atomic.LoadInt64", "sync/atomic.StoreInt64", "sync/atomic.AddInt64"], unfollowed := true, recurses := true, named := ["math/bits.deBruijn32tab"], plainKeys := false, apart := false, laid := [("math/bits.deBruijn32tab", laid_math_bits_deBruijn32tab)] }
def SimpTurnsSaid : Prop := simpTurnsRow.holds Tryd.pinned (OpenSpec.ofChange simpTurnsSpec)

/-- ITS FALSE NEIGHBOUR: 'it returns false'. Refute it at one input. -/
def simpTurnsWrong : ChangeSpec := { name := "simpTurns", fn := fun _ => fun
  | [d1, d2, d3] => { results := [.lit (.bool false)], args := [d1, d2, d3] }
  | _ => none }
def SimpTurnsWrongFalsely : Prop := simpTurnsRow.holds Tryd.pinned (OpenSpec.ofChange simpTurnsWrong)

/-- 'whetstonelaw11.SimpAll': WHATEVER THE INPUT: true; the input reads as it did. -/
def simpAllSpec : ChangeSpec := { name := "simpAll", fn := fun _ => fun
  | [d1, d2] => { results := [.lit (.bool true)], args := [d1, d2] }
  | _ => none }
def simpAllRow : OpenClaim := { program := "ytekleoccdockhaadoor", sum := "347173f55367fb8c43fa9c976ae1a6a54466a34034bee022bc93a061cb3a2268", func := "whetstone/whetstonelaw11.SimpAll", spec := "simpAll", inPlace := ["sync/atomic.LoadUint32", "(*internal/sync.Mutex).Lock", "internal/race.Disable", "sync/atomic.CompareAndSwapInt32", "internal/race.Enable", "internal/race.Acquire", "(*internal/sync.Mutex).lockSlow", "internal/sync.runtime_canSpin", "internal/sync.runtime_doSpin", "internal/sync.throw", "internal/sync.runtime_nanotime", "internal/sync.runtime_SemacquireMutex", "sync/atomic.AddInt32", "(*internal/sync.Mutex).Unlock", "internal/race.ReleaseMerge", "(*internal/sync.Mutex).unlockSlow", "internal/sync.fatal", "internal/sync.runtime_Semrelease", "sync/atomic.StoreUint32", "maps.clone", "sync/atomic.LoadInt64", "sync/atomic.StoreInt64", "sync/atomic.AddInt64"], unfollowed := true, recurses := true, named := ["math/bits.deBruijn32tab"], plainKeys := false, apart := false, laid := [("math/bits.deBruijn32tab", laid_math_bits_deBruijn32tab)] }
def SimpAllSaid : Prop := simpAllRow.holds Tryd.pinned (OpenSpec.ofChange simpAllSpec)

/-- ITS FALSE NEIGHBOUR: 'it returns false'. Refute it at one input. -/
def simpAllWrong : ChangeSpec := { name := "simpAll", fn := fun _ => fun
  | [d1, d2] => { results := [.lit (.bool false)], args := [d1, d2] }
  | _ => none }
def SimpAllWrongFalsely : Prop := simpAllRow.holds Tryd.pinned (OpenSpec.ofChange simpAllWrong)

/-- 'whetstonelaw11.SimpStays': WHATEVER THE INPUT: true; the input reads as it did. -/
def simpStaysSpec : ChangeSpec := { name := "simpStays", fn := fun _ => fun
  | [d1, d2] => { results := [.lit (.bool true)], args := [d1, d2] }
  | _ => none }
def simpStaysRow : OpenClaim := { program := "ytekleoccdockhaadoor", sum := "347173f55367fb8c43fa9c976ae1a6a54466a34034bee022bc93a061cb3a2268", func := "whetstone/whetstonelaw11.SimpStays", spec := "simpStays", inPlace := ["sync/atomic.LoadUint32", "(*internal/sync.Mutex).Lock", "internal/race.Disable", "sync/atomic.CompareAndSwapInt32", "internal/race.Enable", "internal/race.Acquire", "(*internal/sync.Mutex).lockSlow", "internal/sync.runtime_canSpin", "internal/sync.runtime_doSpin", "internal/sync.throw", "internal/sync.runtime_nanotime", "internal/sync.runtime_SemacquireMutex", "sync/atomic.AddInt32", "(*internal/sync.Mutex).Unlock", "internal/race.ReleaseMerge", "(*internal/sync.Mutex).unlockSlow", "internal/sync.fatal", "internal/sync.runtime_Semrelease", "sync/atomic.StoreUint32", "maps.clone", "sync/atomic.LoadInt64", "sync/atomic.StoreInt64", "sync/atomic.AddInt64"], unfollowed := true, recurses := true, named := ["math/bits.deBruijn32tab"], plainKeys := false, apart := false, laid := [("math/bits.deBruijn32tab", laid_math_bits_deBruijn32tab)] }
def SimpStaysSaid : Prop := simpStaysRow.holds Tryd.pinned (OpenSpec.ofChange simpStaysSpec)

/-- ITS FALSE NEIGHBOUR: 'it returns false'. Refute it at one input. -/
def simpStaysWrong : ChangeSpec := { name := "simpStays", fn := fun _ => fun
  | [d1, d2] => { results := [.lit (.bool false)], args := [d1, d2] }
  | _ => none }
def SimpStaysWrongFalsely : Prop := simpStaysRow.holds Tryd.pinned (OpenSpec.ofChange simpStaysWrong)

/- THE SECOND FORM. 'bulk': how many values and letters a reading holds, each counted each time it is reached (what is shared counts as often as it is met; a slice's spare places count too). A statement '..UptoSaid' is the law's where the arguments, and the package variables that the reading takes, are together of bulk at most 1048576: NARROWER than '..Said'. Prove '..Said' where nothing that the law and all that it calls make is longer than what came in: it says more and counts as full. Else prove '..UptoSaid'. A law counts once. -/
mutual
def uptoBulk {H : Type} : DataW H → Nat
  | .lit (.string bytes) => bytes.length + 1
  | .lit _ => 1
  | .nil => 1
  | .ptr d => uptoBulk d + 1
  | .slice elems spare => uptoBulkAll elems + uptoBulkAll spare + 1
  | .agg parts => uptoBulkAll parts + 1
  | .iface _ d => uptoBulk d + 1
  | .map entries => uptoBulkEntries entries + 1
  | .held _ => 1
def uptoBulkAll {H : Type} : List (DataW H) → Nat
  | [] => 0
  | d :: r => uptoBulk d + uptoBulkAll r
def uptoBulkEntries {H : Type} : List (Lit × DataW H) → Nat
  | [] => 0
  | x :: r => uptoBulkEntry x + uptoBulkEntries r
def uptoBulkEntry {H : Type} : Lit × DataW H → Nat
  | (.string bytes, d) => bytes.length + uptoBulk d + 1
  | (_, d) => uptoBulk d + 1
 end
def uptoSmall : (H : Type) → List (DataW H) → Bool := fun _ ds => decide (uptoBulkAll ds ≤ 1048576)
def OpenSpec.upto (s : _root_.Go.ChangeSpec) : _root_.Go.OpenSpec := { _root_.Go.OpenSpec.ofChange s with cond := some uptoSmall }

/-- 'whetstonelaw11.SimpShifts', WHERE WHAT IT READS IS OF BULK AT MOST 1048576: true; the input reads as it did. -/
def simpShiftsUptoRow : OpenClaim := { program := "ytekleoccdockhaadoor", sum := "347173f55367fb8c43fa9c976ae1a6a54466a34034bee022bc93a061cb3a2268", func := "whetstone/whetstonelaw11.SimpShifts", spec := "simpShifts", inPlace := ["sync/atomic.LoadUint32", "(*internal/sync.Mutex).Lock", "internal/race.Disable", "sync/atomic.CompareAndSwapInt32", "internal/race.Enable", "internal/race.Acquire", "(*internal/sync.Mutex).lockSlow", "internal/sync.runtime_canSpin", "internal/sync.runtime_doSpin", "internal/sync.throw", "internal/sync.runtime_nanotime", "internal/sync.runtime_SemacquireMutex", "sync/atomic.AddInt32", "(*internal/sync.Mutex).Unlock", "internal/race.ReleaseMerge", "(*internal/sync.Mutex).unlockSlow", "internal/sync.fatal", "internal/sync.runtime_Semrelease", "sync/atomic.StoreUint32", "sync/atomic.AddInt64"], unfollowed := true, recurses := true, named := ["math/bits.deBruijn32tab"], plainKeys := false, apart := false, laid := [("math/bits.deBruijn32tab", laid_math_bits_deBruijn32tab)], narrowed := true }
def SimpShiftsUptoSaid : Prop := simpShiftsUptoRow.holds Tryd.pinned (OpenSpec.upto simpShiftsSpec)

/-- 'whetstonelaw11.SimpWords', WHERE WHAT IT READS IS OF BULK AT MOST 1048576: true; the input reads as it did. -/
def simpWordsUptoRow : OpenClaim := { program := "ytekleoccdockhaadoor", sum := "347173f55367fb8c43fa9c976ae1a6a54466a34034bee022bc93a061cb3a2268", func := "whetstone/whetstonelaw11.SimpWords", spec := "simpWords", inPlace := ["sync/atomic.LoadUint32", "(*internal/sync.Mutex).Lock", "internal/race.Disable", "sync/atomic.CompareAndSwapInt32", "internal/race.Enable", "internal/race.Acquire", "(*internal/sync.Mutex).lockSlow", "internal/sync.runtime_canSpin", "internal/sync.runtime_doSpin", "internal/sync.throw", "internal/sync.runtime_nanotime", "internal/sync.runtime_SemacquireMutex", "sync/atomic.AddInt32", "(*internal/sync.Mutex).Unlock", "internal/race.ReleaseMerge", "(*internal/sync.Mutex).unlockSlow", "internal/sync.fatal", "internal/sync.runtime_Semrelease", "sync/atomic.StoreUint32", "sync/atomic.AddInt64"], unfollowed := true, recurses := true, named := ["math/bits.deBruijn32tab"], plainKeys := false, apart := false, laid := [("math/bits.deBruijn32tab", laid_math_bits_deBruijn32tab)], narrowed := true }
def SimpWordsUptoSaid : Prop := simpWordsUptoRow.holds Tryd.pinned (OpenSpec.upto simpWordsSpec)

/-- 'whetstonelaw11.SimpOps', WHERE WHAT IT READS IS OF BULK AT MOST 1048576: true; the input reads as it did. -/
def simpOpsUptoRow : OpenClaim := { program := "ytekleoccdockhaadoor", sum := "347173f55367fb8c43fa9c976ae1a6a54466a34034bee022bc93a061cb3a2268", func := "whetstone/whetstonelaw11.SimpOps", spec := "simpOps", inPlace := ["sync/atomic.LoadUint32", "(*internal/sync.Mutex).Lock", "internal/race.Disable", "sync/atomic.CompareAndSwapInt32", "internal/race.Enable", "internal/race.Acquire", "(*internal/sync.Mutex).lockSlow", "internal/sync.runtime_canSpin", "internal/sync.runtime_doSpin", "internal/sync.throw", "internal/sync.runtime_nanotime", "internal/sync.runtime_SemacquireMutex", "sync/atomic.AddInt32", "(*internal/sync.Mutex).Unlock", "internal/race.ReleaseMerge", "(*internal/sync.Mutex).unlockSlow", "internal/sync.fatal", "internal/sync.runtime_Semrelease", "sync/atomic.StoreUint32", "maps.clone", "sync/atomic.LoadInt64", "sync/atomic.StoreInt64", "sync/atomic.AddInt64"], unfollowed := true, recurses := true, named := ["math/bits.deBruijn32tab"], plainKeys := false, apart := false, laid := [("math/bits.deBruijn32tab", laid_math_bits_deBruijn32tab)], narrowed := true }
def SimpOpsUptoSaid : Prop := simpOpsUptoRow.holds Tryd.pinned (OpenSpec.upto simpOpsSpec)

/-- 'whetstonelaw11.SimpTurns', WHERE WHAT IT READS IS OF BULK AT MOST 1048576: true; the input reads as it did. -/
def simpTurnsUptoRow : OpenClaim := { program := "ytekleoccdockhaadoor", sum := "347173f55367fb8c43fa9c976ae1a6a54466a34034bee022bc93a061cb3a2268", func := "whetstone/whetstonelaw11.SimpTurns", spec := "simpTurns", inPlace := ["sync/atomic.LoadUint32", "(*internal/sync.Mutex).Lock", "internal/race.Disable", "sync/atomic.CompareAndSwapInt32", "internal/race.Enable", "internal/race.Acquire", "(*internal/sync.Mutex).lockSlow", "internal/sync.runtime_canSpin", "internal/sync.runtime_doSpin", "internal/sync.throw", "internal/sync.runtime_nanotime", "internal/sync.runtime_SemacquireMutex", "sync/atomic.AddInt32", "(*internal/sync.Mutex).Unlock", "internal/race.ReleaseMerge", "(*internal/sync.Mutex).unlockSlow", "internal/sync.fatal", "internal/sync.runtime_Semrelease", "sync/atomic.StoreUint32", "maps.clone", "sync/atomic.LoadInt64", "sync/atomic.StoreInt64", "sync/atomic.AddInt64"], unfollowed := true, recurses := true, named := ["math/bits.deBruijn32tab"], plainKeys := false, apart := false, laid := [("math/bits.deBruijn32tab", laid_math_bits_deBruijn32tab)], narrowed := true }
def SimpTurnsUptoSaid : Prop := simpTurnsUptoRow.holds Tryd.pinned (OpenSpec.upto simpTurnsSpec)

/-- 'whetstonelaw11.SimpAll', WHERE WHAT IT READS IS OF BULK AT MOST 1048576: true; the input reads as it did. -/
def simpAllUptoRow : OpenClaim := { program := "ytekleoccdockhaadoor", sum := "347173f55367fb8c43fa9c976ae1a6a54466a34034bee022bc93a061cb3a2268", func := "whetstone/whetstonelaw11.SimpAll", spec := "simpAll", inPlace := ["sync/atomic.LoadUint32", "(*internal/sync.Mutex).Lock", "internal/race.Disable", "sync/atomic.CompareAndSwapInt32", "internal/race.Enable", "internal/race.Acquire", "(*internal/sync.Mutex).lockSlow", "internal/sync.runtime_canSpin", "internal/sync.runtime_doSpin", "internal/sync.throw", "internal/sync.runtime_nanotime", "internal/sync.runtime_SemacquireMutex", "sync/atomic.AddInt32", "(*internal/sync.Mutex).Unlock", "internal/race.ReleaseMerge", "(*internal/sync.Mutex).unlockSlow", "internal/sync.fatal", "internal/sync.runtime_Semrelease", "sync/atomic.StoreUint32", "maps.clone", "sync/atomic.LoadInt64", "sync/atomic.StoreInt64", "sync/atomic.AddInt64"], unfollowed := true, recurses := true, named := ["math/bits.deBruijn32tab"], plainKeys := false, apart := false, laid := [("math/bits.deBruijn32tab", laid_math_bits_deBruijn32tab)], narrowed := true }
def SimpAllUptoSaid : Prop := simpAllUptoRow.holds Tryd.pinned (OpenSpec.upto simpAllSpec)

/-- 'whetstonelaw11.SimpStays', WHERE WHAT IT READS IS OF BULK AT MOST 1048576: true; the input reads as it did. -/
def simpStaysUptoRow : OpenClaim := { program := "ytekleoccdockhaadoor", sum := "347173f55367fb8c43fa9c976ae1a6a54466a34034bee022bc93a061cb3a2268", func := "whetstone/whetstonelaw11.SimpStays", spec := "simpStays", inPlace := ["sync/atomic.LoadUint32", "(*internal/sync.Mutex).Lock", "internal/race.Disable", "sync/atomic.CompareAndSwapInt32", "internal/race.Enable", "internal/race.Acquire", "(*internal/sync.Mutex).lockSlow", "internal/sync.runtime_canSpin", "internal/sync.runtime_doSpin", "internal/sync.throw", "internal/sync.runtime_nanotime", "internal/sync.runtime_SemacquireMutex", "sync/atomic.AddInt32", "(*internal/sync.Mutex).Unlock", "internal/race.ReleaseMerge", "(*internal/sync.Mutex).unlockSlow", "internal/sync.fatal", "internal/sync.runtime_Semrelease", "sync/atomic.StoreUint32", "maps.clone", "sync/atomic.LoadInt64", "sync/atomic.StoreInt64", "sync/atomic.AddInt64"], unfollowed := true, recurses := true, named := ["math/bits.deBruijn32tab"], plainKeys := false, apart := false, laid := [("math/bits.deBruijn32tab", laid_math_bits_deBruijn32tab)], narrowed := true }
def SimpStaysUptoSaid : Prop := simpStaysUptoRow.holds Tryd.pinned (OpenSpec.upto simpStaysSpec)

end Rows
end Go.Proofs.YtekleoccdockhaaDoor
