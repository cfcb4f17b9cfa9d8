/-
  No cell of these rows narrows 'for every input' (looked for: loops, veiled, ifaces, maps, wideKeys, modest, calm, conditions, laid).
  DERIVED. THE GIVEN ROWS OF THIS SEAT. 7 by the template 'for every input the law returns true; each argument reads behind the call as it read before'; 0 by the template 'total and deterministic' (their statements: YtlpoebobfdmcmaaTotals.lean).
  GIVEN WITH THE SEED: the statements are not yours to turn. If you find one false, say at which input.
  Laid BY PROGRAM, IN A SANDBOX (cutbox-rows.mjs): the forced cells as the released guide's own fill.sh prints them over the translation 8a9ba6cf70d19986… (all of the seat's roots in one cut). By AI agents, Wed Nov 11 2026. No macro, syntax, notation, axiom, sorry.
-/
import Derived.Test.YtlpoebobfdmcmaaChecked
import GoSem.Claim
import GoSem.ClaimJoined
import GoSem.ClaimMapViews
import Derived.JoinedTies
import Derived.KernelRfl
namespace Go.Proofs.Ytlpoebobfdmcmaa
/- THE CELL 'sum', in the pinned program and in every row, IS THE sha256 OF THE DUMP (.gsa) THAT YtlpoebobfdmcmaaProg.lean LOADS. Nothing in Lean hashes anything: it is a label: what it is worth is what the hold of that sum in a sandbox is worth. -/
noncomputable def Try.pinned : Pinned := { name := "ytlpoebobfdmcmaa", sum := "8a9ba6cf70d199862f7942aba2481e4ae83dfb1b7136d5d6112ef6af2b48c27c", checked := Try.checked }
namespace Rows
def none {H : Type} : Left H := { results := [], args := [] }

/-- 'whetstonelaw06.ElfChecks': WHATEVER THE INPUT: true; the input reads as it did. -/
def elfChecksSpec : ChangeSpec := { name := "elfChecks", fn := fun _ => fun
  | [d] => { results := [.lit (.bool true)], args := [d] }
  | _ => none }
def elfChecksRow : OpenClaim := { program := "ytlpoebobfdmcmaa", sum := "8a9ba6cf70d199862f7942aba2481e4ae83dfb1b7136d5d6112ef6af2b48c27c", func := "whetstone/whetstonelaw06.ElfChecks", spec := "elfChecks", unfollowed := true, recurses := true, apart := false }
def ElfChecksSaid : Prop := elfChecksRow.holds Try.pinned (OpenSpec.ofChange elfChecksSpec)

/-- ITS FALSE NEIGHBOUR: 'it returns false'. Refute it at one input. -/
def elfChecksWrong : ChangeSpec := { name := "elfChecks", fn := fun _ => fun
  | [d] => { results := [.lit (.bool false)], args := [d] }
  | _ => none }
def ElfChecksWrongFalsely : Prop := elfChecksRow.holds Try.pinned (OpenSpec.ofChange elfChecksWrong)

/-- 'whetstonelaw06.ElfBack': WHATEVER THE INPUT: true; the input reads as it did. -/
def elfBackSpec : ChangeSpec := { name := "elfBack", fn := fun _ => fun
  | [d] => { results := [.lit (.bool true)], args := [d] }
  | _ => none }
def elfBackRow : OpenClaim := { program := "ytlpoebobfdmcmaa", sum := "8a9ba6cf70d199862f7942aba2481e4ae83dfb1b7136d5d6112ef6af2b48c27c", func := "whetstone/whetstonelaw06.ElfBack", spec := "elfBack", unfollowed := true, recurses := true, apart := false }
def ElfBackSaid : Prop := elfBackRow.holds Try.pinned (OpenSpec.ofChange elfBackSpec)

/-- ITS FALSE NEIGHBOUR: 'it returns false'. Refute it at one input. -/
def elfBackWrong : ChangeSpec := { name := "elfBack", fn := fun _ => fun
  | [d] => { results := [.lit (.bool false)], args := [d] }
  | _ => none }
def ElfBackWrongFalsely : Prop := elfBackRow.holds Try.pinned (OpenSpec.ofChange elfBackWrong)

/-- 'whetstonelaw06.ElfAgain': WHATEVER THE INPUT: true; the input reads as it did. -/
def elfAgainSpec : ChangeSpec := { name := "elfAgain", fn := fun _ => fun
  | [d] => { results := [.lit (.bool true)], args := [d] }
  | _ => none }
def elfAgainRow : OpenClaim := { program := "ytlpoebobfdmcmaa", sum := "8a9ba6cf70d199862f7942aba2481e4ae83dfb1b7136d5d6112ef6af2b48c27c", func := "whetstone/whetstonelaw06.ElfAgain", spec := "elfAgain", unfollowed := true, recurses := true, apart := false }
def ElfAgainSaid : Prop := elfAgainRow.holds Try.pinned (OpenSpec.ofChange elfAgainSpec)

/-- ITS FALSE NEIGHBOUR: 'it returns false'. Refute it at one input. -/
def elfAgainWrong : ChangeSpec := { name := "elfAgain", fn := fun _ => fun
  | [d] => { results := [.lit (.bool false)], args := [d] }
  | _ => none }
def ElfAgainWrongFalsely : Prop := elfAgainRow.holds Try.pinned (OpenSpec.ofChange elfAgainWrong)

/-- 'whetstonelaw06.ElfCuts': WHATEVER THE INPUT: true; the input reads as it did. -/
def elfCutsSpec : ChangeSpec := { name := "elfCuts", fn := fun _ => fun
  | [d1, d2, d3] => { results := [.lit (.bool true)], args := [d1, d2, d3] }
  | _ => none }
def elfCutsRow : OpenClaim := { program := "ytlpoebobfdmcmaa", sum := "8a9ba6cf70d199862f7942aba2481e4ae83dfb1b7136d5d6112ef6af2b48c27c", func := "whetstone/whetstonelaw06.ElfCuts", spec := "elfCuts", unfollowed := true, recurses := true, apart := false }
def ElfCutsSaid : Prop := elfCutsRow.holds Try.pinned (OpenSpec.ofChange elfCutsSpec)

/-- ITS FALSE NEIGHBOUR: 'it returns false'. Refute it at one input. -/
def elfCutsWrong : ChangeSpec := { name := "elfCuts", fn := fun _ => fun
  | [d1, d2, d3] => { results := [.lit (.bool false)], args := [d1, d2, d3] }
  | _ => none }
def ElfCutsWrongFalsely : Prop := elfCutsRow.holds Try.pinned (OpenSpec.ofChange elfCutsWrong)

/-- 'whetstonelaw06.ElfOrder': WHATEVER THE INPUT: true; the input reads as it did. -/
def elfOrderSpec : ChangeSpec := { name := "elfOrder", fn := fun _ => fun
  | [d] => { results := [.lit (.bool true)], args := [d] }
  | _ => none }
def elfOrderRow : OpenClaim := { program := "ytlpoebobfdmcmaa", sum := "8a9ba6cf70d199862f7942aba2481e4ae83dfb1b7136d5d6112ef6af2b48c27c", func := "whetstone/whetstonelaw06.ElfOrder", spec := "elfOrder", unfollowed := true, recurses := true, apart := false }
def ElfOrderSaid : Prop := elfOrderRow.holds Try.pinned (OpenSpec.ofChange elfOrderSpec)

/-- ITS FALSE NEIGHBOUR: 'it returns false'. Refute it at one input. -/
def elfOrderWrong : ChangeSpec := { name := "elfOrder", fn := fun _ => fun
  | [d] => { results := [.lit (.bool false)], args := [d] }
  | _ => none }
def ElfOrderWrongFalsely : Prop := elfOrderRow.holds Try.pinned (OpenSpec.ofChange elfOrderWrong)

/-- 'whetstonelaw06.ElfNever': WHATEVER THE INPUT: true; the input reads as it did. -/
def elfNeverSpec : ChangeSpec := { name := "elfNever", fn := fun _ => fun
  | [d1, d2, d3] => { results := [.lit (.bool true)], args := [d1, d2, d3] }
  | _ => none }
def elfNeverRow : OpenClaim := { program := "ytlpoebobfdmcmaa", sum := "8a9ba6cf70d199862f7942aba2481e4ae83dfb1b7136d5d6112ef6af2b48c27c", func := "whetstone/whetstonelaw06.ElfNever", spec := "elfNever", unfollowed := true, recurses := true, apart := false }
def ElfNeverSaid : Prop := elfNeverRow.holds Try.pinned (OpenSpec.ofChange elfNeverSpec)

/-- ITS FALSE NEIGHBOUR: 'it returns false'. Refute it at one input. -/
def elfNeverWrong : ChangeSpec := { name := "elfNever", fn := fun _ => fun
  | [d1, d2, d3] => { results := [.lit (.bool false)], args := [d1, d2, d3] }
  | _ => none }
def ElfNeverWrongFalsely : Prop := elfNeverRow.holds Try.pinned (OpenSpec.ofChange elfNeverWrong)

/-- 'whetstonelaw06.ElfMeets': WHATEVER THE INPUT: true; the input reads as it did. -/
def elfMeetsSpec : ChangeSpec := { name := "elfMeets", fn := fun _ => fun
  | [d1, d2, d3] => { results := [.lit (.bool true)], args := [d1, d2, d3] }
  | _ => none }
def elfMeetsRow : OpenClaim := { program := "ytlpoebobfdmcmaa", sum := "8a9ba6cf70d199862f7942aba2481e4ae83dfb1b7136d5d6112ef6af2b48c27c", func := "whetstone/whetstonelaw06.ElfMeets", spec := "elfMeets", unfollowed := true, recurses := true, apart := false }
def ElfMeetsSaid : Prop := elfMeetsRow.holds Try.pinned (OpenSpec.ofChange elfMeetsSpec)

/-- ITS FALSE NEIGHBOUR: 'it returns false'. Refute it at one input. -/
def elfMeetsWrong : ChangeSpec := { name := "elfMeets", fn := fun _ => fun
  | [d1, d2, d3] => { results := [.lit (.bool false)], args := [d1, d2, d3] }
  | _ => none }
def ElfMeetsWrongFalsely : Prop := elfMeetsRow.holds Try.pinned (OpenSpec.ofChange elfMeetsWrong)

/- THE SECOND FORM. 'bulk': how many values and letters a reading holds, each counted each time it is reached (what is shared counts as often as it is met; a slice's spare places count too). A statement '..UptoSaid' is the law's where the arguments, and the package variables that the reading takes, are together of bulk at most 1048576: NARROWER than '..Said'. Prove '..Said' where nothing that the law and all that it calls make is longer than what came in: it says more and counts as full. Else prove '..UptoSaid'. A law counts once. -/
mutual
def uptoBulk {H : Type} : DataW H → Nat
  | .lit (.string bytes) => bytes.length + 1
  | .lit _ => 1
  | .nil => 1
  | .ptr d => uptoBulk d + 1
  | .slice elems spare => uptoBulkAll elems + uptoBulkAll spare + 1
  | .agg parts => uptoBulkAll parts + 1
  | .iface _ d => uptoBulk d + 1
  | .map entries => uptoBulkEntries entries + 1
  | .held _ => 1
def uptoBulkAll {H : Type} : List (DataW H) → Nat
  | [] => 0
  | d :: r => uptoBulk d + uptoBulkAll r
def uptoBulkEntries {H : Type} : List (Lit × DataW H) → Nat
  | [] => 0
  | x :: r => uptoBulkEntry x + uptoBulkEntries r
def uptoBulkEntry {H : Type} : Lit × DataW H → Nat
  | (.string bytes, d) => bytes.length + uptoBulk d + 1
  | (_, d) => uptoBulk d + 1
 end
def uptoSmall : (H : Type) → List (DataW H) → Bool := fun _ ds => decide (uptoBulkAll ds ≤ 1048576)
def OpenSpec.upto (s : _root_.Go.ChangeSpec) : _root_.Go.OpenSpec := { _root_.Go.OpenSpec.ofChange s with cond := some uptoSmall }

/-- 'whetstonelaw06.ElfChecks', WHERE WHAT IT READS IS OF BULK AT MOST 1048576: true; the input reads as it did. -/
def elfChecksUptoRow : OpenClaim := { program := "ytlpoebobfdmcmaa", sum := "8a9ba6cf70d199862f7942aba2481e4ae83dfb1b7136d5d6112ef6af2b48c27c", func := "whetstone/whetstonelaw06.ElfChecks", spec := "elfChecks", unfollowed := true, recurses := true, apart := false, narrowed := true }
def ElfChecksUptoSaid : Prop := elfChecksUptoRow.holds Try.pinned (OpenSpec.upto elfChecksSpec)

/-- 'whetstonelaw06.ElfBack', WHERE WHAT IT READS IS OF BULK AT MOST 1048576: true; the input reads as it did. -/
def elfBackUptoRow : OpenClaim := { program := "ytlpoebobfdmcmaa", sum := "8a9ba6cf70d199862f7942aba2481e4ae83dfb1b7136d5d6112ef6af2b48c27c", func := "whetstone/whetstonelaw06.ElfBack", spec := "elfBack", unfollowed := true, recurses := true, apart := false, narrowed := true }
def ElfBackUptoSaid : Prop := elfBackUptoRow.holds Try.pinned (OpenSpec.upto elfBackSpec)

/-- 'whetstonelaw06.ElfAgain', WHERE WHAT IT READS IS OF BULK AT MOST 1048576: true; the input reads as it did. -/
def elfAgainUptoRow : OpenClaim := { program := "ytlpoebobfdmcmaa", sum := "8a9ba6cf70d199862f7942aba2481e4ae83dfb1b7136d5d6112ef6af2b48c27c", func := "whetstone/whetstonelaw06.ElfAgain", spec := "elfAgain", unfollowed := true, recurses := true, apart := false, narrowed := true }
def ElfAgainUptoSaid : Prop := elfAgainUptoRow.holds Try.pinned (OpenSpec.upto elfAgainSpec)

/-- 'whetstonelaw06.ElfCuts', WHERE WHAT IT READS IS OF BULK AT MOST 1048576: true; the input reads as it did. -/
def elfCutsUptoRow : OpenClaim := { program := "ytlpoebobfdmcmaa", sum := "8a9ba6cf70d199862f7942aba2481e4ae83dfb1b7136d5d6112ef6af2b48c27c", func := "whetstone/whetstonelaw06.ElfCuts", spec := "elfCuts", unfollowed := true, recurses := true, apart := false, narrowed := true }
def ElfCutsUptoSaid : Prop := elfCutsUptoRow.holds Try.pinned (OpenSpec.upto elfCutsSpec)

/-- 'whetstonelaw06.ElfOrder', WHERE WHAT IT READS IS OF BULK AT MOST 1048576: true; the input reads as it did. -/
def elfOrderUptoRow : OpenClaim := { program := "ytlpoebobfdmcmaa", sum := "8a9ba6cf70d199862f7942aba2481e4ae83dfb1b7136d5d6112ef6af2b48c27c", func := "whetstone/whetstonelaw06.ElfOrder", spec := "elfOrder", unfollowed := true, recurses := true, apart := false, narrowed := true }
def ElfOrderUptoSaid : Prop := elfOrderUptoRow.holds Try.pinned (OpenSpec.upto elfOrderSpec)

/-- 'whetstonelaw06.ElfNever', WHERE WHAT IT READS IS OF BULK AT MOST 1048576: true; the input reads as it did. -/
def elfNeverUptoRow : OpenClaim := { program := "ytlpoebobfdmcmaa", sum := "8a9ba6cf70d199862f7942aba2481e4ae83dfb1b7136d5d6112ef6af2b48c27c", func := "whetstone/whetstonelaw06.ElfNever", spec := "elfNever", unfollowed := true, recurses := true, apart := false, narrowed := true }
def ElfNeverUptoSaid : Prop := elfNeverUptoRow.holds Try.pinned (OpenSpec.upto elfNeverSpec)

/-- 'whetstonelaw06.ElfMeets', WHERE WHAT IT READS IS OF BULK AT MOST 1048576: true; the input reads as it did. -/
def elfMeetsUptoRow : OpenClaim := { program := "ytlpoebobfdmcmaa", sum := "8a9ba6cf70d199862f7942aba2481e4ae83dfb1b7136d5d6112ef6af2b48c27c", func := "whetstone/whetstonelaw06.ElfMeets", spec := "elfMeets", unfollowed := true, recurses := true, apart := false, narrowed := true }
def ElfMeetsUptoSaid : Prop := elfMeetsUptoRow.holds Try.pinned (OpenSpec.upto elfMeetsSpec)

end Rows
end Go.Proofs.Ytlpoebobfdmcmaa
