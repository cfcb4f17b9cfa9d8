/-
  No cell of these rows narrows 'for every input' (looked for: loops, veiled, ifaces, maps, wideKeys, modest, calm, conditions, laid).
  DERIVED. THE GIVEN ROWS OF THIS SEAT. 7 by the template 'for every input the law returns true; each argument reads behind the call as it read before'; 0 by the template 'total and deterministic' (their statements: YtpafgieijplehaaTotals.lean).
  GIVEN WITH THE SEED: the statements are not yours to turn. If you find one false, say at which input.
  Laid BY PROGRAM, IN A SANDBOX (cutbox-rows.mjs): the forced cells as the released guide's own fill.sh prints them over the translation 6cb870078cff8ecc… (all of the seat's roots in one cut). By AI agents, Wed Nov 11 2026. No macro, syntax, notation, axiom, sorry.
-/
import Derived.Test.YtpafgieijplehaaChecked
import GoSem.Claim
import GoSem.ClaimJoined
import GoSem.ClaimMapViews
import Derived.JoinedTies
import Derived.KernelRfl
namespace Go.Proofs.Ytpafgieijplehaa
/- THE CELL 'sum', in the pinned program and in every row, IS THE sha256 OF THE DUMP (.gsa) THAT YtpafgieijplehaaProg.lean LOADS. Nothing in Lean hashes anything: it is a label: what it is worth is what the hold of that sum in a sandbox is worth. -/
noncomputable def Try.pinned : Pinned := { name := "ytpafgieijplehaa", sum := "6cb870078cff8ecc51d44b3e2fc005c98511fedb85259eb195c024e87c900f6b", checked := Try.checked }
namespace Rows
def none {H : Type} : Left H := { results := [], args := [] }

/-- 'whetstonelaw16.RupFollows': WHATEVER THE INPUT: true; the input reads as it did. -/
def rupFollowsSpec : ChangeSpec := { name := "rupFollows", fn := fun _ => fun
  | [d1, d2] => { results := [.lit (.bool true)], args := [d1, d2] }
  | _ => none }
def rupFollowsRow : OpenClaim := { program := "ytpafgieijplehaa", sum := "6cb870078cff8ecc51d44b3e2fc005c98511fedb85259eb195c024e87c900f6b", func := "whetstone/whetstonelaw16.RupFollows", spec := "rupFollows", apart := false }
def RupFollowsSaid : Prop := rupFollowsRow.holds Try.pinned (OpenSpec.ofChange rupFollowsSpec)

/-- ITS FALSE NEIGHBOUR: 'it returns false'. Refute it at one input. -/
def rupFollowsWrong : ChangeSpec := { name := "rupFollows", fn := fun _ => fun
  | [d1, d2] => { results := [.lit (.bool false)], args := [d1, d2] }
  | _ => none }
def RupFollowsWrongFalsely : Prop := rupFollowsRow.holds Try.pinned (OpenSpec.ofChange rupFollowsWrong)

/-- 'whetstonelaw16.RupChecks': WHATEVER THE INPUT: true; the input reads as it did. -/
def rupChecksSpec : ChangeSpec := { name := "rupChecks", fn := fun _ => fun
  | [d1, d2] => { results := [.lit (.bool true)], args := [d1, d2] }
  | _ => none }
def rupChecksRow : OpenClaim := { program := "ytpafgieijplehaa", sum := "6cb870078cff8ecc51d44b3e2fc005c98511fedb85259eb195c024e87c900f6b", func := "whetstone/whetstonelaw16.RupChecks", spec := "rupChecks", apart := false }
def RupChecksSaid : Prop := rupChecksRow.holds Try.pinned (OpenSpec.ofChange rupChecksSpec)

/-- ITS FALSE NEIGHBOUR: 'it returns false'. Refute it at one input. -/
def rupChecksWrong : ChangeSpec := { name := "rupChecks", fn := fun _ => fun
  | [d1, d2] => { results := [.lit (.bool false)], args := [d1, d2] }
  | _ => none }
def RupChecksWrongFalsely : Prop := rupChecksRow.holds Try.pinned (OpenSpec.ofChange rupChecksWrong)

/-- 'whetstonelaw16.RupSound': WHATEVER THE INPUT: true; the input reads as it did. -/
def rupSoundSpec : ChangeSpec := { name := "rupSound", fn := fun _ => fun
  | [d1, d2, d3] => { results := [.lit (.bool true)], args := [d1, d2, d3] }
  | _ => none }
def rupSoundRow : OpenClaim := { program := "ytpafgieijplehaa", sum := "6cb870078cff8ecc51d44b3e2fc005c98511fedb85259eb195c024e87c900f6b", func := "whetstone/whetstonelaw16.RupSound", spec := "rupSound", apart := false }
def RupSoundSaid : Prop := rupSoundRow.holds Try.pinned (OpenSpec.ofChange rupSoundSpec)

/-- ITS FALSE NEIGHBOUR: 'it returns false'. Refute it at one input. -/
def rupSoundWrong : ChangeSpec := { name := "rupSound", fn := fun _ => fun
  | [d1, d2, d3] => { results := [.lit (.bool false)], args := [d1, d2, d3] }
  | _ => none }
def RupSoundWrongFalsely : Prop := rupSoundRow.holds Try.pinned (OpenSpec.ofChange rupSoundWrong)

/-- 'whetstonelaw16.RupMore': WHATEVER THE INPUT: true; the input reads as it did. -/
def rupMoreSpec : ChangeSpec := { name := "rupMore", fn := fun _ => fun
  | [d1, d2, d3] => { results := [.lit (.bool true)], args := [d1, d2, d3] }
  | _ => none }
def rupMoreRow : OpenClaim := { program := "ytpafgieijplehaa", sum := "6cb870078cff8ecc51d44b3e2fc005c98511fedb85259eb195c024e87c900f6b", func := "whetstone/whetstonelaw16.RupMore", spec := "rupMore", apart := false }
def RupMoreSaid : Prop := rupMoreRow.holds Try.pinned (OpenSpec.ofChange rupMoreSpec)

/-- ITS FALSE NEIGHBOUR: 'it returns false'. Refute it at one input. -/
def rupMoreWrong : ChangeSpec := { name := "rupMore", fn := fun _ => fun
  | [d1, d2, d3] => { results := [.lit (.bool false)], args := [d1, d2, d3] }
  | _ => none }
def RupMoreWrongFalsely : Prop := rupMoreRow.holds Try.pinned (OpenSpec.ofChange rupMoreWrong)

/-- 'whetstonelaw16.RupUnits': WHATEVER THE INPUT: true; the input reads as it did. -/
def rupUnitsSpec : ChangeSpec := { name := "rupUnits", fn := fun _ => fun
  | [d1, d2] => { results := [.lit (.bool true)], args := [d1, d2] }
  | _ => none }
def rupUnitsRow : OpenClaim := { program := "ytpafgieijplehaa", sum := "6cb870078cff8ecc51d44b3e2fc005c98511fedb85259eb195c024e87c900f6b", func := "whetstone/whetstonelaw16.RupUnits", spec := "rupUnits", apart := false }
def RupUnitsSaid : Prop := rupUnitsRow.holds Try.pinned (OpenSpec.ofChange rupUnitsSpec)

/-- ITS FALSE NEIGHBOUR: 'it returns false'. Refute it at one input. -/
def rupUnitsWrong : ChangeSpec := { name := "rupUnits", fn := fun _ => fun
  | [d1, d2] => { results := [.lit (.bool false)], args := [d1, d2] }
  | _ => none }
def RupUnitsWrongFalsely : Prop := rupUnitsRow.holds Try.pinned (OpenSpec.ofChange rupUnitsWrong)

/-- 'whetstonelaw16.RupFirst': WHATEVER THE INPUT: true; the input reads as it did. -/
def rupFirstSpec : ChangeSpec := { name := "rupFirst", fn := fun _ => fun
  | [d1, d2, d3] => { results := [.lit (.bool true)], args := [d1, d2, d3] }
  | _ => none }
def rupFirstRow : OpenClaim := { program := "ytpafgieijplehaa", sum := "6cb870078cff8ecc51d44b3e2fc005c98511fedb85259eb195c024e87c900f6b", func := "whetstone/whetstonelaw16.RupFirst", spec := "rupFirst", apart := false }
def RupFirstSaid : Prop := rupFirstRow.holds Try.pinned (OpenSpec.ofChange rupFirstSpec)

/-- ITS FALSE NEIGHBOUR: 'it returns false'. Refute it at one input. -/
def rupFirstWrong : ChangeSpec := { name := "rupFirst", fn := fun _ => fun
  | [d1, d2, d3] => { results := [.lit (.bool false)], args := [d1, d2, d3] }
  | _ => none }
def RupFirstWrongFalsely : Prop := rupFirstRow.holds Try.pinned (OpenSpec.ofChange rupFirstWrong)

/-- 'whetstonelaw16.RupOrder': WHATEVER THE INPUT: true; the input reads as it did. -/
def rupOrderSpec : ChangeSpec := { name := "rupOrder", fn := fun _ => fun
  | [d1, d2] => { results := [.lit (.bool true)], args := [d1, d2] }
  | _ => none }
def rupOrderRow : OpenClaim := { program := "ytpafgieijplehaa", sum := "6cb870078cff8ecc51d44b3e2fc005c98511fedb85259eb195c024e87c900f6b", func := "whetstone/whetstonelaw16.RupOrder", spec := "rupOrder", apart := false }
def RupOrderSaid : Prop := rupOrderRow.holds Try.pinned (OpenSpec.ofChange rupOrderSpec)

/-- ITS FALSE NEIGHBOUR: 'it returns false'. Refute it at one input. -/
def rupOrderWrong : ChangeSpec := { name := "rupOrder", fn := fun _ => fun
  | [d1, d2] => { results := [.lit (.bool false)], args := [d1, d2] }
  | _ => none }
def RupOrderWrongFalsely : Prop := rupOrderRow.holds Try.pinned (OpenSpec.ofChange rupOrderWrong)

/- THE SECOND FORM. 'bulk': how many values and letters a reading holds, each counted each time it is reached (what is shared counts as often as it is met; a slice's spare places count too). A statement '..UptoSaid' is the law's where the arguments, and the package variables that the reading takes, are together of bulk at most 1048576: NARROWER than '..Said'. Prove '..Said' where nothing that the law and all that it calls make is longer than what came in: it says more and counts as full. Else prove '..UptoSaid'. A law counts once. -/
mutual
def uptoBulk {H : Type} : DataW H → Nat
  | .lit (.string bytes) => bytes.length + 1
  | .lit _ => 1
  | .nil => 1
  | .ptr d => uptoBulk d + 1
  | .slice elems spare => uptoBulkAll elems + uptoBulkAll spare + 1
  | .agg parts => uptoBulkAll parts + 1
  | .iface _ d => uptoBulk d + 1
  | .map entries => uptoBulkEntries entries + 1
  | .held _ => 1
def uptoBulkAll {H : Type} : List (DataW H) → Nat
  | [] => 0
  | d :: r => uptoBulk d + uptoBulkAll r
def uptoBulkEntries {H : Type} : List (Lit × DataW H) → Nat
  | [] => 0
  | x :: r => uptoBulkEntry x + uptoBulkEntries r
def uptoBulkEntry {H : Type} : Lit × DataW H → Nat
  | (.string bytes, d) => bytes.length + uptoBulk d + 1
  | (_, d) => uptoBulk d + 1
 end
def uptoSmall : (H : Type) → List (DataW H) → Bool := fun _ ds => decide (uptoBulkAll ds ≤ 1048576)
def OpenSpec.upto (s : _root_.Go.ChangeSpec) : _root_.Go.OpenSpec := { _root_.Go.OpenSpec.ofChange s with cond := some uptoSmall }

/-- 'whetstonelaw16.RupFollows', WHERE WHAT IT READS IS OF BULK AT MOST 1048576: true; the input reads as it did. -/
def rupFollowsUptoRow : OpenClaim := { program := "ytpafgieijplehaa", sum := "6cb870078cff8ecc51d44b3e2fc005c98511fedb85259eb195c024e87c900f6b", func := "whetstone/whetstonelaw16.RupFollows", spec := "rupFollows", apart := false, narrowed := true }
def RupFollowsUptoSaid : Prop := rupFollowsUptoRow.holds Try.pinned (OpenSpec.upto rupFollowsSpec)

/-- 'whetstonelaw16.RupChecks', WHERE WHAT IT READS IS OF BULK AT MOST 1048576: true; the input reads as it did. -/
def rupChecksUptoRow : OpenClaim := { program := "ytpafgieijplehaa", sum := "6cb870078cff8ecc51d44b3e2fc005c98511fedb85259eb195c024e87c900f6b", func := "whetstone/whetstonelaw16.RupChecks", spec := "rupChecks", apart := false, narrowed := true }
def RupChecksUptoSaid : Prop := rupChecksUptoRow.holds Try.pinned (OpenSpec.upto rupChecksSpec)

/-- 'whetstonelaw16.RupSound', WHERE WHAT IT READS IS OF BULK AT MOST 1048576: true; the input reads as it did. -/
def rupSoundUptoRow : OpenClaim := { program := "ytpafgieijplehaa", sum := "6cb870078cff8ecc51d44b3e2fc005c98511fedb85259eb195c024e87c900f6b", func := "whetstone/whetstonelaw16.RupSound", spec := "rupSound", apart := false, narrowed := true }
def RupSoundUptoSaid : Prop := rupSoundUptoRow.holds Try.pinned (OpenSpec.upto rupSoundSpec)

/-- 'whetstonelaw16.RupMore', WHERE WHAT IT READS IS OF BULK AT MOST 1048576: true; the input reads as it did. -/
def rupMoreUptoRow : OpenClaim := { program := "ytpafgieijplehaa", sum := "6cb870078cff8ecc51d44b3e2fc005c98511fedb85259eb195c024e87c900f6b", func := "whetstone/whetstonelaw16.RupMore", spec := "rupMore", apart := false, narrowed := true }
def RupMoreUptoSaid : Prop := rupMoreUptoRow.holds Try.pinned (OpenSpec.upto rupMoreSpec)

/-- 'whetstonelaw16.RupUnits', WHERE WHAT IT READS IS OF BULK AT MOST 1048576: true; the input reads as it did. -/
def rupUnitsUptoRow : OpenClaim := { program := "ytpafgieijplehaa", sum := "6cb870078cff8ecc51d44b3e2fc005c98511fedb85259eb195c024e87c900f6b", func := "whetstone/whetstonelaw16.RupUnits", spec := "rupUnits", apart := false, narrowed := true }
def RupUnitsUptoSaid : Prop := rupUnitsUptoRow.holds Try.pinned (OpenSpec.upto rupUnitsSpec)

/-- 'whetstonelaw16.RupFirst', WHERE WHAT IT READS IS OF BULK AT MOST 1048576: true; the input reads as it did. -/
def rupFirstUptoRow : OpenClaim := { program := "ytpafgieijplehaa", sum := "6cb870078cff8ecc51d44b3e2fc005c98511fedb85259eb195c024e87c900f6b", func := "whetstone/whetstonelaw16.RupFirst", spec := "rupFirst", apart := false, narrowed := true }
def RupFirstUptoSaid : Prop := rupFirstUptoRow.holds Try.pinned (OpenSpec.upto rupFirstSpec)

/-- 'whetstonelaw16.RupOrder', WHERE WHAT IT READS IS OF BULK AT MOST 1048576: true; the input reads as it did. -/
def rupOrderUptoRow : OpenClaim := { program := "ytpafgieijplehaa", sum := "6cb870078cff8ecc51d44b3e2fc005c98511fedb85259eb195c024e87c900f6b", func := "whetstone/whetstonelaw16.RupOrder", spec := "rupOrder", apart := false, narrowed := true }
def RupOrderUptoSaid : Prop := rupOrderUptoRow.holds Try.pinned (OpenSpec.upto rupOrderSpec)

end Rows
end Go.Proofs.Ytpafgieijplehaa
