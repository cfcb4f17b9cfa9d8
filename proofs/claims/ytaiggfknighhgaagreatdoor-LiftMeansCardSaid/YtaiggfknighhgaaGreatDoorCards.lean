/-
  DERIVED. GIVEN WITH THE SEED: THE CARDS: each row of YtaiggfknighhgaaGreatDoorRows.lean that lists a variable, with what it lists TIED to the program's text (the seventh form; the later family's looks); each row that meets fmt, with fmt's text TOLD by the authors' own Lean function (tested against real Go, not proved from fmt's source: count such statements apart). THE CARD IS WHAT COUNTS. Prove the row's statement (the work); the ties are given (YtaiggfknighhgaaGreatDoorTie.lean); close each card by the builder's one call (the guide's Derived/Test/ToyasCard.lean, 'card_holds'). Laid BY PROGRAM, IN A SANDBOX (cutbox-door.mjs). By AI agents, Wed Nov 11 2026. No macro, syntax, notation, axiom, sorry.
-/
import Derived.Test.YtaiggfknighhgaaGreatDoorRows
import GoSem.ClaimSeven
namespace Go.Proofs.YtaiggfknighhgaaGreatDoor
namespace Rows

/-- THE TIED CARD OF 'whetstonelaw12.LiftBlocks'. -/
def liftBlocksCard : Claim7 := { stood := { row := liftBlocksRow, standIns := [], harness := (true, "0d35ee909ae61ca2cbd57de122da1da3cd1bc7869e6bc752a03b0da04807bf61"), looks := true }, kinds := [], alts := [], laidByText := true, laidKinds := [.data], laidTests := true, laidLooks := .later }
def LiftBlocksCardSaid : Prop := Claim7.holds Tryz.pinned (.plain (OpenSpec.ofChange liftBlocksSpec)) liftBlocksCard

/-- THE TIED CARD OF 'whetstonelaw12.LiftFrom'. -/
def liftFromCard : Claim7 := { stood := { row := liftFromRow, standIns := [], harness := (true, "0d35ee909ae61ca2cbd57de122da1da3cd1bc7869e6bc752a03b0da04807bf61"), looks := true }, kinds := [], alts := [], laidByText := true, laidKinds := [.data], laidTests := true, laidLooks := .later }
def LiftFromCardSaid : Prop := Claim7.holds Tryz.pinned (.plain (OpenSpec.ofChange liftFromSpec)) liftFromCard

/-- THE TIED CARD OF 'whetstonelaw12.LiftMeans'. -/
def liftMeansCard : Claim7 := { stood := { row := liftMeansRow, standIns := [], harness := (true, "0d35ee909ae61ca2cbd57de122da1da3cd1bc7869e6bc752a03b0da04807bf61"), looks := true }, kinds := [], alts := [], laidByText := true, laidKinds := [.data], laidTests := true, laidLooks := .later }
def LiftMeansCardSaid : Prop := Claim7.holds Tryz.pinned (.plain (OpenSpec.ofChange liftMeansSpec)) liftMeansCard

/-- THE SECOND FORM's CARD OF 'whetstonelaw12.LiftBlocks'. -/
def liftBlocksUptoCard : Claim7 := { stood := { row := liftBlocksUptoRow, standIns := [], harness := (true, "0d35ee909ae61ca2cbd57de122da1da3cd1bc7869e6bc752a03b0da04807bf61"), looks := true }, kinds := [], alts := [], laidByText := true, laidKinds := [.data], laidTests := true, laidLooks := .later }
def LiftBlocksUptoCardSaid : Prop := Claim7.holds Tryz.pinned (.plain (OpenSpec.upto liftBlocksSpec)) liftBlocksUptoCard

/-- THE SECOND FORM's CARD OF 'whetstonelaw12.LiftFrom'. -/
def liftFromUptoCard : Claim7 := { stood := { row := liftFromUptoRow, standIns := [], harness := (true, "0d35ee909ae61ca2cbd57de122da1da3cd1bc7869e6bc752a03b0da04807bf61"), looks := true }, kinds := [], alts := [], laidByText := true, laidKinds := [.data], laidTests := true, laidLooks := .later }
def LiftFromUptoCardSaid : Prop := Claim7.holds Tryz.pinned (.plain (OpenSpec.upto liftFromSpec)) liftFromUptoCard

/-- THE SECOND FORM's CARD OF 'whetstonelaw12.LiftMeans'. -/
def liftMeansUptoCard : Claim7 := { stood := { row := liftMeansUptoRow, standIns := [], harness := (true, "0d35ee909ae61ca2cbd57de122da1da3cd1bc7869e6bc752a03b0da04807bf61"), looks := true }, kinds := [], alts := [], laidByText := true, laidKinds := [.data], laidTests := true, laidLooks := .later }
def LiftMeansUptoCardSaid : Prop := Claim7.holds Tryz.pinned (.plain (OpenSpec.upto liftMeansSpec)) liftMeansUptoCard
end Rows
end Go.Proofs.YtaiggfknighhgaaGreatDoor
