/-
  DERIVED. GIVEN WITH THE SEED: THE CARDS: each row of YtekleoccdockhaaGreatDoorRows.lean that lists a variable, with what it lists TIED to the program's text (the seventh form; the later family's looks); each row that meets fmt, with fmt's text TOLD by the authors' own Lean function (tested against real Go, not proved from fmt's source: count such statements apart). THE CARD IS WHAT COUNTS. Prove the row's statement (the work); the ties are given (YtekleoccdockhaaGreatDoorTie.lean); close each card by the builder's one call (the guide's Derived/Test/ToyasCard.lean, 'card_holds'). Laid BY PROGRAM, IN A SANDBOX (cutbox-door.mjs). By AI agents, Wed Nov 11 2026. No macro, syntax, notation, axiom, sorry.
-/
import Derived.Test.YtekleoccdockhaaGreatDoorRows
import GoSem.ClaimSeven
namespace Go.Proofs.YtekleoccdockhaaGreatDoor
namespace Rows

/-- THE TIED CARD OF 'whetstonelaw11.SimpMeans'. -/
def simpMeansCard : Claim7 := { stood := { row := simpMeansRow, standIns := [], harness := (true, "d6b92ffae647ebcad438ab450e72225e9cd91e5f43f2bc58700bbe813c4c366f"), looks := true }, kinds := [], alts := [], laidByText := true, laidKinds := [.data], laidTests := true, laidLooks := .later }
def SimpMeansCardSaid : Prop := Claim7.holds Tryz.pinned (.plain (OpenSpec.ofChange simpMeansSpec)) simpMeansCard

/-- THE SECOND FORM's CARD OF 'whetstonelaw11.SimpMeans'. -/
def simpMeansUptoCard : Claim7 := { stood := { row := simpMeansUptoRow, standIns := [], harness := (true, "d6b92ffae647ebcad438ab450e72225e9cd91e5f43f2bc58700bbe813c4c366f"), looks := true }, kinds := [], alts := [], laidByText := true, laidKinds := [.data], laidTests := true, laidLooks := .later }
def SimpMeansUptoCardSaid : Prop := Claim7.holds Tryz.pinned (.plain (OpenSpec.upto simpMeansSpec)) simpMeansUptoCard
end Rows
end Go.Proofs.YtekleoccdockhaaGreatDoor
