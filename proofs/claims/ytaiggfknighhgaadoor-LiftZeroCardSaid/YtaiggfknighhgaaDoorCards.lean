/-
  DERIVED. GIVEN WITH THE SEED: THE CARDS: each row of YtaiggfknighhgaaDoorRows.lean that lists a variable, with what it lists TIED to the program's text (the seventh form; the later family's looks); each row that meets fmt, with fmt's text TOLD by the authors' own Lean function (tested against real Go, not proved from fmt's source: count such statements apart). THE CARD IS WHAT COUNTS. Prove the row's statement (the work); the ties are given (YtaiggfknighhgaaDoorTie.lean); close each card by the builder's one call (the guide's Derived/Test/ToyasCard.lean, 'card_holds'). Laid BY PROGRAM, IN A SANDBOX (cutbox-door.mjs). By AI agents, Wed Nov 11 2026. No macro, syntax, notation, axiom, sorry.
-/
import Derived.Test.YtaiggfknighhgaaDoorRows
import GoSem.ClaimSeven
namespace Go.Proofs.YtaiggfknighhgaaDoor
namespace Rows

/-- THE TIED CARD OF 'whetstonelaw12.LiftParts'. -/
def liftPartsCard : Claim7 := { stood := { row := liftPartsRow, standIns := [], harness := (true, "92c4a26182be79cab05c9ea23f89d7df457096698f3c96608c08b8df282b6f87"), looks := false }, kinds := [], alts := [], laidByText := true, laidKinds := [.data], laidTests := true, laidLooks := .later }
def LiftPartsCardSaid : Prop := Claim7.holds Tryd.pinned (.plain (OpenSpec.ofChange liftPartsSpec)) liftPartsCard

/-- THE TIED CARD OF 'whetstonelaw12.LiftPlace'. -/
def liftPlaceCard : Claim7 := { stood := { row := liftPlaceRow, standIns := [], harness := (true, "92c4a26182be79cab05c9ea23f89d7df457096698f3c96608c08b8df282b6f87"), looks := false }, kinds := [], alts := [], laidByText := true, laidKinds := [.data], laidTests := true, laidLooks := .later }
def LiftPlaceCardSaid : Prop := Claim7.holds Tryd.pinned (.plain (OpenSpec.ofChange liftPlaceSpec)) liftPlaceCard

/-- THE TIED CARD OF 'whetstonelaw12.LiftOne'. -/
def liftOneCard : Claim7 := { stood := { row := liftOneRow, standIns := [], harness := (true, "92c4a26182be79cab05c9ea23f89d7df457096698f3c96608c08b8df282b6f87"), looks := false }, kinds := [], alts := [], laidByText := true, laidKinds := [.data], laidTests := true, laidLooks := .later }
def LiftOneCardSaid : Prop := Claim7.holds Tryd.pinned (.plain (OpenSpec.ofChange liftOneSpec)) liftOneCard

/-- THE TIED CARD OF 'whetstonelaw12.LiftZero'. -/
def liftZeroCard : Claim7 := { stood := { row := liftZeroRow, standIns := [], harness := (true, "92c4a26182be79cab05c9ea23f89d7df457096698f3c96608c08b8df282b6f87"), looks := false }, kinds := [], alts := [], laidByText := true, laidKinds := [.data], laidTests := true, laidLooks := .later }
def LiftZeroCardSaid : Prop := Claim7.holds Tryd.pinned (.plain (OpenSpec.ofChange liftZeroSpec)) liftZeroCard

/-- THE SECOND FORM's CARD OF 'whetstonelaw12.LiftParts'. -/
def liftPartsUptoCard : Claim7 := { stood := { row := liftPartsUptoRow, standIns := [], harness := (true, "92c4a26182be79cab05c9ea23f89d7df457096698f3c96608c08b8df282b6f87"), looks := false }, kinds := [], alts := [], laidByText := true, laidKinds := [.data], laidTests := true, laidLooks := .later }
def LiftPartsUptoCardSaid : Prop := Claim7.holds Tryd.pinned (.plain (OpenSpec.upto liftPartsSpec)) liftPartsUptoCard

/-- THE SECOND FORM's CARD OF 'whetstonelaw12.LiftPlace'. -/
def liftPlaceUptoCard : Claim7 := { stood := { row := liftPlaceUptoRow, standIns := [], harness := (true, "92c4a26182be79cab05c9ea23f89d7df457096698f3c96608c08b8df282b6f87"), looks := false }, kinds := [], alts := [], laidByText := true, laidKinds := [.data], laidTests := true, laidLooks := .later }
def LiftPlaceUptoCardSaid : Prop := Claim7.holds Tryd.pinned (.plain (OpenSpec.upto liftPlaceSpec)) liftPlaceUptoCard

/-- THE SECOND FORM's CARD OF 'whetstonelaw12.LiftOne'. -/
def liftOneUptoCard : Claim7 := { stood := { row := liftOneUptoRow, standIns := [], harness := (true, "92c4a26182be79cab05c9ea23f89d7df457096698f3c96608c08b8df282b6f87"), looks := false }, kinds := [], alts := [], laidByText := true, laidKinds := [.data], laidTests := true, laidLooks := .later }
def LiftOneUptoCardSaid : Prop := Claim7.holds Tryd.pinned (.plain (OpenSpec.upto liftOneSpec)) liftOneUptoCard

/-- THE SECOND FORM's CARD OF 'whetstonelaw12.LiftZero'. -/
def liftZeroUptoCard : Claim7 := { stood := { row := liftZeroUptoRow, standIns := [], harness := (true, "92c4a26182be79cab05c9ea23f89d7df457096698f3c96608c08b8df282b6f87"), looks := false }, kinds := [], alts := [], laidByText := true, laidKinds := [.data], laidTests := true, laidLooks := .later }
def LiftZeroUptoCardSaid : Prop := Claim7.holds Tryd.pinned (.plain (OpenSpec.upto liftZeroSpec)) liftZeroUptoCard
end Rows
end Go.Proofs.YtaiggfknighhgaaDoor
