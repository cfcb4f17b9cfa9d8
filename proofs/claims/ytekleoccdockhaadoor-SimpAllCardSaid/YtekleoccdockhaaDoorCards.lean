/-
  DERIVED. GIVEN WITH THE SEED: THE CARDS: each row of YtekleoccdockhaaDoorRows.lean that lists a variable, with what it lists TIED to the program's text (the seventh form; the later family's looks); each row that meets fmt, with fmt's text TOLD by the authors' own Lean function (tested against real Go, not proved from fmt's source: count such statements apart). THE CARD IS WHAT COUNTS. Prove the row's statement (the work); the ties are given (YtekleoccdockhaaDoorTie.lean); close each card by the builder's one call (the guide's Derived/Test/ToyasCard.lean, 'card_holds'). Laid BY PROGRAM, IN A SANDBOX (cutbox-door.mjs). By AI agents, Wed Nov 11 2026. No macro, syntax, notation, axiom, sorry.
-/
import Derived.Test.YtekleoccdockhaaDoorRows
import GoSem.ClaimSeven
namespace Go.Proofs.YtekleoccdockhaaDoor
namespace Rows

/-- THE TIED CARD OF 'whetstonelaw11.SimpShifts'. -/
def simpShiftsCard : Claim7 := { stood := { row := simpShiftsRow, standIns := [], harness := (true, "85586ef3f3dc94d9605b4153d2df47260daf7b46271ef57253a78f6b1accec72"), looks := true }, kinds := [], alts := [], laidByText := true, laidKinds := [.data], laidTests := true, laidLooks := .later }
def SimpShiftsCardSaid : Prop := Claim7.holds Tryd.pinned (.plain (OpenSpec.ofChange simpShiftsSpec)) simpShiftsCard

/-- THE TIED CARD OF 'whetstonelaw11.SimpWords'. -/
def simpWordsCard : Claim7 := { stood := { row := simpWordsRow, standIns := [], harness := (true, "85586ef3f3dc94d9605b4153d2df47260daf7b46271ef57253a78f6b1accec72"), looks := true }, kinds := [], alts := [], laidByText := true, laidKinds := [.data], laidTests := true, laidLooks := .later }
def SimpWordsCardSaid : Prop := Claim7.holds Tryd.pinned (.plain (OpenSpec.ofChange simpWordsSpec)) simpWordsCard

/-- THE TIED CARD OF 'whetstonelaw11.SimpOps'. -/
def simpOpsCard : Claim7 := { stood := { row := simpOpsRow, standIns := [], harness := (true, "85586ef3f3dc94d9605b4153d2df47260daf7b46271ef57253a78f6b1accec72"), looks := true }, kinds := [], alts := [], laidByText := true, laidKinds := [.data], laidTests := true, laidLooks := .later }
def SimpOpsCardSaid : Prop := Claim7.holds Tryd.pinned (.plain (OpenSpec.ofChange simpOpsSpec)) simpOpsCard

/-- THE TIED CARD OF 'whetstonelaw11.SimpTurns'. -/
def simpTurnsCard : Claim7 := { stood := { row := simpTurnsRow, standIns := [], harness := (true, "85586ef3f3dc94d9605b4153d2df47260daf7b46271ef57253a78f6b1accec72"), looks := true }, kinds := [], alts := [], laidByText := true, laidKinds := [.data], laidTests := true, laidLooks := .later }
def SimpTurnsCardSaid : Prop := Claim7.holds Tryd.pinned (.plain (OpenSpec.ofChange simpTurnsSpec)) simpTurnsCard

/-- THE TIED CARD OF 'whetstonelaw11.SimpAll'. -/
def simpAllCard : Claim7 := { stood := { row := simpAllRow, standIns := [], harness := (true, "85586ef3f3dc94d9605b4153d2df47260daf7b46271ef57253a78f6b1accec72"), looks := true }, kinds := [], alts := [], laidByText := true, laidKinds := [.data], laidTests := true, laidLooks := .later }
def SimpAllCardSaid : Prop := Claim7.holds Tryd.pinned (.plain (OpenSpec.ofChange simpAllSpec)) simpAllCard

/-- THE TIED CARD OF 'whetstonelaw11.SimpStays'. -/
def simpStaysCard : Claim7 := { stood := { row := simpStaysRow, standIns := [], harness := (true, "85586ef3f3dc94d9605b4153d2df47260daf7b46271ef57253a78f6b1accec72"), looks := true }, kinds := [], alts := [], laidByText := true, laidKinds := [.data], laidTests := true, laidLooks := .later }
def SimpStaysCardSaid : Prop := Claim7.holds Tryd.pinned (.plain (OpenSpec.ofChange simpStaysSpec)) simpStaysCard

/-- THE SECOND FORM's CARD OF 'whetstonelaw11.SimpShifts'. -/
def simpShiftsUptoCard : Claim7 := { stood := { row := simpShiftsUptoRow, standIns := [], harness := (true, "85586ef3f3dc94d9605b4153d2df47260daf7b46271ef57253a78f6b1accec72"), looks := true }, kinds := [], alts := [], laidByText := true, laidKinds := [.data], laidTests := true, laidLooks := .later }
def SimpShiftsUptoCardSaid : Prop := Claim7.holds Tryd.pinned (.plain (OpenSpec.upto simpShiftsSpec)) simpShiftsUptoCard

/-- THE SECOND FORM's CARD OF 'whetstonelaw11.SimpWords'. -/
def simpWordsUptoCard : Claim7 := { stood := { row := simpWordsUptoRow, standIns := [], harness := (true, "85586ef3f3dc94d9605b4153d2df47260daf7b46271ef57253a78f6b1accec72"), looks := true }, kinds := [], alts := [], laidByText := true, laidKinds := [.data], laidTests := true, laidLooks := .later }
def SimpWordsUptoCardSaid : Prop := Claim7.holds Tryd.pinned (.plain (OpenSpec.upto simpWordsSpec)) simpWordsUptoCard

/-- THE SECOND FORM's CARD OF 'whetstonelaw11.SimpOps'. -/
def simpOpsUptoCard : Claim7 := { stood := { row := simpOpsUptoRow, standIns := [], harness := (true, "85586ef3f3dc94d9605b4153d2df47260daf7b46271ef57253a78f6b1accec72"), looks := true }, kinds := [], alts := [], laidByText := true, laidKinds := [.data], laidTests := true, laidLooks := .later }
def SimpOpsUptoCardSaid : Prop := Claim7.holds Tryd.pinned (.plain (OpenSpec.upto simpOpsSpec)) simpOpsUptoCard

/-- THE SECOND FORM's CARD OF 'whetstonelaw11.SimpTurns'. -/
def simpTurnsUptoCard : Claim7 := { stood := { row := simpTurnsUptoRow, standIns := [], harness := (true, "85586ef3f3dc94d9605b4153d2df47260daf7b46271ef57253a78f6b1accec72"), looks := true }, kinds := [], alts := [], laidByText := true, laidKinds := [.data], laidTests := true, laidLooks := .later }
def SimpTurnsUptoCardSaid : Prop := Claim7.holds Tryd.pinned (.plain (OpenSpec.upto simpTurnsSpec)) simpTurnsUptoCard

/-- THE SECOND FORM's CARD OF 'whetstonelaw11.SimpAll'. -/
def simpAllUptoCard : Claim7 := { stood := { row := simpAllUptoRow, standIns := [], harness := (true, "85586ef3f3dc94d9605b4153d2df47260daf7b46271ef57253a78f6b1accec72"), looks := true }, kinds := [], alts := [], laidByText := true, laidKinds := [.data], laidTests := true, laidLooks := .later }
def SimpAllUptoCardSaid : Prop := Claim7.holds Tryd.pinned (.plain (OpenSpec.upto simpAllSpec)) simpAllUptoCard

/-- THE SECOND FORM's CARD OF 'whetstonelaw11.SimpStays'. -/
def simpStaysUptoCard : Claim7 := { stood := { row := simpStaysUptoRow, standIns := [], harness := (true, "85586ef3f3dc94d9605b4153d2df47260daf7b46271ef57253a78f6b1accec72"), looks := true }, kinds := [], alts := [], laidByText := true, laidKinds := [.data], laidTests := true, laidLooks := .later }
def SimpStaysUptoCardSaid : Prop := Claim7.holds Tryd.pinned (.plain (OpenSpec.upto simpStaysSpec)) simpStaysUptoCard
end Rows
end Go.Proofs.YtekleoccdockhaaDoor
