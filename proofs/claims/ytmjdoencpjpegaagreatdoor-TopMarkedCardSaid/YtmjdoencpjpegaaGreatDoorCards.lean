/-
  DERIVED. GIVEN WITH THE SEED: THE CARDS: each row of YtmjdoencpjpegaaGreatDoorRows.lean that lists a variable, with what it lists TIED to the program's text (the seventh form; the later family's looks); each row that meets fmt, with fmt's text TOLD by the authors' own Lean function (tested against real Go, not proved from fmt's source: count such statements apart). THE CARD IS WHAT COUNTS. Prove the row's statement (the work); the ties are given (YtmjdoencpjpegaaGreatDoorTie.lean); close each card by the builder's one call (the guide's Derived/Test/ToyasCard.lean, 'card_holds'). Laid BY PROGRAM, IN A SANDBOX (cutbox-door.mjs). By AI agents, Wed Nov 11 2026. No macro, syntax, notation, axiom, sorry.
-/
import Derived.Test.YtmjdoencpjpegaaGreatDoorRows
import GoSem.ClaimSeven
namespace Go.Proofs.YtmjdoencpjpegaaGreatDoor
namespace Rows

/-- THE TIED CARD OF 'partbooktop.TopMarked'. -/
def topMarkedCard : Claim7 := { stood := { row := topMarkedRow, standIns := [], harness := (true, "7bb9ff6a9d08bd794118c31be9f3d9784b146f19d06390525c2026b84a2ccd81"), looks := false }, kinds := [], alts := [], laidByText := true, laidKinds := [.data], laidTests := true, laidLooks := .later }
def TopMarkedCardSaid : Prop := Claim7.holds Tryz.pinned (.plain (OpenSpec.ofChange topMarkedSpec)) topMarkedCard

/-- THE SECOND FORM's CARD OF 'partbooktop.TopMarked'. -/
def topMarkedUptoCard : Claim7 := { stood := { row := topMarkedUptoRow, standIns := [], harness := (true, "7bb9ff6a9d08bd794118c31be9f3d9784b146f19d06390525c2026b84a2ccd81"), looks := false }, kinds := [], alts := [], laidByText := true, laidKinds := [.data], laidTests := true, laidLooks := .later }
def TopMarkedUptoCardSaid : Prop := Claim7.holds Tryz.pinned (.plain (OpenSpec.upto topMarkedSpec)) topMarkedUptoCard
end Rows
end Go.Proofs.YtmjdoencpjpegaaGreatDoor
