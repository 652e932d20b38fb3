/-
  DERIVED. GIVEN WITH THE SEED: THE CARDS: each row of YthiaimakjmhegaaGreatDoorRows.lean that lists a variable, with what it lists TIED to the program's text (the seventh form; the later family's looks); each row that meets fmt, with fmt's text TOLD by the authors' own Lean function (tested against real Go, not proved from fmt's source: count such statements apart). THE CARD IS WHAT COUNTS. Prove the row's statement (the work); the ties are given (YthiaimakjmhegaaGreatDoorTie.lean); close each card by the builder's one call (the guide's Derived/Test/ToyasCard.lean, 'card_holds'). Laid BY PROGRAM, IN A SANDBOX (cutbox-door.mjs). By AI agents, Wed Nov 11 2026. No macro, syntax, notation, axiom, sorry.
-/
import Derived.Test.YthiaimakjmhegaaGreatDoorRows
import GoSem.ClaimSeven
namespace Go.Proofs.YthiaimakjmhegaaGreatDoor
namespace Rows

/-- THE TIED CARD OF 'partbooktop.TopCalled'. -/
def topCalledCard : Claim7 := { stood := { row := topCalledRow, standIns := [], harness := (true, "5e880d8a09ecb69702c2c7beb74b43c376d725898993e58bcde1f160a54b66fb"), looks := true }, kinds := [], alts := [], laidByText := true, laidKinds := [.handle, .data], laidTests := true, laidLooks := .later }
def TopCalledCardSaid : Prop := Claim7.holds Tryz.pinned (.plain (OpenSpec.ofChange topCalledSpec)) topCalledCard

/-- THE SECOND FORM's CARD OF 'partbooktop.TopCalled'. -/
def topCalledUptoCard : Claim7 := { stood := { row := topCalledUptoRow, standIns := [], harness := (true, "5e880d8a09ecb69702c2c7beb74b43c376d725898993e58bcde1f160a54b66fb"), looks := true }, kinds := [], alts := [], laidByText := true, laidKinds := [.handle, .data], laidTests := true, laidLooks := .later }
def TopCalledUptoCardSaid : Prop := Claim7.holds Tryz.pinned (.plain (OpenSpec.upto topCalledSpec)) topCalledUptoCard
end Rows
end Go.Proofs.YthiaimakjmhegaaGreatDoor
