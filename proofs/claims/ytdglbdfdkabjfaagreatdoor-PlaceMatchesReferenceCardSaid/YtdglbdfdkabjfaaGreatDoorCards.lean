/-
  DERIVED. GIVEN WITH THE SEED: THE CARDS: each row of YtdglbdfdkabjfaaGreatDoorRows.lean that lists a variable, with what it lists TIED to the program's text (the seventh form; the later family's looks); each row that meets fmt, with fmt's text TOLD by the authors' own Lean function (tested against real Go, not proved from fmt's source: count such statements apart). THE CARD IS WHAT COUNTS. Prove the row's statement (the work); the ties are given (YtdglbdfdkabjfaaGreatDoorTie.lean); close each card by the builder's one call (the guide's Derived/Test/ToyasCard.lean, 'card_holds'). Laid BY PROGRAM, IN A SANDBOX (cutbox-door.mjs). By AI agents, Wed Nov 11 2026. No macro, syntax, notation, axiom, sorry.
-/
import Derived.Test.YtdglbdfdkabjfaaGreatDoorRows
import GoSem.ClaimSeven
namespace Go.Proofs.YtdglbdfdkabjfaaGreatDoor
namespace Rows

/-- THE TIED CARD OF 'partbooklaw31.PlaceMatchesReference'. -/
def placeMatchesReferenceCard : Claim7 := { stood := { row := placeMatchesReferenceRow, standIns := [], harness := (true, "823b189a5c97ebb486d91f27c2cd96f75e82d708bcadca5a191fd16754752226"), looks := true }, kinds := [], alts := [], laidByText := true, laidKinds := [.handle, .data], laidTests := true, laidLooks := .later }
def PlaceMatchesReferenceCardSaid : Prop := Claim7.holds Tryz.pinned (.plain (OpenSpec.ofChange placeMatchesReferenceSpec)) placeMatchesReferenceCard

/-- THE TIED CARD OF 'partbooklaw31.PlaceBack'. -/
def placeBackCard : Claim7 := { stood := { row := placeBackRow, standIns := [], harness := (true, "823b189a5c97ebb486d91f27c2cd96f75e82d708bcadca5a191fd16754752226"), looks := true }, kinds := [], alts := [], laidByText := true, laidKinds := [.handle, .data], laidTests := true, laidLooks := .later }
def PlaceBackCardSaid : Prop := Claim7.holds Tryz.pinned (.plain (OpenSpec.ofChange placeBackSpec)) placeBackCard

/-- THE TIED CARD OF 'partbooklaw31.PlaceMoments'. -/
def placeMomentsCard : Claim7 := { stood := { row := placeMomentsRow, standIns := [], harness := (true, "823b189a5c97ebb486d91f27c2cd96f75e82d708bcadca5a191fd16754752226"), looks := true }, kinds := [], alts := [], laidByText := true, laidKinds := [.handle, .data], laidTests := true, laidLooks := .later }
def PlaceMomentsCardSaid : Prop := Claim7.holds Tryz.pinned (.plain (OpenSpec.ofChange placeMomentsSpec)) placeMomentsCard

/-- THE TIED CARD OF 'partbooklaw31.PlaceBars'. -/
def placeBarsCard : Claim7 := { stood := { row := placeBarsRow, standIns := [], harness := (true, "823b189a5c97ebb486d91f27c2cd96f75e82d708bcadca5a191fd16754752226"), looks := true }, kinds := [], alts := [], laidByText := true, laidKinds := [.handle, .data], laidTests := true, laidLooks := .later }
def PlaceBarsCardSaid : Prop := Claim7.holds Tryz.pinned (.plain (OpenSpec.ofChange placeBarsSpec)) placeBarsCard

/-- THE TIED CARD OF 'partbooklaw31.PlaceBeats'. -/
def placeBeatsCard : Claim7 := { stood := { row := placeBeatsRow, standIns := [], harness := (true, "823b189a5c97ebb486d91f27c2cd96f75e82d708bcadca5a191fd16754752226"), looks := true }, kinds := [], alts := [], laidByText := true, laidKinds := [.handle, .data], laidTests := true, laidLooks := .later }
def PlaceBeatsCardSaid : Prop := Claim7.holds Tryz.pinned (.plain (OpenSpec.ofChange placeBeatsSpec)) placeBeatsCard

/-- THE TIED CARD OF 'partbooklaw31.PlaceCuts'. -/
def placeCutsCard : Claim7 := { stood := { row := placeCutsRow, standIns := [], harness := (true, "823b189a5c97ebb486d91f27c2cd96f75e82d708bcadca5a191fd16754752226"), looks := true }, kinds := [], alts := [], laidByText := true, laidKinds := [.handle, .data], laidTests := true, laidLooks := .later }
def PlaceCutsCardSaid : Prop := Claim7.holds Tryz.pinned (.plain (OpenSpec.ofChange placeCutsSpec)) placeCutsCard

/-- THE SECOND FORM's CARD OF 'partbooklaw31.PlaceMatchesReference'. -/
def placeMatchesReferenceUptoCard : Claim7 := { stood := { row := placeMatchesReferenceUptoRow, standIns := [], harness := (true, "823b189a5c97ebb486d91f27c2cd96f75e82d708bcadca5a191fd16754752226"), looks := true }, kinds := [], alts := [], laidByText := true, laidKinds := [.handle, .data], laidTests := true, laidLooks := .later }
def PlaceMatchesReferenceUptoCardSaid : Prop := Claim7.holds Tryz.pinned (.plain (OpenSpec.upto placeMatchesReferenceSpec)) placeMatchesReferenceUptoCard

/-- THE SECOND FORM's CARD OF 'partbooklaw31.PlaceBack'. -/
def placeBackUptoCard : Claim7 := { stood := { row := placeBackUptoRow, standIns := [], harness := (true, "823b189a5c97ebb486d91f27c2cd96f75e82d708bcadca5a191fd16754752226"), looks := true }, kinds := [], alts := [], laidByText := true, laidKinds := [.handle, .data], laidTests := true, laidLooks := .later }
def PlaceBackUptoCardSaid : Prop := Claim7.holds Tryz.pinned (.plain (OpenSpec.upto placeBackSpec)) placeBackUptoCard

/-- THE SECOND FORM's CARD OF 'partbooklaw31.PlaceMoments'. -/
def placeMomentsUptoCard : Claim7 := { stood := { row := placeMomentsUptoRow, standIns := [], harness := (true, "823b189a5c97ebb486d91f27c2cd96f75e82d708bcadca5a191fd16754752226"), looks := true }, kinds := [], alts := [], laidByText := true, laidKinds := [.handle, .data], laidTests := true, laidLooks := .later }
def PlaceMomentsUptoCardSaid : Prop := Claim7.holds Tryz.pinned (.plain (OpenSpec.upto placeMomentsSpec)) placeMomentsUptoCard

/-- THE SECOND FORM's CARD OF 'partbooklaw31.PlaceBars'. -/
def placeBarsUptoCard : Claim7 := { stood := { row := placeBarsUptoRow, standIns := [], harness := (true, "823b189a5c97ebb486d91f27c2cd96f75e82d708bcadca5a191fd16754752226"), looks := true }, kinds := [], alts := [], laidByText := true, laidKinds := [.handle, .data], laidTests := true, laidLooks := .later }
def PlaceBarsUptoCardSaid : Prop := Claim7.holds Tryz.pinned (.plain (OpenSpec.upto placeBarsSpec)) placeBarsUptoCard

/-- THE SECOND FORM's CARD OF 'partbooklaw31.PlaceBeats'. -/
def placeBeatsUptoCard : Claim7 := { stood := { row := placeBeatsUptoRow, standIns := [], harness := (true, "823b189a5c97ebb486d91f27c2cd96f75e82d708bcadca5a191fd16754752226"), looks := true }, kinds := [], alts := [], laidByText := true, laidKinds := [.handle, .data], laidTests := true, laidLooks := .later }
def PlaceBeatsUptoCardSaid : Prop := Claim7.holds Tryz.pinned (.plain (OpenSpec.upto placeBeatsSpec)) placeBeatsUptoCard

/-- THE SECOND FORM's CARD OF 'partbooklaw31.PlaceCuts'. -/
def placeCutsUptoCard : Claim7 := { stood := { row := placeCutsUptoRow, standIns := [], harness := (true, "823b189a5c97ebb486d91f27c2cd96f75e82d708bcadca5a191fd16754752226"), looks := true }, kinds := [], alts := [], laidByText := true, laidKinds := [.handle, .data], laidTests := true, laidLooks := .later }
def PlaceCutsUptoCardSaid : Prop := Claim7.holds Tryz.pinned (.plain (OpenSpec.upto placeCutsSpec)) placeCutsUptoCard
end Rows
end Go.Proofs.YtdglbdfdkabjfaaGreatDoor
