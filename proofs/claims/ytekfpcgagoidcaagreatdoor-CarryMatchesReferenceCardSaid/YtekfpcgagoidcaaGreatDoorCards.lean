/-
  DERIVED. GIVEN WITH THE SEED: THE CARDS: each row of YtekfpcgagoidcaaGreatDoorRows.lean that lists a variable, with what it lists TIED to the program's text (the seventh form; the later family's looks); each row that meets fmt, with fmt's text TOLD by the authors' own Lean function (tested against real Go, not proved from fmt's source: count such statements apart). THE CARD IS WHAT COUNTS. Prove the row's statement (the work); the ties are given (YtekfpcgagoidcaaGreatDoorTie.lean); close each card by the builder's one call (the guide's Derived/Test/ToyasCard.lean, 'card_holds'). Laid BY PROGRAM, IN A SANDBOX (cutbox-door.mjs). By AI agents, Wed Nov 11 2026. No macro, syntax, notation, axiom, sorry.
-/
import Derived.Test.YtekfpcgagoidcaaGreatDoorRows
import GoSem.ClaimSeven
namespace Go.Proofs.YtekfpcgagoidcaaGreatDoor
namespace Rows

/-- THE TIED CARD OF 'partbooklaw12.AlignMatchesReference'. -/
def alignMatchesReferenceCard : Claim7 := { stood := { row := alignMatchesReferenceRow, standIns := [], harness := (true, "8cd0352e08ea4b4b146f0583d020e3c31bfe5df82b4443beffe05bd69158732d"), looks := false }, kinds := [], alts := [], laidByText := true, laidKinds := [.data], laidTests := true, laidLooks := .later }
def AlignMatchesReferenceCardSaid : Prop := Claim7.holds Tryz.pinned (.plain (OpenSpec.ofChange alignMatchesReferenceSpec)) alignMatchesReferenceCard

/-- THE TIED CARD OF 'partbooklaw12.AlignLeast'. -/
def alignLeastCard : Claim7 := { stood := { row := alignLeastRow, standIns := [], harness := (true, "8cd0352e08ea4b4b146f0583d020e3c31bfe5df82b4443beffe05bd69158732d"), looks := false }, kinds := [], alts := [], laidByText := true, laidKinds := [.data], laidTests := true, laidLooks := .later }
def AlignLeastCardSaid : Prop := Claim7.holds Tryz.pinned (.plain (OpenSpec.ofChange alignLeastSpec)) alignLeastCard

/-- THE TIED CARD OF 'partbooklaw12.AlignProves'. -/
def alignProvesCard : Claim7 := { stood := { row := alignProvesRow, standIns := [], harness := (true, "8cd0352e08ea4b4b146f0583d020e3c31bfe5df82b4443beffe05bd69158732d"), looks := false }, kinds := [], alts := [], laidByText := true, laidKinds := [.data], laidTests := true, laidLooks := .later }
def AlignProvesCardSaid : Prop := Claim7.holds Tryz.pinned (.plain (OpenSpec.ofChange alignProvesSpec)) alignProvesCard

/-- THE TIED CARD OF 'partbooklaw12.AlignSame'. -/
def alignSameCard : Claim7 := { stood := { row := alignSameRow, standIns := [], harness := (true, "8cd0352e08ea4b4b146f0583d020e3c31bfe5df82b4443beffe05bd69158732d"), looks := false }, kinds := [], alts := [], laidByText := true, laidKinds := [.data], laidTests := true, laidLooks := .later }
def AlignSameCardSaid : Prop := Claim7.holds Tryz.pinned (.plain (OpenSpec.ofChange alignSameSpec)) alignSameCard

/-- THE TIED CARD OF 'partbooklaw12.AlignNotes'. -/
def alignNotesCard : Claim7 := { stood := { row := alignNotesRow, standIns := [], harness := (true, "8cd0352e08ea4b4b146f0583d020e3c31bfe5df82b4443beffe05bd69158732d"), looks := false }, kinds := [], alts := [], laidByText := true, laidKinds := [.data], laidTests := true, laidLooks := .later }
def AlignNotesCardSaid : Prop := Claim7.holds Tryz.pinned (.plain (OpenSpec.ofChange alignNotesSpec)) alignNotesCard

/-- THE TIED CARD OF 'partbooklaw12.AlignLess'. -/
def alignLessCard : Claim7 := { stood := { row := alignLessRow, standIns := [], harness := (true, "8cd0352e08ea4b4b146f0583d020e3c31bfe5df82b4443beffe05bd69158732d"), looks := false }, kinds := [], alts := [], laidByText := true, laidKinds := [.data], laidTests := true, laidLooks := .later }
def AlignLessCardSaid : Prop := Claim7.holds Tryz.pinned (.plain (OpenSpec.ofChange alignLessSpec)) alignLessCard

/-- THE TIED CARD OF 'partbooklaw21.CarryMatchesReference'. -/
def carryMatchesReferenceCard : Claim7 := { stood := { row := carryMatchesReferenceRow, standIns := [], harness := (true, "8cd0352e08ea4b4b146f0583d020e3c31bfe5df82b4443beffe05bd69158732d"), looks := false }, kinds := [], alts := [], laidByText := true, laidKinds := [.data], laidTests := true, laidLooks := .later }
def CarryMatchesReferenceCardSaid : Prop := Claim7.holds Tryz.pinned (.plain (OpenSpec.ofChange carryMatchesReferenceSpec)) carryMatchesReferenceCard

/-- THE TIED CARD OF 'partbooklaw21.CarryOnce'. -/
def carryOnceCard : Claim7 := { stood := { row := carryOnceRow, standIns := [], harness := (true, "8cd0352e08ea4b4b146f0583d020e3c31bfe5df82b4443beffe05bd69158732d"), looks := false }, kinds := [], alts := [], laidByText := true, laidKinds := [.data], laidTests := true, laidLooks := .later }
def CarryOnceCardSaid : Prop := Claim7.holds Tryz.pinned (.plain (OpenSpec.ofChange carryOnceSpec)) carryOnceCard

/-- THE TIED CARD OF 'partbooklaw21.CarryNothingElse'. -/
def carryNothingElseCard : Claim7 := { stood := { row := carryNothingElseRow, standIns := [], harness := (true, "8cd0352e08ea4b4b146f0583d020e3c31bfe5df82b4443beffe05bd69158732d"), looks := false }, kinds := [], alts := [], laidByText := true, laidKinds := [.data], laidTests := true, laidLooks := .later }
def CarryNothingElseCardSaid : Prop := Claim7.holds Tryz.pinned (.plain (OpenSpec.ofChange carryNothingElseSpec)) carryNothingElseCard

/-- THE TIED CARD OF 'partbooklaw21.CarryDirect'. -/
def carryDirectCard : Claim7 := { stood := { row := carryDirectRow, standIns := [], harness := (true, "8cd0352e08ea4b4b146f0583d020e3c31bfe5df82b4443beffe05bd69158732d"), looks := false }, kinds := [], alts := [], laidByText := true, laidKinds := [.data], laidTests := true, laidLooks := .later }
def CarryDirectCardSaid : Prop := Claim7.holds Tryz.pinned (.plain (OpenSpec.ofChange carryDirectSpec)) carryDirectCard

/-- THE TIED CARD OF 'partbooklaw21.CarrySame'. -/
def carrySameCard : Claim7 := { stood := { row := carrySameRow, standIns := [], harness := (true, "8cd0352e08ea4b4b146f0583d020e3c31bfe5df82b4443beffe05bd69158732d"), looks := false }, kinds := [], alts := [], laidByText := true, laidKinds := [.data], laidTests := true, laidLooks := .later }
def CarrySameCardSaid : Prop := Claim7.holds Tryz.pinned (.plain (OpenSpec.ofChange carrySameSpec)) carrySameCard

/-- THE TIED CARD OF 'partbooklaw21.CarryApart'. -/
def carryApartCard : Claim7 := { stood := { row := carryApartRow, standIns := [], harness := (true, "8cd0352e08ea4b4b146f0583d020e3c31bfe5df82b4443beffe05bd69158732d"), looks := false }, kinds := [], alts := [], laidByText := true, laidKinds := [.data], laidTests := true, laidLooks := .later }
def CarryApartCardSaid : Prop := Claim7.holds Tryz.pinned (.plain (OpenSpec.ofChange carryApartSpec)) carryApartCard

/-- THE SECOND FORM's CARD OF 'partbooklaw12.AlignMatchesReference'. -/
def alignMatchesReferenceUptoCard : Claim7 := { stood := { row := alignMatchesReferenceUptoRow, standIns := [], harness := (true, "8cd0352e08ea4b4b146f0583d020e3c31bfe5df82b4443beffe05bd69158732d"), looks := false }, kinds := [], alts := [], laidByText := true, laidKinds := [.data], laidTests := true, laidLooks := .later }
def AlignMatchesReferenceUptoCardSaid : Prop := Claim7.holds Tryz.pinned (.plain (OpenSpec.upto alignMatchesReferenceSpec)) alignMatchesReferenceUptoCard

/-- THE SECOND FORM's CARD OF 'partbooklaw12.AlignLeast'. -/
def alignLeastUptoCard : Claim7 := { stood := { row := alignLeastUptoRow, standIns := [], harness := (true, "8cd0352e08ea4b4b146f0583d020e3c31bfe5df82b4443beffe05bd69158732d"), looks := false }, kinds := [], alts := [], laidByText := true, laidKinds := [.data], laidTests := true, laidLooks := .later }
def AlignLeastUptoCardSaid : Prop := Claim7.holds Tryz.pinned (.plain (OpenSpec.upto alignLeastSpec)) alignLeastUptoCard

/-- THE SECOND FORM's CARD OF 'partbooklaw12.AlignProves'. -/
def alignProvesUptoCard : Claim7 := { stood := { row := alignProvesUptoRow, standIns := [], harness := (true, "8cd0352e08ea4b4b146f0583d020e3c31bfe5df82b4443beffe05bd69158732d"), looks := false }, kinds := [], alts := [], laidByText := true, laidKinds := [.data], laidTests := true, laidLooks := .later }
def AlignProvesUptoCardSaid : Prop := Claim7.holds Tryz.pinned (.plain (OpenSpec.upto alignProvesSpec)) alignProvesUptoCard

/-- THE SECOND FORM's CARD OF 'partbooklaw12.AlignSame'. -/
def alignSameUptoCard : Claim7 := { stood := { row := alignSameUptoRow, standIns := [], harness := (true, "8cd0352e08ea4b4b146f0583d020e3c31bfe5df82b4443beffe05bd69158732d"), looks := false }, kinds := [], alts := [], laidByText := true, laidKinds := [.data], laidTests := true, laidLooks := .later }
def AlignSameUptoCardSaid : Prop := Claim7.holds Tryz.pinned (.plain (OpenSpec.upto alignSameSpec)) alignSameUptoCard

/-- THE SECOND FORM's CARD OF 'partbooklaw12.AlignNotes'. -/
def alignNotesUptoCard : Claim7 := { stood := { row := alignNotesUptoRow, standIns := [], harness := (true, "8cd0352e08ea4b4b146f0583d020e3c31bfe5df82b4443beffe05bd69158732d"), looks := false }, kinds := [], alts := [], laidByText := true, laidKinds := [.data], laidTests := true, laidLooks := .later }
def AlignNotesUptoCardSaid : Prop := Claim7.holds Tryz.pinned (.plain (OpenSpec.upto alignNotesSpec)) alignNotesUptoCard

/-- THE SECOND FORM's CARD OF 'partbooklaw12.AlignLess'. -/
def alignLessUptoCard : Claim7 := { stood := { row := alignLessUptoRow, standIns := [], harness := (true, "8cd0352e08ea4b4b146f0583d020e3c31bfe5df82b4443beffe05bd69158732d"), looks := false }, kinds := [], alts := [], laidByText := true, laidKinds := [.data], laidTests := true, laidLooks := .later }
def AlignLessUptoCardSaid : Prop := Claim7.holds Tryz.pinned (.plain (OpenSpec.upto alignLessSpec)) alignLessUptoCard

/-- THE SECOND FORM's CARD OF 'partbooklaw21.CarryMatchesReference'. -/
def carryMatchesReferenceUptoCard : Claim7 := { stood := { row := carryMatchesReferenceUptoRow, standIns := [], harness := (true, "8cd0352e08ea4b4b146f0583d020e3c31bfe5df82b4443beffe05bd69158732d"), looks := false }, kinds := [], alts := [], laidByText := true, laidKinds := [.data], laidTests := true, laidLooks := .later }
def CarryMatchesReferenceUptoCardSaid : Prop := Claim7.holds Tryz.pinned (.plain (OpenSpec.upto carryMatchesReferenceSpec)) carryMatchesReferenceUptoCard

/-- THE SECOND FORM's CARD OF 'partbooklaw21.CarryOnce'. -/
def carryOnceUptoCard : Claim7 := { stood := { row := carryOnceUptoRow, standIns := [], harness := (true, "8cd0352e08ea4b4b146f0583d020e3c31bfe5df82b4443beffe05bd69158732d"), looks := false }, kinds := [], alts := [], laidByText := true, laidKinds := [.data], laidTests := true, laidLooks := .later }
def CarryOnceUptoCardSaid : Prop := Claim7.holds Tryz.pinned (.plain (OpenSpec.upto carryOnceSpec)) carryOnceUptoCard

/-- THE SECOND FORM's CARD OF 'partbooklaw21.CarryNothingElse'. -/
def carryNothingElseUptoCard : Claim7 := { stood := { row := carryNothingElseUptoRow, standIns := [], harness := (true, "8cd0352e08ea4b4b146f0583d020e3c31bfe5df82b4443beffe05bd69158732d"), looks := false }, kinds := [], alts := [], laidByText := true, laidKinds := [.data], laidTests := true, laidLooks := .later }
def CarryNothingElseUptoCardSaid : Prop := Claim7.holds Tryz.pinned (.plain (OpenSpec.upto carryNothingElseSpec)) carryNothingElseUptoCard

/-- THE SECOND FORM's CARD OF 'partbooklaw21.CarryDirect'. -/
def carryDirectUptoCard : Claim7 := { stood := { row := carryDirectUptoRow, standIns := [], harness := (true, "8cd0352e08ea4b4b146f0583d020e3c31bfe5df82b4443beffe05bd69158732d"), looks := false }, kinds := [], alts := [], laidByText := true, laidKinds := [.data], laidTests := true, laidLooks := .later }
def CarryDirectUptoCardSaid : Prop := Claim7.holds Tryz.pinned (.plain (OpenSpec.upto carryDirectSpec)) carryDirectUptoCard

/-- THE SECOND FORM's CARD OF 'partbooklaw21.CarrySame'. -/
def carrySameUptoCard : Claim7 := { stood := { row := carrySameUptoRow, standIns := [], harness := (true, "8cd0352e08ea4b4b146f0583d020e3c31bfe5df82b4443beffe05bd69158732d"), looks := false }, kinds := [], alts := [], laidByText := true, laidKinds := [.data], laidTests := true, laidLooks := .later }
def CarrySameUptoCardSaid : Prop := Claim7.holds Tryz.pinned (.plain (OpenSpec.upto carrySameSpec)) carrySameUptoCard

/-- THE SECOND FORM's CARD OF 'partbooklaw21.CarryApart'. -/
def carryApartUptoCard : Claim7 := { stood := { row := carryApartUptoRow, standIns := [], harness := (true, "8cd0352e08ea4b4b146f0583d020e3c31bfe5df82b4443beffe05bd69158732d"), looks := false }, kinds := [], alts := [], laidByText := true, laidKinds := [.data], laidTests := true, laidLooks := .later }
def CarryApartUptoCardSaid : Prop := Claim7.holds Tryz.pinned (.plain (OpenSpec.upto carryApartSpec)) carryApartUptoCard
end Rows
end Go.Proofs.YtekfpcgagoidcaaGreatDoor
