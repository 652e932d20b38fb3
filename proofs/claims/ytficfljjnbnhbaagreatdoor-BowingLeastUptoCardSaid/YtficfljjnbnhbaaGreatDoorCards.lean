/-
  DERIVED. GIVEN WITH THE SEED: THE CARDS: each row of YtficfljjnbnhbaaGreatDoorRows.lean that lists a variable, with what it lists TIED to the program's text (the seventh form; the later family's looks); each row that meets fmt, with fmt's text TOLD by the authors' own Lean function (tested against real Go, not proved from fmt's source: count such statements apart). THE CARD IS WHAT COUNTS. Prove the row's statement (the work); the ties are given (YtficfljjnbnhbaaGreatDoorTie.lean); close each card by the builder's one call (the guide's Derived/Test/ToyasCard.lean, 'card_holds'). Laid BY PROGRAM, IN A SANDBOX (cutbox-door.mjs). By AI agents, Wed Nov 11 2026. No macro, syntax, notation, axiom, sorry.
-/
import Derived.Test.YtficfljjnbnhbaaGreatDoorRows
import GoSem.ClaimSeven
namespace Go.Proofs.YtficfljjnbnhbaaGreatDoor
namespace Rows

/-- THE TIED CARD OF 'partbooklaw20.BowingMatchesReference'. -/
def bowingMatchesReferenceCard : Claim7 := { stood := { row := bowingMatchesReferenceRow, standIns := [], harness := (true, "e763a8eac35c874368b0950757ed8f0d2a32c5f6ac4141ceb053834143b983b0"), looks := false }, kinds := [], alts := [], laidByText := true, laidKinds := [.data], laidTests := true, laidLooks := .later }
def BowingMatchesReferenceCardSaid : Prop := Claim7.holds Tryz.pinned (.plain (OpenSpec.ofChange bowingMatchesReferenceSpec)) bowingMatchesReferenceCard

/-- THE TIED CARD OF 'partbooklaw20.BowingAgrees'. -/
def bowingAgreesCard : Claim7 := { stood := { row := bowingAgreesRow, standIns := [], harness := (true, "e763a8eac35c874368b0950757ed8f0d2a32c5f6ac4141ceb053834143b983b0"), looks := false }, kinds := [], alts := [], laidByText := true, laidKinds := [.data], laidTests := true, laidLooks := .later }
def BowingAgreesCardSaid : Prop := Claim7.holds Tryz.pinned (.plain (OpenSpec.ofChange bowingAgreesSpec)) bowingAgreesCard

/-- THE TIED CARD OF 'partbooklaw20.BowingRestores'. -/
def bowingRestoresCard : Claim7 := { stood := { row := bowingRestoresRow, standIns := [], harness := (true, "e763a8eac35c874368b0950757ed8f0d2a32c5f6ac4141ceb053834143b983b0"), looks := false }, kinds := [], alts := [], laidByText := true, laidKinds := [.data], laidTests := true, laidLooks := .later }
def BowingRestoresCardSaid : Prop := Claim7.holds Tryz.pinned (.plain (OpenSpec.ofChange bowingRestoresSpec)) bowingRestoresCard

/-- THE TIED CARD OF 'partbooklaw20.BowingLeast'. -/
def bowingLeastCard : Claim7 := { stood := { row := bowingLeastRow, standIns := [], harness := (true, "e763a8eac35c874368b0950757ed8f0d2a32c5f6ac4141ceb053834143b983b0"), looks := false }, kinds := [], alts := [], laidByText := true, laidKinds := [.data], laidTests := true, laidLooks := .later }
def BowingLeastCardSaid : Prop := Claim7.holds Tryz.pinned (.plain (OpenSpec.ofChange bowingLeastSpec)) bowingLeastCard

/-- THE TIED CARD OF 'partbooklaw20.BowingExcepts'. -/
def bowingExceptsCard : Claim7 := { stood := { row := bowingExceptsRow, standIns := [], harness := (true, "e763a8eac35c874368b0950757ed8f0d2a32c5f6ac4141ceb053834143b983b0"), looks := false }, kinds := [], alts := [], laidByText := true, laidKinds := [.data], laidTests := true, laidLooks := .later }
def BowingExceptsCardSaid : Prop := Claim7.holds Tryz.pinned (.plain (OpenSpec.ofChange bowingExceptsSpec)) bowingExceptsCard

/-- THE TIED CARD OF 'partbooklaw20.BowingChoices'. -/
def bowingChoicesCard : Claim7 := { stood := { row := bowingChoicesRow, standIns := [], harness := (true, "e763a8eac35c874368b0950757ed8f0d2a32c5f6ac4141ceb053834143b983b0"), looks := false }, kinds := [], alts := [], laidByText := true, laidKinds := [.data], laidTests := true, laidLooks := .later }
def BowingChoicesCardSaid : Prop := Claim7.holds Tryz.pinned (.plain (OpenSpec.ofChange bowingChoicesSpec)) bowingChoicesCard

/-- THE TIED CARD OF 'partbooklaw20.BowingOther'. -/
def bowingOtherCard : Claim7 := { stood := { row := bowingOtherRow, standIns := [], harness := (true, "e763a8eac35c874368b0950757ed8f0d2a32c5f6ac4141ceb053834143b983b0"), looks := false }, kinds := [], alts := [], laidByText := true, laidKinds := [.data], laidTests := true, laidLooks := .later }
def BowingOtherCardSaid : Prop := Claim7.holds Tryz.pinned (.plain (OpenSpec.ofChange bowingOtherSpec)) bowingOtherCard

/-- THE SECOND FORM's CARD OF 'partbooklaw20.BowingMatchesReference'. -/
def bowingMatchesReferenceUptoCard : Claim7 := { stood := { row := bowingMatchesReferenceUptoRow, standIns := [], harness := (true, "e763a8eac35c874368b0950757ed8f0d2a32c5f6ac4141ceb053834143b983b0"), looks := false }, kinds := [], alts := [], laidByText := true, laidKinds := [.data], laidTests := true, laidLooks := .later }
def BowingMatchesReferenceUptoCardSaid : Prop := Claim7.holds Tryz.pinned (.plain (OpenSpec.upto bowingMatchesReferenceSpec)) bowingMatchesReferenceUptoCard

/-- THE SECOND FORM's CARD OF 'partbooklaw20.BowingAgrees'. -/
def bowingAgreesUptoCard : Claim7 := { stood := { row := bowingAgreesUptoRow, standIns := [], harness := (true, "e763a8eac35c874368b0950757ed8f0d2a32c5f6ac4141ceb053834143b983b0"), looks := false }, kinds := [], alts := [], laidByText := true, laidKinds := [.data], laidTests := true, laidLooks := .later }
def BowingAgreesUptoCardSaid : Prop := Claim7.holds Tryz.pinned (.plain (OpenSpec.upto bowingAgreesSpec)) bowingAgreesUptoCard

/-- THE SECOND FORM's CARD OF 'partbooklaw20.BowingRestores'. -/
def bowingRestoresUptoCard : Claim7 := { stood := { row := bowingRestoresUptoRow, standIns := [], harness := (true, "e763a8eac35c874368b0950757ed8f0d2a32c5f6ac4141ceb053834143b983b0"), looks := false }, kinds := [], alts := [], laidByText := true, laidKinds := [.data], laidTests := true, laidLooks := .later }
def BowingRestoresUptoCardSaid : Prop := Claim7.holds Tryz.pinned (.plain (OpenSpec.upto bowingRestoresSpec)) bowingRestoresUptoCard

/-- THE SECOND FORM's CARD OF 'partbooklaw20.BowingLeast'. -/
def bowingLeastUptoCard : Claim7 := { stood := { row := bowingLeastUptoRow, standIns := [], harness := (true, "e763a8eac35c874368b0950757ed8f0d2a32c5f6ac4141ceb053834143b983b0"), looks := false }, kinds := [], alts := [], laidByText := true, laidKinds := [.data], laidTests := true, laidLooks := .later }
def BowingLeastUptoCardSaid : Prop := Claim7.holds Tryz.pinned (.plain (OpenSpec.upto bowingLeastSpec)) bowingLeastUptoCard

/-- THE SECOND FORM's CARD OF 'partbooklaw20.BowingExcepts'. -/
def bowingExceptsUptoCard : Claim7 := { stood := { row := bowingExceptsUptoRow, standIns := [], harness := (true, "e763a8eac35c874368b0950757ed8f0d2a32c5f6ac4141ceb053834143b983b0"), looks := false }, kinds := [], alts := [], laidByText := true, laidKinds := [.data], laidTests := true, laidLooks := .later }
def BowingExceptsUptoCardSaid : Prop := Claim7.holds Tryz.pinned (.plain (OpenSpec.upto bowingExceptsSpec)) bowingExceptsUptoCard

/-- THE SECOND FORM's CARD OF 'partbooklaw20.BowingChoices'. -/
def bowingChoicesUptoCard : Claim7 := { stood := { row := bowingChoicesUptoRow, standIns := [], harness := (true, "e763a8eac35c874368b0950757ed8f0d2a32c5f6ac4141ceb053834143b983b0"), looks := false }, kinds := [], alts := [], laidByText := true, laidKinds := [.data], laidTests := true, laidLooks := .later }
def BowingChoicesUptoCardSaid : Prop := Claim7.holds Tryz.pinned (.plain (OpenSpec.upto bowingChoicesSpec)) bowingChoicesUptoCard

/-- THE SECOND FORM's CARD OF 'partbooklaw20.BowingOther'. -/
def bowingOtherUptoCard : Claim7 := { stood := { row := bowingOtherUptoRow, standIns := [], harness := (true, "e763a8eac35c874368b0950757ed8f0d2a32c5f6ac4141ceb053834143b983b0"), looks := false }, kinds := [], alts := [], laidByText := true, laidKinds := [.data], laidTests := true, laidLooks := .later }
def BowingOtherUptoCardSaid : Prop := Claim7.holds Tryz.pinned (.plain (OpenSpec.upto bowingOtherSpec)) bowingOtherUptoCard
end Rows
end Go.Proofs.YtficfljjnbnhbaaGreatDoor
