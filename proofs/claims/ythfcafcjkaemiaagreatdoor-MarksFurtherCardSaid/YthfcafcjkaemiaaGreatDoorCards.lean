/-
  DERIVED. GIVEN WITH THE SEED: THE CARDS: each row of YthfcafcjkaemiaaGreatDoorRows.lean that lists a variable, with what it lists TIED to the program's text (the seventh form; the later family's looks); each row that meets fmt, with fmt's text TOLD by the authors' own Lean function (tested against real Go, not proved from fmt's source: count such statements apart). THE CARD IS WHAT COUNTS. Prove the row's statement (the work); the ties are given (YthfcafcjkaemiaaGreatDoorTie.lean); close each card by the builder's one call (the guide's Derived/Test/ToyasCard.lean, 'card_holds'). Laid BY PROGRAM, IN A SANDBOX (cutbox-door.mjs). By AI agents, Wed Nov 11 2026. No macro, syntax, notation, axiom, sorry.
-/
import Derived.Test.YthfcafcjkaemiaaGreatDoorRows
import GoSem.ClaimSeven
namespace Go.Proofs.YthfcafcjkaemiaaGreatDoor
namespace Rows

/-- THE TIED CARD OF 'partbooklaw08.ScoreFurther'. -/
def scoreFurtherCard : Claim7 := { stood := { row := scoreFurtherRow, standIns := [], harness := (true, "cc6068cba889bc702be7df9d40241c749401806eca4590df140c891af0a7fd90"), looks := false }, kinds := [], alts := [], laidByText := true, laidKinds := [.data], laidTests := true, laidLooks := .later }
def ScoreFurtherCardSaid : Prop := Claim7.holds Tryz.pinned (.plain (OpenSpec.ofChange scoreFurtherSpec)) scoreFurtherCard

/-- THE TIED CARD OF 'partbooklaw11.EditionMatchesReference'. -/
def editionMatchesReferenceCard : Claim7 := { stood := { row := editionMatchesReferenceRow, standIns := [], harness := (true, "cc6068cba889bc702be7df9d40241c749401806eca4590df140c891af0a7fd90"), looks := false }, kinds := [], alts := [], laidByText := true, laidKinds := [.data], laidTests := true, laidLooks := .later }
def EditionMatchesReferenceCardSaid : Prop := Claim7.holds Tryz.pinned (.plain (OpenSpec.ofChange editionMatchesReferenceSpec)) editionMatchesReferenceCard

/-- THE TIED CARD OF 'partbooklaw19.MarksMatchesReference'. -/
def marksMatchesReferenceCard : Claim7 := { stood := { row := marksMatchesReferenceRow, standIns := [], harness := (true, "cc6068cba889bc702be7df9d40241c749401806eca4590df140c891af0a7fd90"), looks := false }, kinds := [], alts := [], laidByText := true, laidKinds := [.data], laidTests := true, laidLooks := .later }
def MarksMatchesReferenceCardSaid : Prop := Claim7.holds Tryz.pinned (.plain (OpenSpec.ofChange marksMatchesReferenceSpec)) marksMatchesReferenceCard

/-- THE TIED CARD OF 'partbooklaw19.MarksBefore'. -/
def marksBeforeCard : Claim7 := { stood := { row := marksBeforeRow, standIns := [], harness := (true, "cc6068cba889bc702be7df9d40241c749401806eca4590df140c891af0a7fd90"), looks := false }, kinds := [], alts := [], laidByText := true, laidKinds := [.data], laidTests := true, laidLooks := .later }
def MarksBeforeCardSaid : Prop := Claim7.holds Tryz.pinned (.plain (OpenSpec.ofChange marksBeforeSpec)) marksBeforeCard

/-- THE TIED CARD OF 'partbooklaw19.MarksMeant'. -/
def marksMeantCard : Claim7 := { stood := { row := marksMeantRow, standIns := [], harness := (true, "cc6068cba889bc702be7df9d40241c749401806eca4590df140c891af0a7fd90"), looks := false }, kinds := [], alts := [], laidByText := true, laidKinds := [.data], laidTests := true, laidLooks := .later }
def MarksMeantCardSaid : Prop := Claim7.holds Tryz.pinned (.plain (OpenSpec.ofChange marksMeantSpec)) marksMeantCard

/-- THE TIED CARD OF 'partbooklaw19.MarksShown'. -/
def marksShownCard : Claim7 := { stood := { row := marksShownRow, standIns := [], harness := (true, "cc6068cba889bc702be7df9d40241c749401806eca4590df140c891af0a7fd90"), looks := false }, kinds := [], alts := [], laidByText := true, laidKinds := [.data], laidTests := true, laidLooks := .later }
def MarksShownCardSaid : Prop := Claim7.holds Tryz.pinned (.plain (OpenSpec.ofChange marksShownSpec)) marksShownCard

/-- THE TIED CARD OF 'partbooklaw19.MarksPrivate'. -/
def marksPrivateCard : Claim7 := { stood := { row := marksPrivateRow, standIns := [], harness := (true, "cc6068cba889bc702be7df9d40241c749401806eca4590df140c891af0a7fd90"), looks := false }, kinds := [], alts := [], laidByText := true, laidKinds := [.data], laidTests := true, laidLooks := .later }
def MarksPrivateCardSaid : Prop := Claim7.holds Tryz.pinned (.plain (OpenSpec.ofChange marksPrivateSpec)) marksPrivateCard

/-- THE TIED CARD OF 'partbooklaw19.MarksFurther'. -/
def marksFurtherCard : Claim7 := { stood := { row := marksFurtherRow, standIns := [], harness := (true, "cc6068cba889bc702be7df9d40241c749401806eca4590df140c891af0a7fd90"), looks := false }, kinds := [], alts := [], laidByText := true, laidKinds := [.data], laidTests := true, laidLooks := .later }
def MarksFurtherCardSaid : Prop := Claim7.holds Tryz.pinned (.plain (OpenSpec.ofChange marksFurtherSpec)) marksFurtherCard

/-- THE SECOND FORM's CARD OF 'partbooklaw08.ScoreFurther'. -/
def scoreFurtherUptoCard : Claim7 := { stood := { row := scoreFurtherUptoRow, standIns := [], harness := (true, "cc6068cba889bc702be7df9d40241c749401806eca4590df140c891af0a7fd90"), looks := false }, kinds := [], alts := [], laidByText := true, laidKinds := [.data], laidTests := true, laidLooks := .later }
def ScoreFurtherUptoCardSaid : Prop := Claim7.holds Tryz.pinned (.plain (OpenSpec.upto scoreFurtherSpec)) scoreFurtherUptoCard

/-- THE SECOND FORM's CARD OF 'partbooklaw11.EditionMatchesReference'. -/
def editionMatchesReferenceUptoCard : Claim7 := { stood := { row := editionMatchesReferenceUptoRow, standIns := [], harness := (true, "cc6068cba889bc702be7df9d40241c749401806eca4590df140c891af0a7fd90"), looks := false }, kinds := [], alts := [], laidByText := true, laidKinds := [.data], laidTests := true, laidLooks := .later }
def EditionMatchesReferenceUptoCardSaid : Prop := Claim7.holds Tryz.pinned (.plain (OpenSpec.upto editionMatchesReferenceSpec)) editionMatchesReferenceUptoCard

/-- THE SECOND FORM's CARD OF 'partbooklaw19.MarksMatchesReference'. -/
def marksMatchesReferenceUptoCard : Claim7 := { stood := { row := marksMatchesReferenceUptoRow, standIns := [], harness := (true, "cc6068cba889bc702be7df9d40241c749401806eca4590df140c891af0a7fd90"), looks := false }, kinds := [], alts := [], laidByText := true, laidKinds := [.data], laidTests := true, laidLooks := .later }
def MarksMatchesReferenceUptoCardSaid : Prop := Claim7.holds Tryz.pinned (.plain (OpenSpec.upto marksMatchesReferenceSpec)) marksMatchesReferenceUptoCard

/-- THE SECOND FORM's CARD OF 'partbooklaw19.MarksBefore'. -/
def marksBeforeUptoCard : Claim7 := { stood := { row := marksBeforeUptoRow, standIns := [], harness := (true, "cc6068cba889bc702be7df9d40241c749401806eca4590df140c891af0a7fd90"), looks := false }, kinds := [], alts := [], laidByText := true, laidKinds := [.data], laidTests := true, laidLooks := .later }
def MarksBeforeUptoCardSaid : Prop := Claim7.holds Tryz.pinned (.plain (OpenSpec.upto marksBeforeSpec)) marksBeforeUptoCard

/-- THE SECOND FORM's CARD OF 'partbooklaw19.MarksMeant'. -/
def marksMeantUptoCard : Claim7 := { stood := { row := marksMeantUptoRow, standIns := [], harness := (true, "cc6068cba889bc702be7df9d40241c749401806eca4590df140c891af0a7fd90"), looks := false }, kinds := [], alts := [], laidByText := true, laidKinds := [.data], laidTests := true, laidLooks := .later }
def MarksMeantUptoCardSaid : Prop := Claim7.holds Tryz.pinned (.plain (OpenSpec.upto marksMeantSpec)) marksMeantUptoCard

/-- THE SECOND FORM's CARD OF 'partbooklaw19.MarksShown'. -/
def marksShownUptoCard : Claim7 := { stood := { row := marksShownUptoRow, standIns := [], harness := (true, "cc6068cba889bc702be7df9d40241c749401806eca4590df140c891af0a7fd90"), looks := false }, kinds := [], alts := [], laidByText := true, laidKinds := [.data], laidTests := true, laidLooks := .later }
def MarksShownUptoCardSaid : Prop := Claim7.holds Tryz.pinned (.plain (OpenSpec.upto marksShownSpec)) marksShownUptoCard

/-- THE SECOND FORM's CARD OF 'partbooklaw19.MarksPrivate'. -/
def marksPrivateUptoCard : Claim7 := { stood := { row := marksPrivateUptoRow, standIns := [], harness := (true, "cc6068cba889bc702be7df9d40241c749401806eca4590df140c891af0a7fd90"), looks := false }, kinds := [], alts := [], laidByText := true, laidKinds := [.data], laidTests := true, laidLooks := .later }
def MarksPrivateUptoCardSaid : Prop := Claim7.holds Tryz.pinned (.plain (OpenSpec.upto marksPrivateSpec)) marksPrivateUptoCard

/-- THE SECOND FORM's CARD OF 'partbooklaw19.MarksFurther'. -/
def marksFurtherUptoCard : Claim7 := { stood := { row := marksFurtherUptoRow, standIns := [], harness := (true, "cc6068cba889bc702be7df9d40241c749401806eca4590df140c891af0a7fd90"), looks := false }, kinds := [], alts := [], laidByText := true, laidKinds := [.data], laidTests := true, laidLooks := .later }
def MarksFurtherUptoCardSaid : Prop := Claim7.holds Tryz.pinned (.plain (OpenSpec.upto marksFurtherSpec)) marksFurtherUptoCard
end Rows
end Go.Proofs.YthfcafcjkaemiaaGreatDoor
