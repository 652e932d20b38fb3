/-
  DERIVED. GIVEN WITH THE SEED: THE CARDS: each row of YtnmdmmfdnnmdfaaDoorRows.lean that lists a variable, with what it lists TIED to the program's text (the seventh form; the later family's looks); each row that meets fmt, with fmt's text TOLD by the authors' own Lean function (tested against real Go, not proved from fmt's source: count such statements apart). THE CARD IS WHAT COUNTS. Prove the row's statement (the work); the ties are given (YtnmdmmfdnnmdfaaDoorTie.lean); close each card by the builder's one call (the guide's Derived/Test/ToyasCard.lean, 'card_holds'). Laid BY PROGRAM, IN A SANDBOX (cutbox-door.mjs). By AI agents, Wed Nov 11 2026. No macro, syntax, notation, axiom, sorry.
-/
import Derived.Test.YtnmdmmfdnnmdfaaDoorRows
import GoSem.ClaimSeven
namespace Go.Proofs.YtnmdmmfdnnmdfaaDoor
namespace Rows

/-- THE TIED CARD OF 'partbooklaw11.EditionValid'. -/
def editionValidCard : Claim7 := { stood := { row := editionValidRow, standIns := [], harness := (true, "b40f1e23d0ad135253e223b0e3c0c900f0fa0e68c3e5bf08bbd9f08888e9fcf2"), looks := false }, kinds := [], alts := [], laidByText := true, laidKinds := [.data], laidTests := true, laidLooks := .later }
def EditionValidCardSaid : Prop := Claim7.holds Tryd.pinned (.plain (OpenSpec.ofChange editionValidSpec)) editionValidCard

/-- THE TIED CARD OF 'partbooklaw07.NotesMatchesReference'. -/
def notesMatchesReferenceCard : Claim7 := { stood := { row := notesMatchesReferenceRow, standIns := [], harness := (true, "b40f1e23d0ad135253e223b0e3c0c900f0fa0e68c3e5bf08bbd9f08888e9fcf2"), looks := false }, kinds := [], alts := [], laidByText := true, laidKinds := [.data], laidTests := true, laidLooks := .later }
def NotesMatchesReferenceCardSaid : Prop := Claim7.holds Tryd.pinned (.plain (OpenSpec.ofChange notesMatchesReferenceSpec)) notesMatchesReferenceCard

/-- THE TIED CARD OF 'partbooklaw07.NotesOrder'. -/
def notesOrderCard : Claim7 := { stood := { row := notesOrderRow, standIns := [], harness := (true, "b40f1e23d0ad135253e223b0e3c0c900f0fa0e68c3e5bf08bbd9f08888e9fcf2"), looks := false }, kinds := [], alts := [], laidByText := true, laidKinds := [.data], laidTests := true, laidLooks := .later }
def NotesOrderCardSaid : Prop := Claim7.holds Tryd.pinned (.plain (OpenSpec.ofChange notesOrderSpec)) notesOrderCard

/-- THE TIED CARD OF 'partbooklaw07.NotesBars'. -/
def notesBarsCard : Claim7 := { stood := { row := notesBarsRow, standIns := [], harness := (true, "b40f1e23d0ad135253e223b0e3c0c900f0fa0e68c3e5bf08bbd9f08888e9fcf2"), looks := false }, kinds := [], alts := [], laidByText := true, laidKinds := [.data], laidTests := true, laidLooks := .later }
def NotesBarsCardSaid : Prop := Claim7.holds Tryd.pinned (.plain (OpenSpec.ofChange notesBarsSpec)) notesBarsCard

/-- THE TIED CARD OF 'partbooklaw07.NotesPlay'. -/
def notesPlayCard : Claim7 := { stood := { row := notesPlayRow, standIns := [], harness := (true, "b40f1e23d0ad135253e223b0e3c0c900f0fa0e68c3e5bf08bbd9f08888e9fcf2"), looks := false }, kinds := [], alts := [], laidByText := true, laidKinds := [.data], laidTests := true, laidLooks := .later }
def NotesPlayCardSaid : Prop := Claim7.holds Tryd.pinned (.plain (OpenSpec.ofChange notesPlaySpec)) notesPlayCard

/-- THE TIED CARD OF 'partbooklaw07.NotesFewer'. -/
def notesFewerCard : Claim7 := { stood := { row := notesFewerRow, standIns := [], harness := (true, "b40f1e23d0ad135253e223b0e3c0c900f0fa0e68c3e5bf08bbd9f08888e9fcf2"), looks := false }, kinds := [], alts := [], laidByText := true, laidKinds := [.data], laidTests := true, laidLooks := .later }
def NotesFewerCardSaid : Prop := Claim7.holds Tryd.pinned (.plain (OpenSpec.ofChange notesFewerSpec)) notesFewerCard

/-- THE TIED CARD OF 'partbooklaw07.NotesOthers'. -/
def notesOthersCard : Claim7 := { stood := { row := notesOthersRow, standIns := [], harness := (true, "b40f1e23d0ad135253e223b0e3c0c900f0fa0e68c3e5bf08bbd9f08888e9fcf2"), looks := false }, kinds := [], alts := [], laidByText := true, laidKinds := [.data], laidTests := true, laidLooks := .later }
def NotesOthersCardSaid : Prop := Claim7.holds Tryd.pinned (.plain (OpenSpec.ofChange notesOthersSpec)) notesOthersCard

/-- THE SECOND FORM's CARD OF 'partbooklaw11.EditionValid'. -/
def editionValidUptoCard : Claim7 := { stood := { row := editionValidUptoRow, standIns := [], harness := (true, "b40f1e23d0ad135253e223b0e3c0c900f0fa0e68c3e5bf08bbd9f08888e9fcf2"), looks := false }, kinds := [], alts := [], laidByText := true, laidKinds := [.data], laidTests := true, laidLooks := .later }
def EditionValidUptoCardSaid : Prop := Claim7.holds Tryd.pinned (.plain (OpenSpec.upto editionValidSpec)) editionValidUptoCard

/-- THE SECOND FORM's CARD OF 'partbooklaw07.NotesMatchesReference'. -/
def notesMatchesReferenceUptoCard : Claim7 := { stood := { row := notesMatchesReferenceUptoRow, standIns := [], harness := (true, "b40f1e23d0ad135253e223b0e3c0c900f0fa0e68c3e5bf08bbd9f08888e9fcf2"), looks := false }, kinds := [], alts := [], laidByText := true, laidKinds := [.data], laidTests := true, laidLooks := .later }
def NotesMatchesReferenceUptoCardSaid : Prop := Claim7.holds Tryd.pinned (.plain (OpenSpec.upto notesMatchesReferenceSpec)) notesMatchesReferenceUptoCard

/-- THE SECOND FORM's CARD OF 'partbooklaw07.NotesOrder'. -/
def notesOrderUptoCard : Claim7 := { stood := { row := notesOrderUptoRow, standIns := [], harness := (true, "b40f1e23d0ad135253e223b0e3c0c900f0fa0e68c3e5bf08bbd9f08888e9fcf2"), looks := false }, kinds := [], alts := [], laidByText := true, laidKinds := [.data], laidTests := true, laidLooks := .later }
def NotesOrderUptoCardSaid : Prop := Claim7.holds Tryd.pinned (.plain (OpenSpec.upto notesOrderSpec)) notesOrderUptoCard

/-- THE SECOND FORM's CARD OF 'partbooklaw07.NotesBars'. -/
def notesBarsUptoCard : Claim7 := { stood := { row := notesBarsUptoRow, standIns := [], harness := (true, "b40f1e23d0ad135253e223b0e3c0c900f0fa0e68c3e5bf08bbd9f08888e9fcf2"), looks := false }, kinds := [], alts := [], laidByText := true, laidKinds := [.data], laidTests := true, laidLooks := .later }
def NotesBarsUptoCardSaid : Prop := Claim7.holds Tryd.pinned (.plain (OpenSpec.upto notesBarsSpec)) notesBarsUptoCard

/-- THE SECOND FORM's CARD OF 'partbooklaw07.NotesPlay'. -/
def notesPlayUptoCard : Claim7 := { stood := { row := notesPlayUptoRow, standIns := [], harness := (true, "b40f1e23d0ad135253e223b0e3c0c900f0fa0e68c3e5bf08bbd9f08888e9fcf2"), looks := false }, kinds := [], alts := [], laidByText := true, laidKinds := [.data], laidTests := true, laidLooks := .later }
def NotesPlayUptoCardSaid : Prop := Claim7.holds Tryd.pinned (.plain (OpenSpec.upto notesPlaySpec)) notesPlayUptoCard

/-- THE SECOND FORM's CARD OF 'partbooklaw07.NotesFewer'. -/
def notesFewerUptoCard : Claim7 := { stood := { row := notesFewerUptoRow, standIns := [], harness := (true, "b40f1e23d0ad135253e223b0e3c0c900f0fa0e68c3e5bf08bbd9f08888e9fcf2"), looks := false }, kinds := [], alts := [], laidByText := true, laidKinds := [.data], laidTests := true, laidLooks := .later }
def NotesFewerUptoCardSaid : Prop := Claim7.holds Tryd.pinned (.plain (OpenSpec.upto notesFewerSpec)) notesFewerUptoCard

/-- THE SECOND FORM's CARD OF 'partbooklaw07.NotesOthers'. -/
def notesOthersUptoCard : Claim7 := { stood := { row := notesOthersUptoRow, standIns := [], harness := (true, "b40f1e23d0ad135253e223b0e3c0c900f0fa0e68c3e5bf08bbd9f08888e9fcf2"), looks := false }, kinds := [], alts := [], laidByText := true, laidKinds := [.data], laidTests := true, laidLooks := .later }
def NotesOthersUptoCardSaid : Prop := Claim7.holds Tryd.pinned (.plain (OpenSpec.upto notesOthersSpec)) notesOthersUptoCard
end Rows
end Go.Proofs.YtnmdmmfdnnmdfaaDoor
