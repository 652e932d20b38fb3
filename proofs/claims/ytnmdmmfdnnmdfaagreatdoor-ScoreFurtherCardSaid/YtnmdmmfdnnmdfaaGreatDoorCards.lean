/-
  DERIVED. GIVEN WITH THE SEED: THE CARDS: each row of YtnmdmmfdnnmdfaaGreatDoorRows.lean that lists a variable, with what it lists TIED to the program's text (the seventh form; the later family's looks); each row that meets fmt, with fmt's text TOLD by the authors' own Lean function (tested against real Go, not proved from fmt's source: count such statements apart). THE CARD IS WHAT COUNTS. Prove the row's statement (the work); the ties are given (YtnmdmmfdnnmdfaaGreatDoorTie.lean); close each card by the builder's one call (the guide's Derived/Test/ToyasCard.lean, 'card_holds'). Laid BY PROGRAM, IN A SANDBOX (cutbox-door.mjs). By AI agents, Wed Nov 11 2026. No macro, syntax, notation, axiom, sorry.
-/
import Derived.Test.YtnmdmmfdnnmdfaaGreatDoorRows
import GoSem.ClaimSeven
namespace Go.Proofs.YtnmdmmfdnnmdfaaGreatDoor
namespace Rows

/-- THE TIED CARD OF 'partbooklaw08.ScoreFurther'. -/
def scoreFurtherCard : Claim7 := { stood := { row := scoreFurtherRow, standIns := [], harness := (true, "0c5573628fe4d3ad00028da46c181fd4f1a839fc25beca503641a53287b96a39"), looks := false }, kinds := [], alts := [], laidByText := true, laidKinds := [.data], laidTests := true, laidLooks := .later }
def ScoreFurtherCardSaid : Prop := Claim7.holds Tryz.pinned (.plain (OpenSpec.ofChange scoreFurtherSpec)) scoreFurtherCard

/-- THE TIED CARD OF 'partbooklaw11.EditionMatchesReference'. -/
def editionMatchesReferenceCard : Claim7 := { stood := { row := editionMatchesReferenceRow, standIns := [], harness := (true, "0c5573628fe4d3ad00028da46c181fd4f1a839fc25beca503641a53287b96a39"), looks := false }, kinds := [], alts := [], laidByText := true, laidKinds := [.data], laidTests := true, laidLooks := .later }
def EditionMatchesReferenceCardSaid : Prop := Claim7.holds Tryz.pinned (.plain (OpenSpec.ofChange editionMatchesReferenceSpec)) editionMatchesReferenceCard

/-- THE SECOND FORM's CARD OF 'partbooklaw08.ScoreFurther'. -/
def scoreFurtherUptoCard : Claim7 := { stood := { row := scoreFurtherUptoRow, standIns := [], harness := (true, "0c5573628fe4d3ad00028da46c181fd4f1a839fc25beca503641a53287b96a39"), looks := false }, kinds := [], alts := [], laidByText := true, laidKinds := [.data], laidTests := true, laidLooks := .later }
def ScoreFurtherUptoCardSaid : Prop := Claim7.holds Tryz.pinned (.plain (OpenSpec.upto scoreFurtherSpec)) scoreFurtherUptoCard

/-- THE SECOND FORM's CARD OF 'partbooklaw11.EditionMatchesReference'. -/
def editionMatchesReferenceUptoCard : Claim7 := { stood := { row := editionMatchesReferenceUptoRow, standIns := [], harness := (true, "0c5573628fe4d3ad00028da46c181fd4f1a839fc25beca503641a53287b96a39"), looks := false }, kinds := [], alts := [], laidByText := true, laidKinds := [.data], laidTests := true, laidLooks := .later }
def EditionMatchesReferenceUptoCardSaid : Prop := Claim7.holds Tryz.pinned (.plain (OpenSpec.upto editionMatchesReferenceSpec)) editionMatchesReferenceUptoCard
end Rows
end Go.Proofs.YtnmdmmfdnnmdfaaGreatDoor
