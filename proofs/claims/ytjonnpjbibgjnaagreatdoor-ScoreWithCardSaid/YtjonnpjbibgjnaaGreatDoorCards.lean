/-
  DERIVED. GIVEN WITH THE SEED: THE CARDS: each row of YtjonnpjbibgjnaaGreatDoorRows.lean that lists a variable, with what it lists TIED to the program's text (the seventh form; the later family's looks); each row that meets fmt, with fmt's text TOLD by the authors' own Lean function (tested against real Go, not proved from fmt's source: count such statements apart). THE CARD IS WHAT COUNTS. Prove the row's statement (the work); the ties are given (YtjonnpjbibgjnaaGreatDoorTie.lean); close each card by the builder's one call (the guide's Derived/Test/ToyasCard.lean, 'card_holds'). Laid BY PROGRAM, IN A SANDBOX (cutbox-door.mjs). By AI agents, Wed Nov 11 2026. No macro, syntax, notation, axiom, sorry.
-/
import Derived.Test.YtjonnpjbibgjnaaGreatDoorRows
import GoSem.ClaimSeven
namespace Go.Proofs.YtjonnpjbibgjnaaGreatDoor
namespace Rows

/-- THE TIED CARD OF 'partbooklaw08.ScorePlays'. -/
def scorePlaysCard : Claim7 := { stood := { row := scorePlaysRow, standIns := [], harness := (true, "09e3ff284aa0dc4f17484b3e6215bd6846a3a6ba773ce2a44b008a879630792b"), looks := false }, kinds := [], alts := [], laidByText := true, laidKinds := [.data], laidTests := true, laidLooks := .later }
def ScorePlaysCardSaid : Prop := Claim7.holds Tryz.pinned (.plain (OpenSpec.ofChange scorePlaysSpec)) scorePlaysCard

/-- THE TIED CARD OF 'partbooklaw08.ScoreWith'. -/
def scoreWithCard : Claim7 := { stood := { row := scoreWithRow, standIns := [], harness := (true, "09e3ff284aa0dc4f17484b3e6215bd6846a3a6ba773ce2a44b008a879630792b"), looks := false }, kinds := [], alts := [], laidByText := true, laidKinds := [.data], laidTests := true, laidLooks := .later }
def ScoreWithCardSaid : Prop := Claim7.holds Tryz.pinned (.plain (OpenSpec.ofChange scoreWithSpec)) scoreWithCard

/-- THE TIED CARD OF 'partbooklaw08.ScoreFurther'. -/
def scoreFurtherCard : Claim7 := { stood := { row := scoreFurtherRow, standIns := [], harness := (true, "09e3ff284aa0dc4f17484b3e6215bd6846a3a6ba773ce2a44b008a879630792b"), looks := false }, kinds := [], alts := [], laidByText := true, laidKinds := [.data], laidTests := true, laidLooks := .later }
def ScoreFurtherCardSaid : Prop := Claim7.holds Tryz.pinned (.plain (OpenSpec.ofChange scoreFurtherSpec)) scoreFurtherCard

/-- THE TIED CARD OF 'partbooklaw08.ScoreRefuses'. -/
def scoreRefusesCard : Claim7 := { stood := { row := scoreRefusesRow, standIns := [], harness := (true, "09e3ff284aa0dc4f17484b3e6215bd6846a3a6ba773ce2a44b008a879630792b"), looks := false }, kinds := [], alts := [], laidByText := true, laidKinds := [.data], laidTests := true, laidLooks := .later }
def ScoreRefusesCardSaid : Prop := Claim7.holds Tryz.pinned (.plain (OpenSpec.ofChange scoreRefusesSpec)) scoreRefusesCard

/-- THE TIED CARD OF 'partbooklaw08.ScoreMatchesReference'. -/
def scoreMatchesReferenceCard : Claim7 := { stood := { row := scoreMatchesReferenceRow, standIns := [], harness := (true, "09e3ff284aa0dc4f17484b3e6215bd6846a3a6ba773ce2a44b008a879630792b"), looks := false }, kinds := [], alts := [], laidByText := true, laidKinds := [.data], laidTests := true, laidLooks := .later }
def ScoreMatchesReferenceCardSaid : Prop := Claim7.holds Tryz.pinned (.plain (OpenSpec.ofChange scoreMatchesReferenceSpec)) scoreMatchesReferenceCard

/-- THE TIED CARD OF 'partbooklaw08.ScoreFinds'. -/
def scoreFindsCard : Claim7 := { stood := { row := scoreFindsRow, standIns := [], harness := (true, "09e3ff284aa0dc4f17484b3e6215bd6846a3a6ba773ce2a44b008a879630792b"), looks := false }, kinds := [], alts := [], laidByText := true, laidKinds := [.data], laidTests := true, laidLooks := .later }
def ScoreFindsCardSaid : Prop := Claim7.holds Tryz.pinned (.plain (OpenSpec.ofChange scoreFindsSpec)) scoreFindsCard

/-- THE SECOND FORM's CARD OF 'partbooklaw08.ScorePlays'. -/
def scorePlaysUptoCard : Claim7 := { stood := { row := scorePlaysUptoRow, standIns := [], harness := (true, "09e3ff284aa0dc4f17484b3e6215bd6846a3a6ba773ce2a44b008a879630792b"), looks := false }, kinds := [], alts := [], laidByText := true, laidKinds := [.data], laidTests := true, laidLooks := .later }
def ScorePlaysUptoCardSaid : Prop := Claim7.holds Tryz.pinned (.plain (OpenSpec.upto scorePlaysSpec)) scorePlaysUptoCard

/-- THE SECOND FORM's CARD OF 'partbooklaw08.ScoreWith'. -/
def scoreWithUptoCard : Claim7 := { stood := { row := scoreWithUptoRow, standIns := [], harness := (true, "09e3ff284aa0dc4f17484b3e6215bd6846a3a6ba773ce2a44b008a879630792b"), looks := false }, kinds := [], alts := [], laidByText := true, laidKinds := [.data], laidTests := true, laidLooks := .later }
def ScoreWithUptoCardSaid : Prop := Claim7.holds Tryz.pinned (.plain (OpenSpec.upto scoreWithSpec)) scoreWithUptoCard

/-- THE SECOND FORM's CARD OF 'partbooklaw08.ScoreFurther'. -/
def scoreFurtherUptoCard : Claim7 := { stood := { row := scoreFurtherUptoRow, standIns := [], harness := (true, "09e3ff284aa0dc4f17484b3e6215bd6846a3a6ba773ce2a44b008a879630792b"), looks := false }, kinds := [], alts := [], laidByText := true, laidKinds := [.data], laidTests := true, laidLooks := .later }
def ScoreFurtherUptoCardSaid : Prop := Claim7.holds Tryz.pinned (.plain (OpenSpec.upto scoreFurtherSpec)) scoreFurtherUptoCard

/-- THE SECOND FORM's CARD OF 'partbooklaw08.ScoreRefuses'. -/
def scoreRefusesUptoCard : Claim7 := { stood := { row := scoreRefusesUptoRow, standIns := [], harness := (true, "09e3ff284aa0dc4f17484b3e6215bd6846a3a6ba773ce2a44b008a879630792b"), looks := false }, kinds := [], alts := [], laidByText := true, laidKinds := [.data], laidTests := true, laidLooks := .later }
def ScoreRefusesUptoCardSaid : Prop := Claim7.holds Tryz.pinned (.plain (OpenSpec.upto scoreRefusesSpec)) scoreRefusesUptoCard

/-- THE SECOND FORM's CARD OF 'partbooklaw08.ScoreMatchesReference'. -/
def scoreMatchesReferenceUptoCard : Claim7 := { stood := { row := scoreMatchesReferenceUptoRow, standIns := [], harness := (true, "09e3ff284aa0dc4f17484b3e6215bd6846a3a6ba773ce2a44b008a879630792b"), looks := false }, kinds := [], alts := [], laidByText := true, laidKinds := [.data], laidTests := true, laidLooks := .later }
def ScoreMatchesReferenceUptoCardSaid : Prop := Claim7.holds Tryz.pinned (.plain (OpenSpec.upto scoreMatchesReferenceSpec)) scoreMatchesReferenceUptoCard

/-- THE SECOND FORM's CARD OF 'partbooklaw08.ScoreFinds'. -/
def scoreFindsUptoCard : Claim7 := { stood := { row := scoreFindsUptoRow, standIns := [], harness := (true, "09e3ff284aa0dc4f17484b3e6215bd6846a3a6ba773ce2a44b008a879630792b"), looks := false }, kinds := [], alts := [], laidByText := true, laidKinds := [.data], laidTests := true, laidLooks := .later }
def ScoreFindsUptoCardSaid : Prop := Claim7.holds Tryz.pinned (.plain (OpenSpec.upto scoreFindsSpec)) scoreFindsUptoCard
end Rows
end Go.Proofs.YtjonnpjbibgjnaaGreatDoor
