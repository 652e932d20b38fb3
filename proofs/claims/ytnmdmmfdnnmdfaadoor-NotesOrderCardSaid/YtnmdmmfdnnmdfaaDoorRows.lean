/-
  NARROWER THAN 'FOR EVERY INPUT', by the rows' own cells (each row's printed sentence says how): EditionValid: laid · NotesMatchesReference: laid · NotesOrder: laid · NotesBars: laid · NotesPlay: laid · NotesFewer: laid · NotesOthers: laid.
  DERIVED. THE GIVEN ROWS OF THIS SEAT. 7 by the template 'for every input the law returns true; each argument reads behind the call as it read before'; 0 by the template 'total and deterministic' (their statements: YtnmdmmfdnnmdfaaDoorTotals.lean).
  GIVEN WITH THE SEED: the statements are not yours to turn. If you find one false, say at which input.
  Laid BY PROGRAM, IN A SANDBOX (cutbox-rows.mjs): the forced cells as the released guide's own fill.sh prints them over the translation 6fab8c4c844c2a1c… (all of the seat's roots in one cut). By AI agents, Wed Nov 11 2026. No macro, syntax, notation, axiom, sorry.
-/
import Derived.Test.YtnmdmmfdnnmdfaaDoorChecked
import GoSem.Claim
import GoSem.ClaimJoined
import GoSem.ClaimMapViews
import Derived.JoinedTies
import Derived.KernelRfl
namespace Go.Proofs.YtnmdmmfdnnmdfaaDoor
/- THE CELL 'sum', in the pinned program and in every row, IS THE sha256 OF THE DUMP (.gsa) THAT YtnmdmmfdnnmdfaaDoorProg.lean LOADS. Nothing in Lean hashes anything: it is a label: what it is worth is what the hold of that sum in a sandbox is worth. -/
noncomputable def Tryd.pinned : Pinned := { name := "ytnmdmmfdnnmdfaadoor", sum := "6fab8c4c844c2a1ccfe258e049e23228a0f1163575d49c648457c60b7a838e4c", checked := Tryd.checked }
namespace Rows
def none {H : Type} : Left H := { results := [], args := [] }

/- WHAT THE LISTED PACKAGE-LEVEL VARIABLES READ AS WHEN THE CALL BEGINS. Each datum BY PROGRAM (the guide's laid-datum.mjs) off the statement by which the dump's own 'gosem.cut.vars' lays the variable. In a bare row this is a premise. The card (YtnmdmmfdnnmdfaaDoorCards.lean) ties it to the program's text. -/
def laid_partbook_pitch_naturals {H : Type} : DataW H := .agg [.lit (.int .i64 0), .lit (.int .i64 2), .lit (.int .i64 4), .lit (.int .i64 5), .lit (.int .i64 7), .lit (.int .i64 9), .lit (.int .i64 11)]

/-- 'partbooklaw11.EditionValid': WHATEVER THE INPUT: true; the input reads as it did. -/
def editionValidSpec : ChangeSpec := { name := "editionValid", fn := fun _ => fun
  | [d1, d2, d3, d4] => { results := [.lit (.bool true)], args := [d1, d2, d3, d4] }
  | _ => none }
def editionValidRow : OpenClaim := { program := "ytnmdmmfdnnmdfaadoor", sum := "6fab8c4c844c2a1ccfe258e049e23228a0f1163575d49c648457c60b7a838e4c", func := "partbook/partbooklaw11.EditionValid", spec := "editionValid", unfollowed := true, recurses := true, named := ["partbook/pitch.naturals"], apart := false, laid := [("partbook/pitch.naturals", laid_partbook_pitch_naturals)] }
def EditionValidSaid : Prop := editionValidRow.holds Tryd.pinned (OpenSpec.ofChange editionValidSpec)

/-- ITS FALSE NEIGHBOUR: 'it returns false'. Refute it at one input. -/
def editionValidWrong : ChangeSpec := { name := "editionValid", fn := fun _ => fun
  | [d1, d2, d3, d4] => { results := [.lit (.bool false)], args := [d1, d2, d3, d4] }
  | _ => none }
def EditionValidWrongFalsely : Prop := editionValidRow.holds Tryd.pinned (OpenSpec.ofChange editionValidWrong)

/-- 'partbooklaw07.NotesMatchesReference': WHATEVER THE INPUT: true; the input reads as it did. -/
def notesMatchesReferenceSpec : ChangeSpec := { name := "notesMatchesReference", fn := fun _ => fun
  | [d1, d2, d3, d4] => { results := [.lit (.bool true)], args := [d1, d2, d3, d4] }
  | _ => none }
def notesMatchesReferenceRow : OpenClaim := { program := "ytnmdmmfdnnmdfaadoor", sum := "6fab8c4c844c2a1ccfe258e049e23228a0f1163575d49c648457c60b7a838e4c", func := "partbook/partbooklaw07.NotesMatchesReference", spec := "notesMatchesReference", unfollowed := true, recurses := true, named := ["partbook/pitch.naturals"], apart := false, laid := [("partbook/pitch.naturals", laid_partbook_pitch_naturals)] }
def NotesMatchesReferenceSaid : Prop := notesMatchesReferenceRow.holds Tryd.pinned (OpenSpec.ofChange notesMatchesReferenceSpec)

/-- ITS FALSE NEIGHBOUR: 'it returns false'. Refute it at one input. -/
def notesMatchesReferenceWrong : ChangeSpec := { name := "notesMatchesReference", fn := fun _ => fun
  | [d1, d2, d3, d4] => { results := [.lit (.bool false)], args := [d1, d2, d3, d4] }
  | _ => none }
def NotesMatchesReferenceWrongFalsely : Prop := notesMatchesReferenceRow.holds Tryd.pinned (OpenSpec.ofChange notesMatchesReferenceWrong)

/-- 'partbooklaw07.NotesOrder': WHATEVER THE INPUT: true; the input reads as it did. -/
def notesOrderSpec : ChangeSpec := { name := "notesOrder", fn := fun _ => fun
  | [d1, d2, d3] => { results := [.lit (.bool true)], args := [d1, d2, d3] }
  | _ => none }
def notesOrderRow : OpenClaim := { program := "ytnmdmmfdnnmdfaadoor", sum := "6fab8c4c844c2a1ccfe258e049e23228a0f1163575d49c648457c60b7a838e4c", func := "partbook/partbooklaw07.NotesOrder", spec := "notesOrder", unfollowed := true, recurses := true, named := ["partbook/pitch.naturals"], apart := false, laid := [("partbook/pitch.naturals", laid_partbook_pitch_naturals)] }
def NotesOrderSaid : Prop := notesOrderRow.holds Tryd.pinned (OpenSpec.ofChange notesOrderSpec)

/-- ITS FALSE NEIGHBOUR: 'it returns false'. Refute it at one input. -/
def notesOrderWrong : ChangeSpec := { name := "notesOrder", fn := fun _ => fun
  | [d1, d2, d3] => { results := [.lit (.bool false)], args := [d1, d2, d3] }
  | _ => none }
def NotesOrderWrongFalsely : Prop := notesOrderRow.holds Tryd.pinned (OpenSpec.ofChange notesOrderWrong)

/-- 'partbooklaw07.NotesBars': WHATEVER THE INPUT: true; the input reads as it did. -/
def notesBarsSpec : ChangeSpec := { name := "notesBars", fn := fun _ => fun
  | [d1, d2] => { results := [.lit (.bool true)], args := [d1, d2] }
  | _ => none }
def notesBarsRow : OpenClaim := { program := "ytnmdmmfdnnmdfaadoor", sum := "6fab8c4c844c2a1ccfe258e049e23228a0f1163575d49c648457c60b7a838e4c", func := "partbook/partbooklaw07.NotesBars", spec := "notesBars", unfollowed := true, recurses := true, named := ["partbook/pitch.naturals"], apart := false, laid := [("partbook/pitch.naturals", laid_partbook_pitch_naturals)] }
def NotesBarsSaid : Prop := notesBarsRow.holds Tryd.pinned (OpenSpec.ofChange notesBarsSpec)

/-- ITS FALSE NEIGHBOUR: 'it returns false'. Refute it at one input. -/
def notesBarsWrong : ChangeSpec := { name := "notesBars", fn := fun _ => fun
  | [d1, d2] => { results := [.lit (.bool false)], args := [d1, d2] }
  | _ => none }
def NotesBarsWrongFalsely : Prop := notesBarsRow.holds Tryd.pinned (OpenSpec.ofChange notesBarsWrong)

/-- 'partbooklaw07.NotesPlay': WHATEVER THE INPUT: true; the input reads as it did. -/
def notesPlaySpec : ChangeSpec := { name := "notesPlay", fn := fun _ => fun
  | [d1, d2, d3, d4, d5] => { results := [.lit (.bool true)], args := [d1, d2, d3, d4, d5] }
  | _ => none }
def notesPlayRow : OpenClaim := { program := "ytnmdmmfdnnmdfaadoor", sum := "6fab8c4c844c2a1ccfe258e049e23228a0f1163575d49c648457c60b7a838e4c", func := "partbook/partbooklaw07.NotesPlay", spec := "notesPlay", unfollowed := true, recurses := true, named := ["partbook/pitch.naturals"], apart := false, laid := [("partbook/pitch.naturals", laid_partbook_pitch_naturals)] }
def NotesPlaySaid : Prop := notesPlayRow.holds Tryd.pinned (OpenSpec.ofChange notesPlaySpec)

/-- ITS FALSE NEIGHBOUR: 'it returns false'. Refute it at one input. -/
def notesPlayWrong : ChangeSpec := { name := "notesPlay", fn := fun _ => fun
  | [d1, d2, d3, d4, d5] => { results := [.lit (.bool false)], args := [d1, d2, d3, d4, d5] }
  | _ => none }
def NotesPlayWrongFalsely : Prop := notesPlayRow.holds Tryd.pinned (OpenSpec.ofChange notesPlayWrong)

/-- 'partbooklaw07.NotesFewer': WHATEVER THE INPUT: true; the input reads as it did. -/
def notesFewerSpec : ChangeSpec := { name := "notesFewer", fn := fun _ => fun
  | [d1, d2, d3, d4] => { results := [.lit (.bool true)], args := [d1, d2, d3, d4] }
  | _ => none }
def notesFewerRow : OpenClaim := { program := "ytnmdmmfdnnmdfaadoor", sum := "6fab8c4c844c2a1ccfe258e049e23228a0f1163575d49c648457c60b7a838e4c", func := "partbook/partbooklaw07.NotesFewer", spec := "notesFewer", unfollowed := true, recurses := true, named := ["partbook/pitch.naturals"], apart := false, laid := [("partbook/pitch.naturals", laid_partbook_pitch_naturals)] }
def NotesFewerSaid : Prop := notesFewerRow.holds Tryd.pinned (OpenSpec.ofChange notesFewerSpec)

/-- ITS FALSE NEIGHBOUR: 'it returns false'. Refute it at one input. -/
def notesFewerWrong : ChangeSpec := { name := "notesFewer", fn := fun _ => fun
  | [d1, d2, d3, d4] => { results := [.lit (.bool false)], args := [d1, d2, d3, d4] }
  | _ => none }
def NotesFewerWrongFalsely : Prop := notesFewerRow.holds Tryd.pinned (OpenSpec.ofChange notesFewerWrong)

/-- 'partbooklaw07.NotesOthers': WHATEVER THE INPUT: true; the input reads as it did. -/
def notesOthersSpec : ChangeSpec := { name := "notesOthers", fn := fun _ => fun
  | [d1, d2, d3, d4, d5] => { results := [.lit (.bool true)], args := [d1, d2, d3, d4, d5] }
  | _ => none }
def notesOthersRow : OpenClaim := { program := "ytnmdmmfdnnmdfaadoor", sum := "6fab8c4c844c2a1ccfe258e049e23228a0f1163575d49c648457c60b7a838e4c", func := "partbook/partbooklaw07.NotesOthers", spec := "notesOthers", unfollowed := true, recurses := true, named := ["partbook/pitch.naturals"], apart := false, laid := [("partbook/pitch.naturals", laid_partbook_pitch_naturals)] }
def NotesOthersSaid : Prop := notesOthersRow.holds Tryd.pinned (OpenSpec.ofChange notesOthersSpec)

/-- ITS FALSE NEIGHBOUR: 'it returns false'. Refute it at one input. -/
def notesOthersWrong : ChangeSpec := { name := "notesOthers", fn := fun _ => fun
  | [d1, d2, d3, d4, d5] => { results := [.lit (.bool false)], args := [d1, d2, d3, d4, d5] }
  | _ => none }
def NotesOthersWrongFalsely : Prop := notesOthersRow.holds Tryd.pinned (OpenSpec.ofChange notesOthersWrong)

/- THE SECOND FORM. 'bulk': how many values and letters a reading holds, each counted each time it is reached (what is shared counts as often as it is met; a slice's spare places count too). A statement '..UptoSaid' is the law's where the arguments, and the package variables that the reading takes, are together of bulk at most 1048576: NARROWER than '..Said'. Prove '..Said' where nothing that the law and all that it calls make is longer than what came in: it says more and counts as full. Else prove '..UptoSaid'. A law counts once. -/
mutual
def uptoBulk {H : Type} : DataW H → Nat
  | .lit (.string bytes) => bytes.length + 1
  | .lit _ => 1
  | .nil => 1
  | .ptr d => uptoBulk d + 1
  | .slice elems spare => uptoBulkAll elems + uptoBulkAll spare + 1
  | .agg parts => uptoBulkAll parts + 1
  | .iface _ d => uptoBulk d + 1
  | .map entries => uptoBulkEntries entries + 1
  | .held _ => 1
def uptoBulkAll {H : Type} : List (DataW H) → Nat
  | [] => 0
  | d :: r => uptoBulk d + uptoBulkAll r
def uptoBulkEntries {H : Type} : List (Lit × DataW H) → Nat
  | [] => 0
  | x :: r => uptoBulkEntry x + uptoBulkEntries r
def uptoBulkEntry {H : Type} : Lit × DataW H → Nat
  | (.string bytes, d) => bytes.length + uptoBulk d + 1
  | (_, d) => uptoBulk d + 1
 end
def uptoSmall : (H : Type) → List (DataW H) → Bool := fun _ ds => decide (uptoBulkAll ds ≤ 1048576)
def OpenSpec.upto (s : _root_.Go.ChangeSpec) : _root_.Go.OpenSpec := { _root_.Go.OpenSpec.ofChange s with cond := some uptoSmall }

/-- 'partbooklaw11.EditionValid', WHERE WHAT IT READS IS OF BULK AT MOST 1048576: true; the input reads as it did. -/
def editionValidUptoRow : OpenClaim := { program := "ytnmdmmfdnnmdfaadoor", sum := "6fab8c4c844c2a1ccfe258e049e23228a0f1163575d49c648457c60b7a838e4c", func := "partbook/partbooklaw11.EditionValid", spec := "editionValid", unfollowed := true, recurses := true, named := ["partbook/pitch.naturals"], apart := false, laid := [("partbook/pitch.naturals", laid_partbook_pitch_naturals)], narrowed := true }
def EditionValidUptoSaid : Prop := editionValidUptoRow.holds Tryd.pinned (OpenSpec.upto editionValidSpec)

/-- 'partbooklaw07.NotesMatchesReference', WHERE WHAT IT READS IS OF BULK AT MOST 1048576: true; the input reads as it did. -/
def notesMatchesReferenceUptoRow : OpenClaim := { program := "ytnmdmmfdnnmdfaadoor", sum := "6fab8c4c844c2a1ccfe258e049e23228a0f1163575d49c648457c60b7a838e4c", func := "partbook/partbooklaw07.NotesMatchesReference", spec := "notesMatchesReference", unfollowed := true, recurses := true, named := ["partbook/pitch.naturals"], apart := false, laid := [("partbook/pitch.naturals", laid_partbook_pitch_naturals)], narrowed := true }
def NotesMatchesReferenceUptoSaid : Prop := notesMatchesReferenceUptoRow.holds Tryd.pinned (OpenSpec.upto notesMatchesReferenceSpec)

/-- 'partbooklaw07.NotesOrder', WHERE WHAT IT READS IS OF BULK AT MOST 1048576: true; the input reads as it did. -/
def notesOrderUptoRow : OpenClaim := { program := "ytnmdmmfdnnmdfaadoor", sum := "6fab8c4c844c2a1ccfe258e049e23228a0f1163575d49c648457c60b7a838e4c", func := "partbook/partbooklaw07.NotesOrder", spec := "notesOrder", unfollowed := true, recurses := true, named := ["partbook/pitch.naturals"], apart := false, laid := [("partbook/pitch.naturals", laid_partbook_pitch_naturals)], narrowed := true }
def NotesOrderUptoSaid : Prop := notesOrderUptoRow.holds Tryd.pinned (OpenSpec.upto notesOrderSpec)

/-- 'partbooklaw07.NotesBars', WHERE WHAT IT READS IS OF BULK AT MOST 1048576: true; the input reads as it did. -/
def notesBarsUptoRow : OpenClaim := { program := "ytnmdmmfdnnmdfaadoor", sum := "6fab8c4c844c2a1ccfe258e049e23228a0f1163575d49c648457c60b7a838e4c", func := "partbook/partbooklaw07.NotesBars", spec := "notesBars", unfollowed := true, recurses := true, named := ["partbook/pitch.naturals"], apart := false, laid := [("partbook/pitch.naturals", laid_partbook_pitch_naturals)], narrowed := true }
def NotesBarsUptoSaid : Prop := notesBarsUptoRow.holds Tryd.pinned (OpenSpec.upto notesBarsSpec)

/-- 'partbooklaw07.NotesPlay', WHERE WHAT IT READS IS OF BULK AT MOST 1048576: true; the input reads as it did. -/
def notesPlayUptoRow : OpenClaim := { program := "ytnmdmmfdnnmdfaadoor", sum := "6fab8c4c844c2a1ccfe258e049e23228a0f1163575d49c648457c60b7a838e4c", func := "partbook/partbooklaw07.NotesPlay", spec := "notesPlay", unfollowed := true, recurses := true, named := ["partbook/pitch.naturals"], apart := false, laid := [("partbook/pitch.naturals", laid_partbook_pitch_naturals)], narrowed := true }
def NotesPlayUptoSaid : Prop := notesPlayUptoRow.holds Tryd.pinned (OpenSpec.upto notesPlaySpec)

/-- 'partbooklaw07.NotesFewer', WHERE WHAT IT READS IS OF BULK AT MOST 1048576: true; the input reads as it did. -/
def notesFewerUptoRow : OpenClaim := { program := "ytnmdmmfdnnmdfaadoor", sum := "6fab8c4c844c2a1ccfe258e049e23228a0f1163575d49c648457c60b7a838e4c", func := "partbook/partbooklaw07.NotesFewer", spec := "notesFewer", unfollowed := true, recurses := true, named := ["partbook/pitch.naturals"], apart := false, laid := [("partbook/pitch.naturals", laid_partbook_pitch_naturals)], narrowed := true }
def NotesFewerUptoSaid : Prop := notesFewerUptoRow.holds Tryd.pinned (OpenSpec.upto notesFewerSpec)

/-- 'partbooklaw07.NotesOthers', WHERE WHAT IT READS IS OF BULK AT MOST 1048576: true; the input reads as it did. -/
def notesOthersUptoRow : OpenClaim := { program := "ytnmdmmfdnnmdfaadoor", sum := "6fab8c4c844c2a1ccfe258e049e23228a0f1163575d49c648457c60b7a838e4c", func := "partbook/partbooklaw07.NotesOthers", spec := "notesOthers", unfollowed := true, recurses := true, named := ["partbook/pitch.naturals"], apart := false, laid := [("partbook/pitch.naturals", laid_partbook_pitch_naturals)], narrowed := true }
def NotesOthersUptoSaid : Prop := notesOthersUptoRow.holds Tryd.pinned (OpenSpec.upto notesOthersSpec)

end Rows
end Go.Proofs.YtnmdmmfdnnmdfaaDoor
