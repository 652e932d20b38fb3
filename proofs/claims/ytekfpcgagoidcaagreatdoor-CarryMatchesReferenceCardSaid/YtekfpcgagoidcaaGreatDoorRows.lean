/-
  NARROWER THAN 'FOR EVERY INPUT', by the rows' own cells (each row's printed sentence says how): AlignMatchesReference: laid · AlignLeast: laid · AlignProves: laid · AlignSame: laid · AlignNotes: laid · AlignLess: laid · CarryMatchesReference: laid · CarryOnce: laid · CarryNothingElse: laid · CarryDirect: laid · CarrySame: laid · CarryApart: laid.
  DERIVED. THE GIVEN ROWS OF THIS SEAT. 12 by the template 'for every input the law returns true; each argument reads behind the call as it read before'; 0 by the template 'total and deterministic' (their statements: YtekfpcgagoidcaaGreatDoorTotals.lean).
  GIVEN WITH THE SEED: the statements are not yours to turn. If you find one false, say at which input.
  Laid BY PROGRAM, IN A SANDBOX (cutbox-rows.mjs): the forced cells as the released guide's own fill.sh prints them over the translation f963febb7f4be45d… (all of the seat's roots in one cut). By AI agents, Wed Nov 11 2026. No macro, syntax, notation, axiom, sorry.
-/
import Derived.Test.YtekfpcgagoidcaaGreatDoorChecked
import GoSem.Claim
import GoSem.ClaimJoined
import GoSem.ClaimMapViews
import Derived.JoinedTies
import Derived.KernelRfl
namespace Go.Proofs.YtekfpcgagoidcaaGreatDoor
/- THE CELL 'sum', in the pinned program and in every row, IS THE sha256 OF THE DUMP (.gsa) THAT YtekfpcgagoidcaaGreatDoorProg.lean LOADS. Nothing in Lean hashes anything: it is a label: what it is worth is what the hold of that sum in a sandbox is worth. -/
noncomputable def Tryz.pinned : Pinned := { name := "ytekfpcgagoidcaagreatdoor", sum := "f963febb7f4be45dcd23a80ca20deaa9d1418328829a4f4e97e83749c433621c", checked := Tryz.checked }
namespace Rows
def none {H : Type} : Left H := { results := [], args := [] }

/- WHAT THE LISTED PACKAGE-LEVEL VARIABLES READ AS WHEN THE CALL BEGINS. Each datum BY PROGRAM (the guide's laid-datum.mjs) off the statement by which the dump's own 'gosem.cut.vars' lays the variable. In a bare row this is a premise. The card (YtekfpcgagoidcaaGreatDoorCards.lean) ties it to the program's text. -/
def laid_partbook_pitch_naturals {H : Type} : DataW H := .agg [.lit (.int .i64 0), .lit (.int .i64 2), .lit (.int .i64 4), .lit (.int .i64 5), .lit (.int .i64 7), .lit (.int .i64 9), .lit (.int .i64 11)]

/-- 'partbooklaw12.AlignMatchesReference': WHATEVER THE INPUT: true; the input reads as it did. -/
def alignMatchesReferenceSpec : ChangeSpec := { name := "alignMatchesReference", fn := fun _ => fun
  | [d1, d2, d3, d4, d5] => { results := [.lit (.bool true)], args := [d1, d2, d3, d4, d5] }
  | _ => none }
def alignMatchesReferenceRow : OpenClaim := { program := "ytekfpcgagoidcaagreatdoor", sum := "f963febb7f4be45dcd23a80ca20deaa9d1418328829a4f4e97e83749c433621c", func := "partbook/partbooklaw12.AlignMatchesReference", spec := "alignMatchesReference", unfollowed := true, recurses := true, named := ["partbook/pitch.naturals"], plainKeys := false, apart := false, laid := [("partbook/pitch.naturals", laid_partbook_pitch_naturals)] }
def AlignMatchesReferenceSaid : Prop := alignMatchesReferenceRow.holds Tryz.pinned (OpenSpec.ofChange alignMatchesReferenceSpec)

/-- ITS FALSE NEIGHBOUR: 'it returns false'. Refute it at one input. -/
def alignMatchesReferenceWrong : ChangeSpec := { name := "alignMatchesReference", fn := fun _ => fun
  | [d1, d2, d3, d4, d5] => { results := [.lit (.bool false)], args := [d1, d2, d3, d4, d5] }
  | _ => none }
def AlignMatchesReferenceWrongFalsely : Prop := alignMatchesReferenceRow.holds Tryz.pinned (OpenSpec.ofChange alignMatchesReferenceWrong)

/-- 'partbooklaw12.AlignLeast': WHATEVER THE INPUT: true; the input reads as it did. -/
def alignLeastSpec : ChangeSpec := { name := "alignLeast", fn := fun _ => fun
  | [d1, d2, d3] => { results := [.lit (.bool true)], args := [d1, d2, d3] }
  | _ => none }
def alignLeastRow : OpenClaim := { program := "ytekfpcgagoidcaagreatdoor", sum := "f963febb7f4be45dcd23a80ca20deaa9d1418328829a4f4e97e83749c433621c", func := "partbook/partbooklaw12.AlignLeast", spec := "alignLeast", unfollowed := true, recurses := true, named := ["partbook/pitch.naturals"], plainKeys := false, apart := false, laid := [("partbook/pitch.naturals", laid_partbook_pitch_naturals)] }
def AlignLeastSaid : Prop := alignLeastRow.holds Tryz.pinned (OpenSpec.ofChange alignLeastSpec)

/-- ITS FALSE NEIGHBOUR: 'it returns false'. Refute it at one input. -/
def alignLeastWrong : ChangeSpec := { name := "alignLeast", fn := fun _ => fun
  | [d1, d2, d3] => { results := [.lit (.bool false)], args := [d1, d2, d3] }
  | _ => none }
def AlignLeastWrongFalsely : Prop := alignLeastRow.holds Tryz.pinned (OpenSpec.ofChange alignLeastWrong)

/-- 'partbooklaw12.AlignProves': WHATEVER THE INPUT: true; the input reads as it did. -/
def alignProvesSpec : ChangeSpec := { name := "alignProves", fn := fun _ => fun
  | [d1, d2, d3] => { results := [.lit (.bool true)], args := [d1, d2, d3] }
  | _ => none }
def alignProvesRow : OpenClaim := { program := "ytekfpcgagoidcaagreatdoor", sum := "f963febb7f4be45dcd23a80ca20deaa9d1418328829a4f4e97e83749c433621c", func := "partbook/partbooklaw12.AlignProves", spec := "alignProves", unfollowed := true, recurses := true, named := ["partbook/pitch.naturals"], plainKeys := false, apart := false, laid := [("partbook/pitch.naturals", laid_partbook_pitch_naturals)] }
def AlignProvesSaid : Prop := alignProvesRow.holds Tryz.pinned (OpenSpec.ofChange alignProvesSpec)

/-- ITS FALSE NEIGHBOUR: 'it returns false'. Refute it at one input. -/
def alignProvesWrong : ChangeSpec := { name := "alignProves", fn := fun _ => fun
  | [d1, d2, d3] => { results := [.lit (.bool false)], args := [d1, d2, d3] }
  | _ => none }
def AlignProvesWrongFalsely : Prop := alignProvesRow.holds Tryz.pinned (OpenSpec.ofChange alignProvesWrong)

/-- 'partbooklaw12.AlignSame': WHATEVER THE INPUT: true; the input reads as it did. -/
def alignSameSpec : ChangeSpec := { name := "alignSame", fn := fun _ => fun
  | [d1, d2] => { results := [.lit (.bool true)], args := [d1, d2] }
  | _ => none }
def alignSameRow : OpenClaim := { program := "ytekfpcgagoidcaagreatdoor", sum := "f963febb7f4be45dcd23a80ca20deaa9d1418328829a4f4e97e83749c433621c", func := "partbook/partbooklaw12.AlignSame", spec := "alignSame", unfollowed := true, recurses := true, named := ["partbook/pitch.naturals"], plainKeys := false, apart := false, laid := [("partbook/pitch.naturals", laid_partbook_pitch_naturals)] }
def AlignSameSaid : Prop := alignSameRow.holds Tryz.pinned (OpenSpec.ofChange alignSameSpec)

/-- ITS FALSE NEIGHBOUR: 'it returns false'. Refute it at one input. -/
def alignSameWrong : ChangeSpec := { name := "alignSame", fn := fun _ => fun
  | [d1, d2] => { results := [.lit (.bool false)], args := [d1, d2] }
  | _ => none }
def AlignSameWrongFalsely : Prop := alignSameRow.holds Tryz.pinned (OpenSpec.ofChange alignSameWrong)

/-- 'partbooklaw12.AlignNotes': WHATEVER THE INPUT: true; the input reads as it did. -/
def alignNotesSpec : ChangeSpec := { name := "alignNotes", fn := fun _ => fun
  | [d1, d2] => { results := [.lit (.bool true)], args := [d1, d2] }
  | _ => none }
def alignNotesRow : OpenClaim := { program := "ytekfpcgagoidcaagreatdoor", sum := "f963febb7f4be45dcd23a80ca20deaa9d1418328829a4f4e97e83749c433621c", func := "partbook/partbooklaw12.AlignNotes", spec := "alignNotes", unfollowed := true, recurses := true, named := ["partbook/pitch.naturals"], plainKeys := false, apart := false, laid := [("partbook/pitch.naturals", laid_partbook_pitch_naturals)] }
def AlignNotesSaid : Prop := alignNotesRow.holds Tryz.pinned (OpenSpec.ofChange alignNotesSpec)

/-- ITS FALSE NEIGHBOUR: 'it returns false'. Refute it at one input. -/
def alignNotesWrong : ChangeSpec := { name := "alignNotes", fn := fun _ => fun
  | [d1, d2] => { results := [.lit (.bool false)], args := [d1, d2] }
  | _ => none }
def AlignNotesWrongFalsely : Prop := alignNotesRow.holds Tryz.pinned (OpenSpec.ofChange alignNotesWrong)

/-- 'partbooklaw12.AlignLess': WHATEVER THE INPUT: true; the input reads as it did. -/
def alignLessSpec : ChangeSpec := { name := "alignLess", fn := fun _ => fun
  | [d1, d2] => { results := [.lit (.bool true)], args := [d1, d2] }
  | _ => none }
def alignLessRow : OpenClaim := { program := "ytekfpcgagoidcaagreatdoor", sum := "f963febb7f4be45dcd23a80ca20deaa9d1418328829a4f4e97e83749c433621c", func := "partbook/partbooklaw12.AlignLess", spec := "alignLess", unfollowed := true, recurses := true, named := ["partbook/pitch.naturals"], plainKeys := false, apart := false, laid := [("partbook/pitch.naturals", laid_partbook_pitch_naturals)] }
def AlignLessSaid : Prop := alignLessRow.holds Tryz.pinned (OpenSpec.ofChange alignLessSpec)

/-- ITS FALSE NEIGHBOUR: 'it returns false'. Refute it at one input. -/
def alignLessWrong : ChangeSpec := { name := "alignLess", fn := fun _ => fun
  | [d1, d2] => { results := [.lit (.bool false)], args := [d1, d2] }
  | _ => none }
def AlignLessWrongFalsely : Prop := alignLessRow.holds Tryz.pinned (OpenSpec.ofChange alignLessWrong)

/-- 'partbooklaw21.CarryMatchesReference': WHATEVER THE INPUT: true; the input reads as it did. -/
def carryMatchesReferenceSpec : ChangeSpec := { name := "carryMatchesReference", fn := fun _ => fun
  | [d1, d2, d3, d4] => { results := [.lit (.bool true)], args := [d1, d2, d3, d4] }
  | _ => none }
def carryMatchesReferenceRow : OpenClaim := { program := "ytekfpcgagoidcaagreatdoor", sum := "f963febb7f4be45dcd23a80ca20deaa9d1418328829a4f4e97e83749c433621c", func := "partbook/partbooklaw21.CarryMatchesReference", spec := "carryMatchesReference", unfollowed := true, recurses := true, named := ["partbook/pitch.naturals"], plainKeys := false, apart := false, laid := [("partbook/pitch.naturals", laid_partbook_pitch_naturals)] }
def CarryMatchesReferenceSaid : Prop := carryMatchesReferenceRow.holds Tryz.pinned (OpenSpec.ofChange carryMatchesReferenceSpec)

/-- ITS FALSE NEIGHBOUR: 'it returns false'. Refute it at one input. -/
def carryMatchesReferenceWrong : ChangeSpec := { name := "carryMatchesReference", fn := fun _ => fun
  | [d1, d2, d3, d4] => { results := [.lit (.bool false)], args := [d1, d2, d3, d4] }
  | _ => none }
def CarryMatchesReferenceWrongFalsely : Prop := carryMatchesReferenceRow.holds Tryz.pinned (OpenSpec.ofChange carryMatchesReferenceWrong)

/-- 'partbooklaw21.CarryOnce': WHATEVER THE INPUT: true; the input reads as it did. -/
def carryOnceSpec : ChangeSpec := { name := "carryOnce", fn := fun _ => fun
  | [d1, d2, d3] => { results := [.lit (.bool true)], args := [d1, d2, d3] }
  | _ => none }
def carryOnceRow : OpenClaim := { program := "ytekfpcgagoidcaagreatdoor", sum := "f963febb7f4be45dcd23a80ca20deaa9d1418328829a4f4e97e83749c433621c", func := "partbook/partbooklaw21.CarryOnce", spec := "carryOnce", unfollowed := true, recurses := true, named := ["partbook/pitch.naturals"], plainKeys := false, apart := false, laid := [("partbook/pitch.naturals", laid_partbook_pitch_naturals)] }
def CarryOnceSaid : Prop := carryOnceRow.holds Tryz.pinned (OpenSpec.ofChange carryOnceSpec)

/-- ITS FALSE NEIGHBOUR: 'it returns false'. Refute it at one input. -/
def carryOnceWrong : ChangeSpec := { name := "carryOnce", fn := fun _ => fun
  | [d1, d2, d3] => { results := [.lit (.bool false)], args := [d1, d2, d3] }
  | _ => none }
def CarryOnceWrongFalsely : Prop := carryOnceRow.holds Tryz.pinned (OpenSpec.ofChange carryOnceWrong)

/-- 'partbooklaw21.CarryNothingElse': WHATEVER THE INPUT: true; the input reads as it did. -/
def carryNothingElseSpec : ChangeSpec := { name := "carryNothingElse", fn := fun _ => fun
  | [d1, d2, d3] => { results := [.lit (.bool true)], args := [d1, d2, d3] }
  | _ => none }
def carryNothingElseRow : OpenClaim := { program := "ytekfpcgagoidcaagreatdoor", sum := "f963febb7f4be45dcd23a80ca20deaa9d1418328829a4f4e97e83749c433621c", func := "partbook/partbooklaw21.CarryNothingElse", spec := "carryNothingElse", unfollowed := true, recurses := true, named := ["partbook/pitch.naturals"], plainKeys := false, apart := false, laid := [("partbook/pitch.naturals", laid_partbook_pitch_naturals)] }
def CarryNothingElseSaid : Prop := carryNothingElseRow.holds Tryz.pinned (OpenSpec.ofChange carryNothingElseSpec)

/-- ITS FALSE NEIGHBOUR: 'it returns false'. Refute it at one input. -/
def carryNothingElseWrong : ChangeSpec := { name := "carryNothingElse", fn := fun _ => fun
  | [d1, d2, d3] => { results := [.lit (.bool false)], args := [d1, d2, d3] }
  | _ => none }
def CarryNothingElseWrongFalsely : Prop := carryNothingElseRow.holds Tryz.pinned (OpenSpec.ofChange carryNothingElseWrong)

/-- 'partbooklaw21.CarryDirect': WHATEVER THE INPUT: true; the input reads as it did. -/
def carryDirectSpec : ChangeSpec := { name := "carryDirect", fn := fun _ => fun
  | [d1, d2, d3, d4] => { results := [.lit (.bool true)], args := [d1, d2, d3, d4] }
  | _ => none }
def carryDirectRow : OpenClaim := { program := "ytekfpcgagoidcaagreatdoor", sum := "f963febb7f4be45dcd23a80ca20deaa9d1418328829a4f4e97e83749c433621c", func := "partbook/partbooklaw21.CarryDirect", spec := "carryDirect", unfollowed := true, recurses := true, named := ["partbook/pitch.naturals"], plainKeys := false, apart := false, laid := [("partbook/pitch.naturals", laid_partbook_pitch_naturals)] }
def CarryDirectSaid : Prop := carryDirectRow.holds Tryz.pinned (OpenSpec.ofChange carryDirectSpec)

/-- ITS FALSE NEIGHBOUR: 'it returns false'. Refute it at one input. -/
def carryDirectWrong : ChangeSpec := { name := "carryDirect", fn := fun _ => fun
  | [d1, d2, d3, d4] => { results := [.lit (.bool false)], args := [d1, d2, d3, d4] }
  | _ => none }
def CarryDirectWrongFalsely : Prop := carryDirectRow.holds Tryz.pinned (OpenSpec.ofChange carryDirectWrong)

/-- 'partbooklaw21.CarrySame': WHATEVER THE INPUT: true; the input reads as it did. -/
def carrySameSpec : ChangeSpec := { name := "carrySame", fn := fun _ => fun
  | [d1, d2, d3] => { results := [.lit (.bool true)], args := [d1, d2, d3] }
  | _ => none }
def carrySameRow : OpenClaim := { program := "ytekfpcgagoidcaagreatdoor", sum := "f963febb7f4be45dcd23a80ca20deaa9d1418328829a4f4e97e83749c433621c", func := "partbook/partbooklaw21.CarrySame", spec := "carrySame", unfollowed := true, recurses := true, named := ["partbook/pitch.naturals"], plainKeys := false, apart := false, laid := [("partbook/pitch.naturals", laid_partbook_pitch_naturals)] }
def CarrySameSaid : Prop := carrySameRow.holds Tryz.pinned (OpenSpec.ofChange carrySameSpec)

/-- ITS FALSE NEIGHBOUR: 'it returns false'. Refute it at one input. -/
def carrySameWrong : ChangeSpec := { name := "carrySame", fn := fun _ => fun
  | [d1, d2, d3] => { results := [.lit (.bool false)], args := [d1, d2, d3] }
  | _ => none }
def CarrySameWrongFalsely : Prop := carrySameRow.holds Tryz.pinned (OpenSpec.ofChange carrySameWrong)

/-- 'partbooklaw21.CarryApart': WHATEVER THE INPUT: true; the input reads as it did. -/
def carryApartSpec : ChangeSpec := { name := "carryApart", fn := fun _ => fun
  | [d1, d2, d3, d4] => { results := [.lit (.bool true)], args := [d1, d2, d3, d4] }
  | _ => none }
def carryApartRow : OpenClaim := { program := "ytekfpcgagoidcaagreatdoor", sum := "f963febb7f4be45dcd23a80ca20deaa9d1418328829a4f4e97e83749c433621c", func := "partbook/partbooklaw21.CarryApart", spec := "carryApart", unfollowed := true, recurses := true, named := ["partbook/pitch.naturals"], plainKeys := false, apart := false, laid := [("partbook/pitch.naturals", laid_partbook_pitch_naturals)] }
def CarryApartSaid : Prop := carryApartRow.holds Tryz.pinned (OpenSpec.ofChange carryApartSpec)

/-- ITS FALSE NEIGHBOUR: 'it returns false'. Refute it at one input. -/
def carryApartWrong : ChangeSpec := { name := "carryApart", fn := fun _ => fun
  | [d1, d2, d3, d4] => { results := [.lit (.bool false)], args := [d1, d2, d3, d4] }
  | _ => none }
def CarryApartWrongFalsely : Prop := carryApartRow.holds Tryz.pinned (OpenSpec.ofChange carryApartWrong)

/- THE SECOND FORM. 'bulk': how many values and letters a reading holds, each counted each time it is reached (what is shared counts as often as it is met; a slice's spare places count too). A statement '..UptoSaid' is the law's where the arguments, and the package variables that the reading takes, are together of bulk at most 1048576: NARROWER than '..Said'. Prove '..Said' where nothing that the law and all that it calls make is longer than what came in: it says more and counts as full. Else prove '..UptoSaid'. A law counts once. -/
mutual
def uptoBulk {H : Type} : DataW H → Nat
  | .lit (.string bytes) => bytes.length + 1
  | .lit _ => 1
  | .nil => 1
  | .ptr d => uptoBulk d + 1
  | .slice elems spare => uptoBulkAll elems + uptoBulkAll spare + 1
  | .agg parts => uptoBulkAll parts + 1
  | .iface _ d => uptoBulk d + 1
  | .map entries => uptoBulkEntries entries + 1
  | .held _ => 1
def uptoBulkAll {H : Type} : List (DataW H) → Nat
  | [] => 0
  | d :: r => uptoBulk d + uptoBulkAll r
def uptoBulkEntries {H : Type} : List (Lit × DataW H) → Nat
  | [] => 0
  | x :: r => uptoBulkEntry x + uptoBulkEntries r
def uptoBulkEntry {H : Type} : Lit × DataW H → Nat
  | (.string bytes, d) => bytes.length + uptoBulk d + 1
  | (_, d) => uptoBulk d + 1
 end
def uptoSmall : (H : Type) → List (DataW H) → Bool := fun _ ds => decide (uptoBulkAll ds ≤ 1048576)
def OpenSpec.upto (s : _root_.Go.ChangeSpec) : _root_.Go.OpenSpec := { _root_.Go.OpenSpec.ofChange s with cond := some uptoSmall }

/-- 'partbooklaw12.AlignMatchesReference', WHERE WHAT IT READS IS OF BULK AT MOST 1048576: true; the input reads as it did. -/
def alignMatchesReferenceUptoRow : OpenClaim := { program := "ytekfpcgagoidcaagreatdoor", sum := "f963febb7f4be45dcd23a80ca20deaa9d1418328829a4f4e97e83749c433621c", func := "partbook/partbooklaw12.AlignMatchesReference", spec := "alignMatchesReference", unfollowed := true, recurses := true, named := ["partbook/pitch.naturals"], plainKeys := false, apart := false, laid := [("partbook/pitch.naturals", laid_partbook_pitch_naturals)], narrowed := true }
def AlignMatchesReferenceUptoSaid : Prop := alignMatchesReferenceUptoRow.holds Tryz.pinned (OpenSpec.upto alignMatchesReferenceSpec)

/-- 'partbooklaw12.AlignLeast', WHERE WHAT IT READS IS OF BULK AT MOST 1048576: true; the input reads as it did. -/
def alignLeastUptoRow : OpenClaim := { program := "ytekfpcgagoidcaagreatdoor", sum := "f963febb7f4be45dcd23a80ca20deaa9d1418328829a4f4e97e83749c433621c", func := "partbook/partbooklaw12.AlignLeast", spec := "alignLeast", unfollowed := true, recurses := true, named := ["partbook/pitch.naturals"], plainKeys := false, apart := false, laid := [("partbook/pitch.naturals", laid_partbook_pitch_naturals)], narrowed := true }
def AlignLeastUptoSaid : Prop := alignLeastUptoRow.holds Tryz.pinned (OpenSpec.upto alignLeastSpec)

/-- 'partbooklaw12.AlignProves', WHERE WHAT IT READS IS OF BULK AT MOST 1048576: true; the input reads as it did. -/
def alignProvesUptoRow : OpenClaim := { program := "ytekfpcgagoidcaagreatdoor", sum := "f963febb7f4be45dcd23a80ca20deaa9d1418328829a4f4e97e83749c433621c", func := "partbook/partbooklaw12.AlignProves", spec := "alignProves", unfollowed := true, recurses := true, named := ["partbook/pitch.naturals"], plainKeys := false, apart := false, laid := [("partbook/pitch.naturals", laid_partbook_pitch_naturals)], narrowed := true }
def AlignProvesUptoSaid : Prop := alignProvesUptoRow.holds Tryz.pinned (OpenSpec.upto alignProvesSpec)

/-- 'partbooklaw12.AlignSame', WHERE WHAT IT READS IS OF BULK AT MOST 1048576: true; the input reads as it did. -/
def alignSameUptoRow : OpenClaim := { program := "ytekfpcgagoidcaagreatdoor", sum := "f963febb7f4be45dcd23a80ca20deaa9d1418328829a4f4e97e83749c433621c", func := "partbook/partbooklaw12.AlignSame", spec := "alignSame", unfollowed := true, recurses := true, named := ["partbook/pitch.naturals"], plainKeys := false, apart := false, laid := [("partbook/pitch.naturals", laid_partbook_pitch_naturals)], narrowed := true }
def AlignSameUptoSaid : Prop := alignSameUptoRow.holds Tryz.pinned (OpenSpec.upto alignSameSpec)

/-- 'partbooklaw12.AlignNotes', WHERE WHAT IT READS IS OF BULK AT MOST 1048576: true; the input reads as it did. -/
def alignNotesUptoRow : OpenClaim := { program := "ytekfpcgagoidcaagreatdoor", sum := "f963febb7f4be45dcd23a80ca20deaa9d1418328829a4f4e97e83749c433621c", func := "partbook/partbooklaw12.AlignNotes", spec := "alignNotes", unfollowed := true, recurses := true, named := ["partbook/pitch.naturals"], plainKeys := false, apart := false, laid := [("partbook/pitch.naturals", laid_partbook_pitch_naturals)], narrowed := true }
def AlignNotesUptoSaid : Prop := alignNotesUptoRow.holds Tryz.pinned (OpenSpec.upto alignNotesSpec)

/-- 'partbooklaw12.AlignLess', WHERE WHAT IT READS IS OF BULK AT MOST 1048576: true; the input reads as it did. -/
def alignLessUptoRow : OpenClaim := { program := "ytekfpcgagoidcaagreatdoor", sum := "f963febb7f4be45dcd23a80ca20deaa9d1418328829a4f4e97e83749c433621c", func := "partbook/partbooklaw12.AlignLess", spec := "alignLess", unfollowed := true, recurses := true, named := ["partbook/pitch.naturals"], plainKeys := false, apart := false, laid := [("partbook/pitch.naturals", laid_partbook_pitch_naturals)], narrowed := true }
def AlignLessUptoSaid : Prop := alignLessUptoRow.holds Tryz.pinned (OpenSpec.upto alignLessSpec)

/-- 'partbooklaw21.CarryMatchesReference', WHERE WHAT IT READS IS OF BULK AT MOST 1048576: true; the input reads as it did. -/
def carryMatchesReferenceUptoRow : OpenClaim := { program := "ytekfpcgagoidcaagreatdoor", sum := "f963febb7f4be45dcd23a80ca20deaa9d1418328829a4f4e97e83749c433621c", func := "partbook/partbooklaw21.CarryMatchesReference", spec := "carryMatchesReference", unfollowed := true, recurses := true, named := ["partbook/pitch.naturals"], plainKeys := false, apart := false, laid := [("partbook/pitch.naturals", laid_partbook_pitch_naturals)], narrowed := true }
def CarryMatchesReferenceUptoSaid : Prop := carryMatchesReferenceUptoRow.holds Tryz.pinned (OpenSpec.upto carryMatchesReferenceSpec)

/-- 'partbooklaw21.CarryOnce', WHERE WHAT IT READS IS OF BULK AT MOST 1048576: true; the input reads as it did. -/
def carryOnceUptoRow : OpenClaim := { program := "ytekfpcgagoidcaagreatdoor", sum := "f963febb7f4be45dcd23a80ca20deaa9d1418328829a4f4e97e83749c433621c", func := "partbook/partbooklaw21.CarryOnce", spec := "carryOnce", unfollowed := true, recurses := true, named := ["partbook/pitch.naturals"], plainKeys := false, apart := false, laid := [("partbook/pitch.naturals", laid_partbook_pitch_naturals)], narrowed := true }
def CarryOnceUptoSaid : Prop := carryOnceUptoRow.holds Tryz.pinned (OpenSpec.upto carryOnceSpec)

/-- 'partbooklaw21.CarryNothingElse', WHERE WHAT IT READS IS OF BULK AT MOST 1048576: true; the input reads as it did. -/
def carryNothingElseUptoRow : OpenClaim := { program := "ytekfpcgagoidcaagreatdoor", sum := "f963febb7f4be45dcd23a80ca20deaa9d1418328829a4f4e97e83749c433621c", func := "partbook/partbooklaw21.CarryNothingElse", spec := "carryNothingElse", unfollowed := true, recurses := true, named := ["partbook/pitch.naturals"], plainKeys := false, apart := false, laid := [("partbook/pitch.naturals", laid_partbook_pitch_naturals)], narrowed := true }
def CarryNothingElseUptoSaid : Prop := carryNothingElseUptoRow.holds Tryz.pinned (OpenSpec.upto carryNothingElseSpec)

/-- 'partbooklaw21.CarryDirect', WHERE WHAT IT READS IS OF BULK AT MOST 1048576: true; the input reads as it did. -/
def carryDirectUptoRow : OpenClaim := { program := "ytekfpcgagoidcaagreatdoor", sum := "f963febb7f4be45dcd23a80ca20deaa9d1418328829a4f4e97e83749c433621c", func := "partbook/partbooklaw21.CarryDirect", spec := "carryDirect", unfollowed := true, recurses := true, named := ["partbook/pitch.naturals"], plainKeys := false, apart := false, laid := [("partbook/pitch.naturals", laid_partbook_pitch_naturals)], narrowed := true }
def CarryDirectUptoSaid : Prop := carryDirectUptoRow.holds Tryz.pinned (OpenSpec.upto carryDirectSpec)

/-- 'partbooklaw21.CarrySame', WHERE WHAT IT READS IS OF BULK AT MOST 1048576: true; the input reads as it did. -/
def carrySameUptoRow : OpenClaim := { program := "ytekfpcgagoidcaagreatdoor", sum := "f963febb7f4be45dcd23a80ca20deaa9d1418328829a4f4e97e83749c433621c", func := "partbook/partbooklaw21.CarrySame", spec := "carrySame", unfollowed := true, recurses := true, named := ["partbook/pitch.naturals"], plainKeys := false, apart := false, laid := [("partbook/pitch.naturals", laid_partbook_pitch_naturals)], narrowed := true }
def CarrySameUptoSaid : Prop := carrySameUptoRow.holds Tryz.pinned (OpenSpec.upto carrySameSpec)

/-- 'partbooklaw21.CarryApart', WHERE WHAT IT READS IS OF BULK AT MOST 1048576: true; the input reads as it did. -/
def carryApartUptoRow : OpenClaim := { program := "ytekfpcgagoidcaagreatdoor", sum := "f963febb7f4be45dcd23a80ca20deaa9d1418328829a4f4e97e83749c433621c", func := "partbook/partbooklaw21.CarryApart", spec := "carryApart", unfollowed := true, recurses := true, named := ["partbook/pitch.naturals"], plainKeys := false, apart := false, laid := [("partbook/pitch.naturals", laid_partbook_pitch_naturals)], narrowed := true }
def CarryApartUptoSaid : Prop := carryApartUptoRow.holds Tryz.pinned (OpenSpec.upto carryApartSpec)

end Rows
end Go.Proofs.YtekfpcgagoidcaaGreatDoor
