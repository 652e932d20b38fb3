/-
  NARROWER THAN 'FOR EVERY INPUT', by the rows' own cells (each row's printed sentence says how): PlaceMatchesReference: laid · PlaceBack: laid · PlaceMoments: laid · PlaceBars: laid · PlaceBeats: laid · PlaceCuts: laid.
  DERIVED. THE GIVEN ROWS OF THIS SEAT. 6 by the template 'for every input the law returns true; each argument reads behind the call as it read before'; 0 by the template 'total and deterministic' (their statements: YtdglbdfdkabjfaaGreatDoorTotals.lean).
  GIVEN WITH THE SEED: the statements are not yours to turn. If you find one false, say at which input.
  Laid BY PROGRAM, IN A SANDBOX (cutbox-rows.mjs): the forced cells as the released guide's own fill.sh prints them over the translation b6c890af067a6607… (all of the seat's roots in one cut). By AI agents, Wed Nov 11 2026. No macro, syntax, notation, axiom, sorry.
-/
import Derived.Test.YtdglbdfdkabjfaaGreatDoorChecked
import GoSem.Claim
import GoSem.ClaimJoined
import GoSem.ClaimMapViews
import Derived.JoinedTies
import Derived.KernelRfl
namespace Go.Proofs.YtdglbdfdkabjfaaGreatDoor
/- THE CELL 'sum', in the pinned program and in every row, IS THE sha256 OF THE DUMP (.gsa) THAT YtdglbdfdkabjfaaGreatDoorProg.lean LOADS. Nothing in Lean hashes anything: it is a label: what it is worth is what the hold of that sum in a sandbox is worth. -/
noncomputable def Tryz.pinned : Pinned := { name := "ytdglbdfdkabjfaagreatdoor", sum := "b6c890af067a6607b5a8894d57df6f896a9745cdd84cdc8fa126e61494448538", checked := Tryz.checked }
namespace Rows
def none {H : Type} : Left H := { results := [], args := [] }

/- WHAT THE LISTED PACKAGE-LEVEL VARIABLES READ AS WHEN THE CALL BEGINS. Each datum BY PROGRAM (the guide's laid-datum.mjs) off the statement by which the dump's own 'gosem.cut.vars' lays the variable. In a bare row this is a premise. The card (YtdglbdfdkabjfaaGreatDoorCards.lean) ties it to the program's text. -/
def laid_errors_errorType {H : Type} : DataW H := .iface "internal/reflectlite.rtype" (.agg [.ptr (.lit (.string [101, 114, 114, 111, 114]))])
def laid_partbook_pitch_naturals {H : Type} : DataW H := .agg [.lit (.int .i64 0), .lit (.int .i64 2), .lit (.int .i64 4), .lit (.int .i64 5), .lit (.int .i64 7), .lit (.int .i64 9), .lit (.int .i64 11)]

/-- 'partbooklaw31.PlaceMatchesReference': WHATEVER THE INPUT: true; the input reads as it did. -/
def placeMatchesReferenceSpec : ChangeSpec := { name := "placeMatchesReference", fn := fun _ => fun
  | [d1, d2, d3, d4, d5] => { results := [.lit (.bool true)], args := [d1, d2, d3, d4, d5] }
  | _ => none }
def placeMatchesReferenceRow : OpenClaim := { program := "ytdglbdfdkabjfaagreatdoor", sum := "b6c890af067a6607b5a8894d57df6f896a9745cdd84cdc8fa126e61494448538", func := "partbook/partbooklaw31.PlaceMatchesReference", spec := "placeMatchesReference", inPlace := ["internal/reflectlite.ValueOf", "(internal/reflectlite.Value).Type", "(internal/reflectlite.Value).IsNil", "internal/reflectlite.TypeOf", "(internal/reflectlite.Value).Elem", "(internal/reflectlite.Value).Set"], unfollowed := true, recurses := true, named := ["partbook/pitch.naturals", "errors.errorType"], plainKeys := false, apart := false, laid := [("errors.errorType", laid_errors_errorType), ("partbook/pitch.naturals", laid_partbook_pitch_naturals)] }
def PlaceMatchesReferenceSaid : Prop := placeMatchesReferenceRow.holds Tryz.pinned (OpenSpec.ofChange placeMatchesReferenceSpec)

/-- ITS FALSE NEIGHBOUR: 'it returns false'. Refute it at one input. -/
def placeMatchesReferenceWrong : ChangeSpec := { name := "placeMatchesReference", fn := fun _ => fun
  | [d1, d2, d3, d4, d5] => { results := [.lit (.bool false)], args := [d1, d2, d3, d4, d5] }
  | _ => none }
def PlaceMatchesReferenceWrongFalsely : Prop := placeMatchesReferenceRow.holds Tryz.pinned (OpenSpec.ofChange placeMatchesReferenceWrong)

/-- 'partbooklaw31.PlaceBack': WHATEVER THE INPUT: true; the input reads as it did. -/
def placeBackSpec : ChangeSpec := { name := "placeBack", fn := fun _ => fun
  | [d1, d2, d3, d4, d5, d6] => { results := [.lit (.bool true)], args := [d1, d2, d3, d4, d5, d6] }
  | _ => none }
def placeBackRow : OpenClaim := { program := "ytdglbdfdkabjfaagreatdoor", sum := "b6c890af067a6607b5a8894d57df6f896a9745cdd84cdc8fa126e61494448538", func := "partbook/partbooklaw31.PlaceBack", spec := "placeBack", inPlace := ["internal/reflectlite.ValueOf", "(internal/reflectlite.Value).Type", "(internal/reflectlite.Value).IsNil", "internal/reflectlite.TypeOf", "(internal/reflectlite.Value).Elem", "(internal/reflectlite.Value).Set"], unfollowed := true, recurses := true, named := ["partbook/pitch.naturals", "errors.errorType"], plainKeys := false, apart := false, laid := [("errors.errorType", laid_errors_errorType), ("partbook/pitch.naturals", laid_partbook_pitch_naturals)] }
def PlaceBackSaid : Prop := placeBackRow.holds Tryz.pinned (OpenSpec.ofChange placeBackSpec)

/-- ITS FALSE NEIGHBOUR: 'it returns false'. Refute it at one input. -/
def placeBackWrong : ChangeSpec := { name := "placeBack", fn := fun _ => fun
  | [d1, d2, d3, d4, d5, d6] => { results := [.lit (.bool false)], args := [d1, d2, d3, d4, d5, d6] }
  | _ => none }
def PlaceBackWrongFalsely : Prop := placeBackRow.holds Tryz.pinned (OpenSpec.ofChange placeBackWrong)

/-- 'partbooklaw31.PlaceMoments': WHATEVER THE INPUT: true; the input reads as it did. -/
def placeMomentsSpec : ChangeSpec := { name := "placeMoments", fn := fun _ => fun
  | [d1, d2, d3, d4] => { results := [.lit (.bool true)], args := [d1, d2, d3, d4] }
  | _ => none }
def placeMomentsRow : OpenClaim := { program := "ytdglbdfdkabjfaagreatdoor", sum := "b6c890af067a6607b5a8894d57df6f896a9745cdd84cdc8fa126e61494448538", func := "partbook/partbooklaw31.PlaceMoments", spec := "placeMoments", inPlace := ["internal/reflectlite.ValueOf", "(internal/reflectlite.Value).Type", "(internal/reflectlite.Value).IsNil", "internal/reflectlite.TypeOf", "(internal/reflectlite.Value).Elem", "(internal/reflectlite.Value).Set"], unfollowed := true, recurses := true, named := ["partbook/pitch.naturals", "errors.errorType"], plainKeys := false, apart := false, laid := [("errors.errorType", laid_errors_errorType), ("partbook/pitch.naturals", laid_partbook_pitch_naturals)] }
def PlaceMomentsSaid : Prop := placeMomentsRow.holds Tryz.pinned (OpenSpec.ofChange placeMomentsSpec)

/-- ITS FALSE NEIGHBOUR: 'it returns false'. Refute it at one input. -/
def placeMomentsWrong : ChangeSpec := { name := "placeMoments", fn := fun _ => fun
  | [d1, d2, d3, d4] => { results := [.lit (.bool false)], args := [d1, d2, d3, d4] }
  | _ => none }
def PlaceMomentsWrongFalsely : Prop := placeMomentsRow.holds Tryz.pinned (OpenSpec.ofChange placeMomentsWrong)

/-- 'partbooklaw31.PlaceBars': WHATEVER THE INPUT: true; the input reads as it did. -/
def placeBarsSpec : ChangeSpec := { name := "placeBars", fn := fun _ => fun
  | [d1, d2, d3, d4, d5, d6] => { results := [.lit (.bool true)], args := [d1, d2, d3, d4, d5, d6] }
  | _ => none }
def placeBarsRow : OpenClaim := { program := "ytdglbdfdkabjfaagreatdoor", sum := "b6c890af067a6607b5a8894d57df6f896a9745cdd84cdc8fa126e61494448538", func := "partbook/partbooklaw31.PlaceBars", spec := "placeBars", inPlace := ["internal/reflectlite.ValueOf", "(internal/reflectlite.Value).Type", "(internal/reflectlite.Value).IsNil", "internal/reflectlite.TypeOf", "(internal/reflectlite.Value).Elem", "(internal/reflectlite.Value).Set"], unfollowed := true, recurses := true, named := ["partbook/pitch.naturals", "errors.errorType"], plainKeys := false, apart := false, laid := [("errors.errorType", laid_errors_errorType), ("partbook/pitch.naturals", laid_partbook_pitch_naturals)] }
def PlaceBarsSaid : Prop := placeBarsRow.holds Tryz.pinned (OpenSpec.ofChange placeBarsSpec)

/-- ITS FALSE NEIGHBOUR: 'it returns false'. Refute it at one input. -/
def placeBarsWrong : ChangeSpec := { name := "placeBars", fn := fun _ => fun
  | [d1, d2, d3, d4, d5, d6] => { results := [.lit (.bool false)], args := [d1, d2, d3, d4, d5, d6] }
  | _ => none }
def PlaceBarsWrongFalsely : Prop := placeBarsRow.holds Tryz.pinned (OpenSpec.ofChange placeBarsWrong)

/-- 'partbooklaw31.PlaceBeats': WHATEVER THE INPUT: true; the input reads as it did. -/
def placeBeatsSpec : ChangeSpec := { name := "placeBeats", fn := fun _ => fun
  | [d1, d2, d3, d4, d5] => { results := [.lit (.bool true)], args := [d1, d2, d3, d4, d5] }
  | _ => none }
def placeBeatsRow : OpenClaim := { program := "ytdglbdfdkabjfaagreatdoor", sum := "b6c890af067a6607b5a8894d57df6f896a9745cdd84cdc8fa126e61494448538", func := "partbook/partbooklaw31.PlaceBeats", spec := "placeBeats", inPlace := ["internal/reflectlite.ValueOf", "(internal/reflectlite.Value).Type", "(internal/reflectlite.Value).IsNil", "internal/reflectlite.TypeOf", "(internal/reflectlite.Value).Elem", "(internal/reflectlite.Value).Set"], unfollowed := true, recurses := true, named := ["partbook/pitch.naturals", "errors.errorType"], plainKeys := false, apart := false, laid := [("errors.errorType", laid_errors_errorType), ("partbook/pitch.naturals", laid_partbook_pitch_naturals)] }
def PlaceBeatsSaid : Prop := placeBeatsRow.holds Tryz.pinned (OpenSpec.ofChange placeBeatsSpec)

/-- ITS FALSE NEIGHBOUR: 'it returns false'. Refute it at one input. -/
def placeBeatsWrong : ChangeSpec := { name := "placeBeats", fn := fun _ => fun
  | [d1, d2, d3, d4, d5] => { results := [.lit (.bool false)], args := [d1, d2, d3, d4, d5] }
  | _ => none }
def PlaceBeatsWrongFalsely : Prop := placeBeatsRow.holds Tryz.pinned (OpenSpec.ofChange placeBeatsWrong)

/-- 'partbooklaw31.PlaceCuts': WHATEVER THE INPUT: true; the input reads as it did. -/
def placeCutsSpec : ChangeSpec := { name := "placeCuts", fn := fun _ => fun
  | [d1, d2, d3, d4, d5] => { results := [.lit (.bool true)], args := [d1, d2, d3, d4, d5] }
  | _ => none }
def placeCutsRow : OpenClaim := { program := "ytdglbdfdkabjfaagreatdoor", sum := "b6c890af067a6607b5a8894d57df6f896a9745cdd84cdc8fa126e61494448538", func := "partbook/partbooklaw31.PlaceCuts", spec := "placeCuts", inPlace := ["internal/reflectlite.ValueOf", "(internal/reflectlite.Value).Type", "(internal/reflectlite.Value).IsNil", "internal/reflectlite.TypeOf", "(internal/reflectlite.Value).Elem", "(internal/reflectlite.Value).Set"], unfollowed := true, recurses := true, named := ["partbook/pitch.naturals", "errors.errorType"], plainKeys := false, apart := false, laid := [("errors.errorType", laid_errors_errorType), ("partbook/pitch.naturals", laid_partbook_pitch_naturals)] }
def PlaceCutsSaid : Prop := placeCutsRow.holds Tryz.pinned (OpenSpec.ofChange placeCutsSpec)

/-- ITS FALSE NEIGHBOUR: 'it returns false'. Refute it at one input. -/
def placeCutsWrong : ChangeSpec := { name := "placeCuts", fn := fun _ => fun
  | [d1, d2, d3, d4, d5] => { results := [.lit (.bool false)], args := [d1, d2, d3, d4, d5] }
  | _ => none }
def PlaceCutsWrongFalsely : Prop := placeCutsRow.holds Tryz.pinned (OpenSpec.ofChange placeCutsWrong)

/- THE SECOND FORM. 'bulk': how many values and letters a reading holds, each counted each time it is reached (what is shared counts as often as it is met; a slice's spare places count too). A statement '..UptoSaid' is the law's where the arguments, and the package variables that the reading takes, are together of bulk at most 1048576: NARROWER than '..Said'. Prove '..Said' where nothing that the law and all that it calls make is longer than what came in: it says more and counts as full. Else prove '..UptoSaid'. A law counts once. -/
mutual
def uptoBulk {H : Type} : DataW H → Nat
  | .lit (.string bytes) => bytes.length + 1
  | .lit _ => 1
  | .nil => 1
  | .ptr d => uptoBulk d + 1
  | .slice elems spare => uptoBulkAll elems + uptoBulkAll spare + 1
  | .agg parts => uptoBulkAll parts + 1
  | .iface _ d => uptoBulk d + 1
  | .map entries => uptoBulkEntries entries + 1
  | .held _ => 1
def uptoBulkAll {H : Type} : List (DataW H) → Nat
  | [] => 0
  | d :: r => uptoBulk d + uptoBulkAll r
def uptoBulkEntries {H : Type} : List (Lit × DataW H) → Nat
  | [] => 0
  | x :: r => uptoBulkEntry x + uptoBulkEntries r
def uptoBulkEntry {H : Type} : Lit × DataW H → Nat
  | (.string bytes, d) => bytes.length + uptoBulk d + 1
  | (_, d) => uptoBulk d + 1
 end
def uptoSmall : (H : Type) → List (DataW H) → Bool := fun _ ds => decide (uptoBulkAll ds ≤ 1048576)
def OpenSpec.upto (s : _root_.Go.ChangeSpec) : _root_.Go.OpenSpec := { _root_.Go.OpenSpec.ofChange s with cond := some uptoSmall }

/-- 'partbooklaw31.PlaceMatchesReference', WHERE WHAT IT READS IS OF BULK AT MOST 1048576: true; the input reads as it did. -/
def placeMatchesReferenceUptoRow : OpenClaim := { program := "ytdglbdfdkabjfaagreatdoor", sum := "b6c890af067a6607b5a8894d57df6f896a9745cdd84cdc8fa126e61494448538", func := "partbook/partbooklaw31.PlaceMatchesReference", spec := "placeMatchesReference", inPlace := ["internal/reflectlite.ValueOf", "(internal/reflectlite.Value).Type", "(internal/reflectlite.Value).IsNil", "internal/reflectlite.TypeOf", "(internal/reflectlite.Value).Elem", "(internal/reflectlite.Value).Set"], unfollowed := true, recurses := true, named := ["partbook/pitch.naturals", "errors.errorType"], plainKeys := false, apart := false, laid := [("errors.errorType", laid_errors_errorType), ("partbook/pitch.naturals", laid_partbook_pitch_naturals)], narrowed := true }
def PlaceMatchesReferenceUptoSaid : Prop := placeMatchesReferenceUptoRow.holds Tryz.pinned (OpenSpec.upto placeMatchesReferenceSpec)

/-- 'partbooklaw31.PlaceBack', WHERE WHAT IT READS IS OF BULK AT MOST 1048576: true; the input reads as it did. -/
def placeBackUptoRow : OpenClaim := { program := "ytdglbdfdkabjfaagreatdoor", sum := "b6c890af067a6607b5a8894d57df6f896a9745cdd84cdc8fa126e61494448538", func := "partbook/partbooklaw31.PlaceBack", spec := "placeBack", inPlace := ["internal/reflectlite.ValueOf", "(internal/reflectlite.Value).Type", "(internal/reflectlite.Value).IsNil", "internal/reflectlite.TypeOf", "(internal/reflectlite.Value).Elem", "(internal/reflectlite.Value).Set"], unfollowed := true, recurses := true, named := ["partbook/pitch.naturals", "errors.errorType"], plainKeys := false, apart := false, laid := [("errors.errorType", laid_errors_errorType), ("partbook/pitch.naturals", laid_partbook_pitch_naturals)], narrowed := true }
def PlaceBackUptoSaid : Prop := placeBackUptoRow.holds Tryz.pinned (OpenSpec.upto placeBackSpec)

/-- 'partbooklaw31.PlaceMoments', WHERE WHAT IT READS IS OF BULK AT MOST 1048576: true; the input reads as it did. -/
def placeMomentsUptoRow : OpenClaim := { program := "ytdglbdfdkabjfaagreatdoor", sum := "b6c890af067a6607b5a8894d57df6f896a9745cdd84cdc8fa126e61494448538", func := "partbook/partbooklaw31.PlaceMoments", spec := "placeMoments", inPlace := ["internal/reflectlite.ValueOf", "(internal/reflectlite.Value).Type", "(internal/reflectlite.Value).IsNil", "internal/reflectlite.TypeOf", "(internal/reflectlite.Value).Elem", "(internal/reflectlite.Value).Set"], unfollowed := true, recurses := true, named := ["partbook/pitch.naturals", "errors.errorType"], plainKeys := false, apart := false, laid := [("errors.errorType", laid_errors_errorType), ("partbook/pitch.naturals", laid_partbook_pitch_naturals)], narrowed := true }
def PlaceMomentsUptoSaid : Prop := placeMomentsUptoRow.holds Tryz.pinned (OpenSpec.upto placeMomentsSpec)

/-- 'partbooklaw31.PlaceBars', WHERE WHAT IT READS IS OF BULK AT MOST 1048576: true; the input reads as it did. -/
def placeBarsUptoRow : OpenClaim := { program := "ytdglbdfdkabjfaagreatdoor", sum := "b6c890af067a6607b5a8894d57df6f896a9745cdd84cdc8fa126e61494448538", func := "partbook/partbooklaw31.PlaceBars", spec := "placeBars", inPlace := ["internal/reflectlite.ValueOf", "(internal/reflectlite.Value).Type", "(internal/reflectlite.Value).IsNil", "internal/reflectlite.TypeOf", "(internal/reflectlite.Value).Elem", "(internal/reflectlite.Value).Set"], unfollowed := true, recurses := true, named := ["partbook/pitch.naturals", "errors.errorType"], plainKeys := false, apart := false, laid := [("errors.errorType", laid_errors_errorType), ("partbook/pitch.naturals", laid_partbook_pitch_naturals)], narrowed := true }
def PlaceBarsUptoSaid : Prop := placeBarsUptoRow.holds Tryz.pinned (OpenSpec.upto placeBarsSpec)

/-- 'partbooklaw31.PlaceBeats', WHERE WHAT IT READS IS OF BULK AT MOST 1048576: true; the input reads as it did. -/
def placeBeatsUptoRow : OpenClaim := { program := "ytdglbdfdkabjfaagreatdoor", sum := "b6c890af067a6607b5a8894d57df6f896a9745cdd84cdc8fa126e61494448538", func := "partbook/partbooklaw31.PlaceBeats", spec := "placeBeats", inPlace := ["internal/reflectlite.ValueOf", "(internal/reflectlite.Value).Type", "(internal/reflectlite.Value).IsNil", "internal/reflectlite.TypeOf", "(internal/reflectlite.Value).Elem", "(internal/reflectlite.Value).Set"], unfollowed := true, recurses := true, named := ["partbook/pitch.naturals", "errors.errorType"], plainKeys := false, apart := false, laid := [("errors.errorType", laid_errors_errorType), ("partbook/pitch.naturals", laid_partbook_pitch_naturals)], narrowed := true }
def PlaceBeatsUptoSaid : Prop := placeBeatsUptoRow.holds Tryz.pinned (OpenSpec.upto placeBeatsSpec)

/-- 'partbooklaw31.PlaceCuts', WHERE WHAT IT READS IS OF BULK AT MOST 1048576: true; the input reads as it did. -/
def placeCutsUptoRow : OpenClaim := { program := "ytdglbdfdkabjfaagreatdoor", sum := "b6c890af067a6607b5a8894d57df6f896a9745cdd84cdc8fa126e61494448538", func := "partbook/partbooklaw31.PlaceCuts", spec := "placeCuts", inPlace := ["internal/reflectlite.ValueOf", "(internal/reflectlite.Value).Type", "(internal/reflectlite.Value).IsNil", "internal/reflectlite.TypeOf", "(internal/reflectlite.Value).Elem", "(internal/reflectlite.Value).Set"], unfollowed := true, recurses := true, named := ["partbook/pitch.naturals", "errors.errorType"], plainKeys := false, apart := false, laid := [("errors.errorType", laid_errors_errorType), ("partbook/pitch.naturals", laid_partbook_pitch_naturals)], narrowed := true }
def PlaceCutsUptoSaid : Prop := placeCutsUptoRow.holds Tryz.pinned (OpenSpec.upto placeCutsSpec)

end Rows
end Go.Proofs.YtdglbdfdkabjfaaGreatDoor
