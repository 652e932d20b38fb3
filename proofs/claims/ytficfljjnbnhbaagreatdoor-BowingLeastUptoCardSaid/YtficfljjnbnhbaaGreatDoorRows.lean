/-
  NARROWER THAN 'FOR EVERY INPUT', by the rows' own cells (each row's printed sentence says how): BowingMatchesReference: laid · BowingAgrees: laid · BowingRestores: laid · BowingLeast: laid · BowingExcepts: laid · BowingChoices: laid · BowingOther: laid.
  DERIVED. THE GIVEN ROWS OF THIS SEAT. 7 by the template 'for every input the law returns true; each argument reads behind the call as it read before'; 0 by the template 'total and deterministic' (their statements: YtficfljjnbnhbaaGreatDoorTotals.lean).
  GIVEN WITH THE SEED: the statements are not yours to turn. If you find one false, say at which input.
  Laid BY PROGRAM, IN A SANDBOX (cutbox-rows.mjs): the forced cells as the released guide's own fill.sh prints them over the translation 09936bd7ade2af09… (all of the seat's roots in one cut). By AI agents, Wed Nov 11 2026. No macro, syntax, notation, axiom, sorry.
-/
import Derived.Test.YtficfljjnbnhbaaGreatDoorChecked
import GoSem.Claim
import GoSem.ClaimJoined
import GoSem.ClaimMapViews
import Derived.JoinedTies
import Derived.KernelRfl
namespace Go.Proofs.YtficfljjnbnhbaaGreatDoor
/- THE CELL 'sum', in the pinned program and in every row, IS THE sha256 OF THE DUMP (.gsa) THAT YtficfljjnbnhbaaGreatDoorProg.lean LOADS. Nothing in Lean hashes anything: it is a label: what it is worth is what the hold of that sum in a sandbox is worth. -/
noncomputable def Tryz.pinned : Pinned := { name := "ytficfljjnbnhbaagreatdoor", sum := "09936bd7ade2af099e65519775ec6782c0d82e7184a3b180957ba232ce59301e", checked := Tryz.checked }
namespace Rows
def none {H : Type} : Left H := { results := [], args := [] }

/- WHAT THE LISTED PACKAGE-LEVEL VARIABLES READ AS WHEN THE CALL BEGINS. Each datum BY PROGRAM (the guide's laid-datum.mjs) off the statement by which the dump's own 'gosem.cut.vars' lays the variable. In a bare row this is a premise. The card (YtficfljjnbnhbaaGreatDoorCards.lean) ties it to the program's text. -/
def laid_partbook_pitch_naturals {H : Type} : DataW H := .agg [.lit (.int .i64 0), .lit (.int .i64 2), .lit (.int .i64 4), .lit (.int .i64 5), .lit (.int .i64 7), .lit (.int .i64 9), .lit (.int .i64 11)]

/-- 'partbooklaw20.BowingMatchesReference': WHATEVER THE INPUT: true; the input reads as it did. -/
def bowingMatchesReferenceSpec : ChangeSpec := { name := "bowingMatchesReference", fn := fun _ => fun
  | [d1, d2, d3, d4, d5, d6] => { results := [.lit (.bool true)], args := [d1, d2, d3, d4, d5, d6] }
  | _ => none }
def bowingMatchesReferenceRow : OpenClaim := { program := "ytficfljjnbnhbaagreatdoor", sum := "09936bd7ade2af099e65519775ec6782c0d82e7184a3b180957ba232ce59301e", func := "partbook/partbooklaw20.BowingMatchesReference", spec := "bowingMatchesReference", unfollowed := true, recurses := true, named := ["partbook/pitch.naturals"], plainKeys := false, apart := false, laid := [("partbook/pitch.naturals", laid_partbook_pitch_naturals)] }
def BowingMatchesReferenceSaid : Prop := bowingMatchesReferenceRow.holds Tryz.pinned (OpenSpec.ofChange bowingMatchesReferenceSpec)

/-- ITS FALSE NEIGHBOUR: 'it returns false'. Refute it at one input. -/
def bowingMatchesReferenceWrong : ChangeSpec := { name := "bowingMatchesReference", fn := fun _ => fun
  | [d1, d2, d3, d4, d5, d6] => { results := [.lit (.bool false)], args := [d1, d2, d3, d4, d5, d6] }
  | _ => none }
def BowingMatchesReferenceWrongFalsely : Prop := bowingMatchesReferenceRow.holds Tryz.pinned (OpenSpec.ofChange bowingMatchesReferenceWrong)

/-- 'partbooklaw20.BowingAgrees': WHATEVER THE INPUT: true; the input reads as it did. -/
def bowingAgreesSpec : ChangeSpec := { name := "bowingAgrees", fn := fun _ => fun
  | [d1, d2, d3, d4] => { results := [.lit (.bool true)], args := [d1, d2, d3, d4] }
  | _ => none }
def bowingAgreesRow : OpenClaim := { program := "ytficfljjnbnhbaagreatdoor", sum := "09936bd7ade2af099e65519775ec6782c0d82e7184a3b180957ba232ce59301e", func := "partbook/partbooklaw20.BowingAgrees", spec := "bowingAgrees", unfollowed := true, recurses := true, named := ["partbook/pitch.naturals"], plainKeys := false, apart := false, laid := [("partbook/pitch.naturals", laid_partbook_pitch_naturals)] }
def BowingAgreesSaid : Prop := bowingAgreesRow.holds Tryz.pinned (OpenSpec.ofChange bowingAgreesSpec)

/-- ITS FALSE NEIGHBOUR: 'it returns false'. Refute it at one input. -/
def bowingAgreesWrong : ChangeSpec := { name := "bowingAgrees", fn := fun _ => fun
  | [d1, d2, d3, d4] => { results := [.lit (.bool false)], args := [d1, d2, d3, d4] }
  | _ => none }
def BowingAgreesWrongFalsely : Prop := bowingAgreesRow.holds Tryz.pinned (OpenSpec.ofChange bowingAgreesWrong)

/-- 'partbooklaw20.BowingRestores': WHATEVER THE INPUT: true; the input reads as it did. -/
def bowingRestoresSpec : ChangeSpec := { name := "bowingRestores", fn := fun _ => fun
  | [d1, d2, d3, d4, d5] => { results := [.lit (.bool true)], args := [d1, d2, d3, d4, d5] }
  | _ => none }
def bowingRestoresRow : OpenClaim := { program := "ytficfljjnbnhbaagreatdoor", sum := "09936bd7ade2af099e65519775ec6782c0d82e7184a3b180957ba232ce59301e", func := "partbook/partbooklaw20.BowingRestores", spec := "bowingRestores", unfollowed := true, recurses := true, named := ["partbook/pitch.naturals"], plainKeys := false, apart := false, laid := [("partbook/pitch.naturals", laid_partbook_pitch_naturals)] }
def BowingRestoresSaid : Prop := bowingRestoresRow.holds Tryz.pinned (OpenSpec.ofChange bowingRestoresSpec)

/-- ITS FALSE NEIGHBOUR: 'it returns false'. Refute it at one input. -/
def bowingRestoresWrong : ChangeSpec := { name := "bowingRestores", fn := fun _ => fun
  | [d1, d2, d3, d4, d5] => { results := [.lit (.bool false)], args := [d1, d2, d3, d4, d5] }
  | _ => none }
def BowingRestoresWrongFalsely : Prop := bowingRestoresRow.holds Tryz.pinned (OpenSpec.ofChange bowingRestoresWrong)

/-- 'partbooklaw20.BowingLeast': WHATEVER THE INPUT: true; the input reads as it did. -/
def bowingLeastSpec : ChangeSpec := { name := "bowingLeast", fn := fun _ => fun
  | [d1, d2, d3, d4, d5] => { results := [.lit (.bool true)], args := [d1, d2, d3, d4, d5] }
  | _ => none }
def bowingLeastRow : OpenClaim := { program := "ytficfljjnbnhbaagreatdoor", sum := "09936bd7ade2af099e65519775ec6782c0d82e7184a3b180957ba232ce59301e", func := "partbook/partbooklaw20.BowingLeast", spec := "bowingLeast", unfollowed := true, recurses := true, named := ["partbook/pitch.naturals"], plainKeys := false, apart := false, laid := [("partbook/pitch.naturals", laid_partbook_pitch_naturals)] }
def BowingLeastSaid : Prop := bowingLeastRow.holds Tryz.pinned (OpenSpec.ofChange bowingLeastSpec)

/-- ITS FALSE NEIGHBOUR: 'it returns false'. Refute it at one input. -/
def bowingLeastWrong : ChangeSpec := { name := "bowingLeast", fn := fun _ => fun
  | [d1, d2, d3, d4, d5] => { results := [.lit (.bool false)], args := [d1, d2, d3, d4, d5] }
  | _ => none }
def BowingLeastWrongFalsely : Prop := bowingLeastRow.holds Tryz.pinned (OpenSpec.ofChange bowingLeastWrong)

/-- 'partbooklaw20.BowingExcepts': WHATEVER THE INPUT: true; the input reads as it did. -/
def bowingExceptsSpec : ChangeSpec := { name := "bowingExcepts", fn := fun _ => fun
  | [d1, d2, d3, d4] => { results := [.lit (.bool true)], args := [d1, d2, d3, d4] }
  | _ => none }
def bowingExceptsRow : OpenClaim := { program := "ytficfljjnbnhbaagreatdoor", sum := "09936bd7ade2af099e65519775ec6782c0d82e7184a3b180957ba232ce59301e", func := "partbook/partbooklaw20.BowingExcepts", spec := "bowingExcepts", unfollowed := true, recurses := true, named := ["partbook/pitch.naturals"], plainKeys := false, apart := false, laid := [("partbook/pitch.naturals", laid_partbook_pitch_naturals)] }
def BowingExceptsSaid : Prop := bowingExceptsRow.holds Tryz.pinned (OpenSpec.ofChange bowingExceptsSpec)

/-- ITS FALSE NEIGHBOUR: 'it returns false'. Refute it at one input. -/
def bowingExceptsWrong : ChangeSpec := { name := "bowingExcepts", fn := fun _ => fun
  | [d1, d2, d3, d4] => { results := [.lit (.bool false)], args := [d1, d2, d3, d4] }
  | _ => none }
def BowingExceptsWrongFalsely : Prop := bowingExceptsRow.holds Tryz.pinned (OpenSpec.ofChange bowingExceptsWrong)

/-- 'partbooklaw20.BowingChoices': WHATEVER THE INPUT: true; the input reads as it did. -/
def bowingChoicesSpec : ChangeSpec := { name := "bowingChoices", fn := fun _ => fun
  | [d] => { results := [.lit (.bool true)], args := [d] }
  | _ => none }
def bowingChoicesRow : OpenClaim := { program := "ytficfljjnbnhbaagreatdoor", sum := "09936bd7ade2af099e65519775ec6782c0d82e7184a3b180957ba232ce59301e", func := "partbook/partbooklaw20.BowingChoices", spec := "bowingChoices", unfollowed := true, recurses := true, named := ["partbook/pitch.naturals"], plainKeys := false, apart := false, laid := [("partbook/pitch.naturals", laid_partbook_pitch_naturals)] }
def BowingChoicesSaid : Prop := bowingChoicesRow.holds Tryz.pinned (OpenSpec.ofChange bowingChoicesSpec)

/-- ITS FALSE NEIGHBOUR: 'it returns false'. Refute it at one input. -/
def bowingChoicesWrong : ChangeSpec := { name := "bowingChoices", fn := fun _ => fun
  | [d] => { results := [.lit (.bool false)], args := [d] }
  | _ => none }
def BowingChoicesWrongFalsely : Prop := bowingChoicesRow.holds Tryz.pinned (OpenSpec.ofChange bowingChoicesWrong)

/-- 'partbooklaw20.BowingOther': WHATEVER THE INPUT: true; the input reads as it did. -/
def bowingOtherSpec : ChangeSpec := { name := "bowingOther", fn := fun _ => fun
  | [d1, d2, d3, d4] => { results := [.lit (.bool true)], args := [d1, d2, d3, d4] }
  | _ => none }
def bowingOtherRow : OpenClaim := { program := "ytficfljjnbnhbaagreatdoor", sum := "09936bd7ade2af099e65519775ec6782c0d82e7184a3b180957ba232ce59301e", func := "partbook/partbooklaw20.BowingOther", spec := "bowingOther", unfollowed := true, recurses := true, named := ["partbook/pitch.naturals"], plainKeys := false, apart := false, laid := [("partbook/pitch.naturals", laid_partbook_pitch_naturals)] }
def BowingOtherSaid : Prop := bowingOtherRow.holds Tryz.pinned (OpenSpec.ofChange bowingOtherSpec)

/-- ITS FALSE NEIGHBOUR: 'it returns false'. Refute it at one input. -/
def bowingOtherWrong : ChangeSpec := { name := "bowingOther", fn := fun _ => fun
  | [d1, d2, d3, d4] => { results := [.lit (.bool false)], args := [d1, d2, d3, d4] }
  | _ => none }
def BowingOtherWrongFalsely : Prop := bowingOtherRow.holds Tryz.pinned (OpenSpec.ofChange bowingOtherWrong)

/- THE SECOND FORM. 'bulk': how many values and letters a reading holds, each counted each time it is reached (what is shared counts as often as it is met; a slice's spare places count too). A statement '..UptoSaid' is the law's where the arguments, and the package variables that the reading takes, are together of bulk at most 1048576: NARROWER than '..Said'. Prove '..Said' where nothing that the law and all that it calls make is longer than what came in: it says more and counts as full. Else prove '..UptoSaid'. A law counts once. -/
mutual
def uptoBulk {H : Type} : DataW H → Nat
  | .lit (.string bytes) => bytes.length + 1
  | .lit _ => 1
  | .nil => 1
  | .ptr d => uptoBulk d + 1
  | .slice elems spare => uptoBulkAll elems + uptoBulkAll spare + 1
  | .agg parts => uptoBulkAll parts + 1
  | .iface _ d => uptoBulk d + 1
  | .map entries => uptoBulkEntries entries + 1
  | .held _ => 1
def uptoBulkAll {H : Type} : List (DataW H) → Nat
  | [] => 0
  | d :: r => uptoBulk d + uptoBulkAll r
def uptoBulkEntries {H : Type} : List (Lit × DataW H) → Nat
  | [] => 0
  | x :: r => uptoBulkEntry x + uptoBulkEntries r
def uptoBulkEntry {H : Type} : Lit × DataW H → Nat
  | (.string bytes, d) => bytes.length + uptoBulk d + 1
  | (_, d) => uptoBulk d + 1
 end
def uptoSmall : (H : Type) → List (DataW H) → Bool := fun _ ds => decide (uptoBulkAll ds ≤ 1048576)
def OpenSpec.upto (s : _root_.Go.ChangeSpec) : _root_.Go.OpenSpec := { _root_.Go.OpenSpec.ofChange s with cond := some uptoSmall }

/-- 'partbooklaw20.BowingMatchesReference', WHERE WHAT IT READS IS OF BULK AT MOST 1048576: true; the input reads as it did. -/
def bowingMatchesReferenceUptoRow : OpenClaim := { program := "ytficfljjnbnhbaagreatdoor", sum := "09936bd7ade2af099e65519775ec6782c0d82e7184a3b180957ba232ce59301e", func := "partbook/partbooklaw20.BowingMatchesReference", spec := "bowingMatchesReference", unfollowed := true, recurses := true, named := ["partbook/pitch.naturals"], plainKeys := false, apart := false, laid := [("partbook/pitch.naturals", laid_partbook_pitch_naturals)], narrowed := true }
def BowingMatchesReferenceUptoSaid : Prop := bowingMatchesReferenceUptoRow.holds Tryz.pinned (OpenSpec.upto bowingMatchesReferenceSpec)

/-- 'partbooklaw20.BowingAgrees', WHERE WHAT IT READS IS OF BULK AT MOST 1048576: true; the input reads as it did. -/
def bowingAgreesUptoRow : OpenClaim := { program := "ytficfljjnbnhbaagreatdoor", sum := "09936bd7ade2af099e65519775ec6782c0d82e7184a3b180957ba232ce59301e", func := "partbook/partbooklaw20.BowingAgrees", spec := "bowingAgrees", unfollowed := true, recurses := true, named := ["partbook/pitch.naturals"], plainKeys := false, apart := false, laid := [("partbook/pitch.naturals", laid_partbook_pitch_naturals)], narrowed := true }
def BowingAgreesUptoSaid : Prop := bowingAgreesUptoRow.holds Tryz.pinned (OpenSpec.upto bowingAgreesSpec)

/-- 'partbooklaw20.BowingRestores', WHERE WHAT IT READS IS OF BULK AT MOST 1048576: true; the input reads as it did. -/
def bowingRestoresUptoRow : OpenClaim := { program := "ytficfljjnbnhbaagreatdoor", sum := "09936bd7ade2af099e65519775ec6782c0d82e7184a3b180957ba232ce59301e", func := "partbook/partbooklaw20.BowingRestores", spec := "bowingRestores", unfollowed := true, recurses := true, named := ["partbook/pitch.naturals"], plainKeys := false, apart := false, laid := [("partbook/pitch.naturals", laid_partbook_pitch_naturals)], narrowed := true }
def BowingRestoresUptoSaid : Prop := bowingRestoresUptoRow.holds Tryz.pinned (OpenSpec.upto bowingRestoresSpec)

/-- 'partbooklaw20.BowingLeast', WHERE WHAT IT READS IS OF BULK AT MOST 1048576: true; the input reads as it did. -/
def bowingLeastUptoRow : OpenClaim := { program := "ytficfljjnbnhbaagreatdoor", sum := "09936bd7ade2af099e65519775ec6782c0d82e7184a3b180957ba232ce59301e", func := "partbook/partbooklaw20.BowingLeast", spec := "bowingLeast", unfollowed := true, recurses := true, named := ["partbook/pitch.naturals"], plainKeys := false, apart := false, laid := [("partbook/pitch.naturals", laid_partbook_pitch_naturals)], narrowed := true }
def BowingLeastUptoSaid : Prop := bowingLeastUptoRow.holds Tryz.pinned (OpenSpec.upto bowingLeastSpec)

/-- 'partbooklaw20.BowingExcepts', WHERE WHAT IT READS IS OF BULK AT MOST 1048576: true; the input reads as it did. -/
def bowingExceptsUptoRow : OpenClaim := { program := "ytficfljjnbnhbaagreatdoor", sum := "09936bd7ade2af099e65519775ec6782c0d82e7184a3b180957ba232ce59301e", func := "partbook/partbooklaw20.BowingExcepts", spec := "bowingExcepts", unfollowed := true, recurses := true, named := ["partbook/pitch.naturals"], plainKeys := false, apart := false, laid := [("partbook/pitch.naturals", laid_partbook_pitch_naturals)], narrowed := true }
def BowingExceptsUptoSaid : Prop := bowingExceptsUptoRow.holds Tryz.pinned (OpenSpec.upto bowingExceptsSpec)

/-- 'partbooklaw20.BowingChoices', WHERE WHAT IT READS IS OF BULK AT MOST 1048576: true; the input reads as it did. -/
def bowingChoicesUptoRow : OpenClaim := { program := "ytficfljjnbnhbaagreatdoor", sum := "09936bd7ade2af099e65519775ec6782c0d82e7184a3b180957ba232ce59301e", func := "partbook/partbooklaw20.BowingChoices", spec := "bowingChoices", unfollowed := true, recurses := true, named := ["partbook/pitch.naturals"], plainKeys := false, apart := false, laid := [("partbook/pitch.naturals", laid_partbook_pitch_naturals)], narrowed := true }
def BowingChoicesUptoSaid : Prop := bowingChoicesUptoRow.holds Tryz.pinned (OpenSpec.upto bowingChoicesSpec)

/-- 'partbooklaw20.BowingOther', WHERE WHAT IT READS IS OF BULK AT MOST 1048576: true; the input reads as it did. -/
def bowingOtherUptoRow : OpenClaim := { program := "ytficfljjnbnhbaagreatdoor", sum := "09936bd7ade2af099e65519775ec6782c0d82e7184a3b180957ba232ce59301e", func := "partbook/partbooklaw20.BowingOther", spec := "bowingOther", unfollowed := true, recurses := true, named := ["partbook/pitch.naturals"], plainKeys := false, apart := false, laid := [("partbook/pitch.naturals", laid_partbook_pitch_naturals)], narrowed := true }
def BowingOtherUptoSaid : Prop := bowingOtherUptoRow.holds Tryz.pinned (OpenSpec.upto bowingOtherSpec)

end Rows
end Go.Proofs.YtficfljjnbnhbaaGreatDoor
