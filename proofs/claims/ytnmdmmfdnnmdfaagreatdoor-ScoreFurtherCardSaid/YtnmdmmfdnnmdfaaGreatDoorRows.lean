/-
  NARROWER THAN 'FOR EVERY INPUT', by the rows' own cells (each row's printed sentence says how): ScoreFurther: laid · EditionMatchesReference: laid.
  DERIVED. THE GIVEN ROWS OF THIS SEAT. 2 by the template 'for every input the law returns true; each argument reads behind the call as it read before'; 0 by the template 'total and deterministic' (their statements: YtnmdmmfdnnmdfaaGreatDoorTotals.lean).
  GIVEN WITH THE SEED: the statements are not yours to turn. If you find one false, say at which input.
  Laid BY PROGRAM, IN A SANDBOX (cutbox-rows.mjs): the forced cells as the released guide's own fill.sh prints them over the translation 0c6226fac535dbac… (all of the seat's roots in one cut). By AI agents, Wed Nov 11 2026. No macro, syntax, notation, axiom, sorry.
-/
import Derived.Test.YtnmdmmfdnnmdfaaGreatDoorChecked
import GoSem.Claim
import GoSem.ClaimJoined
import GoSem.ClaimMapViews
import Derived.JoinedTies
import Derived.KernelRfl
namespace Go.Proofs.YtnmdmmfdnnmdfaaGreatDoor
/- THE CELL 'sum', in the pinned program and in every row, IS THE sha256 OF THE DUMP (.gsa) THAT YtnmdmmfdnnmdfaaGreatDoorProg.lean LOADS. Nothing in Lean hashes anything: it is a label: what it is worth is what the hold of that sum in a sandbox is worth. -/
noncomputable def Tryz.pinned : Pinned := { name := "ytnmdmmfdnnmdfaagreatdoor", sum := "0c6226fac535dbac64d8a97e972c31074c3f5c360561858be50b997ba2e7601c", checked := Tryz.checked }
namespace Rows
def none {H : Type} : Left H := { results := [], args := [] }

/- WHAT THE LISTED PACKAGE-LEVEL VARIABLES READ AS WHEN THE CALL BEGINS. Each datum BY PROGRAM (the guide's laid-datum.mjs) off the statement by which the dump's own 'gosem.cut.vars' lays the variable. In a bare row this is a premise. The card (YtnmdmmfdnnmdfaaGreatDoorCards.lean) ties it to the program's text. -/
def laid_partbook_pitch_naturals {H : Type} : DataW H := .agg [.lit (.int .i64 0), .lit (.int .i64 2), .lit (.int .i64 4), .lit (.int .i64 5), .lit (.int .i64 7), .lit (.int .i64 9), .lit (.int .i64 11)]

/-- 'partbooklaw08.ScoreFurther': WHATEVER THE INPUT: true; the input reads as it did. -/
def scoreFurtherSpec : ChangeSpec := { name := "scoreFurther", fn := fun _ => fun
  | [d1, d2] => { results := [.lit (.bool true)], args := [d1, d2] }
  | _ => none }
def scoreFurtherRow : OpenClaim := { program := "ytnmdmmfdnnmdfaagreatdoor", sum := "0c6226fac535dbac64d8a97e972c31074c3f5c360561858be50b997ba2e7601c", func := "partbook/partbooklaw08.ScoreFurther", spec := "scoreFurther", unfollowed := true, recurses := true, named := ["partbook/pitch.naturals"], apart := false, laid := [("partbook/pitch.naturals", laid_partbook_pitch_naturals)] }
def ScoreFurtherSaid : Prop := scoreFurtherRow.holds Tryz.pinned (OpenSpec.ofChange scoreFurtherSpec)

/-- ITS FALSE NEIGHBOUR: 'it returns false'. Refute it at one input. -/
def scoreFurtherWrong : ChangeSpec := { name := "scoreFurther", fn := fun _ => fun
  | [d1, d2] => { results := [.lit (.bool false)], args := [d1, d2] }
  | _ => none }
def ScoreFurtherWrongFalsely : Prop := scoreFurtherRow.holds Tryz.pinned (OpenSpec.ofChange scoreFurtherWrong)

/-- 'partbooklaw11.EditionMatchesReference': WHATEVER THE INPUT: true; the input reads as it did. -/
def editionMatchesReferenceSpec : ChangeSpec := { name := "editionMatchesReference", fn := fun _ => fun
  | [d1, d2, d3, d4, d5, d6, d7] => { results := [.lit (.bool true)], args := [d1, d2, d3, d4, d5, d6, d7] }
  | _ => none }
def editionMatchesReferenceRow : OpenClaim := { program := "ytnmdmmfdnnmdfaagreatdoor", sum := "0c6226fac535dbac64d8a97e972c31074c3f5c360561858be50b997ba2e7601c", func := "partbook/partbooklaw11.EditionMatchesReference", spec := "editionMatchesReference", unfollowed := true, recurses := true, named := ["partbook/pitch.naturals"], apart := false, laid := [("partbook/pitch.naturals", laid_partbook_pitch_naturals)] }
def EditionMatchesReferenceSaid : Prop := editionMatchesReferenceRow.holds Tryz.pinned (OpenSpec.ofChange editionMatchesReferenceSpec)

/-- ITS FALSE NEIGHBOUR: 'it returns false'. Refute it at one input. -/
def editionMatchesReferenceWrong : ChangeSpec := { name := "editionMatchesReference", fn := fun _ => fun
  | [d1, d2, d3, d4, d5, d6, d7] => { results := [.lit (.bool false)], args := [d1, d2, d3, d4, d5, d6, d7] }
  | _ => none }
def EditionMatchesReferenceWrongFalsely : Prop := editionMatchesReferenceRow.holds Tryz.pinned (OpenSpec.ofChange editionMatchesReferenceWrong)

/- THE SECOND FORM. 'bulk': how many values and letters a reading holds, each counted each time it is reached (what is shared counts as often as it is met; a slice's spare places count too). A statement '..UptoSaid' is the law's where the arguments, and the package variables that the reading takes, are together of bulk at most 1048576: NARROWER than '..Said'. Prove '..Said' where nothing that the law and all that it calls make is longer than what came in: it says more and counts as full. Else prove '..UptoSaid'. A law counts once. -/
mutual
def uptoBulk {H : Type} : DataW H → Nat
  | .lit (.string bytes) => bytes.length + 1
  | .lit _ => 1
  | .nil => 1
  | .ptr d => uptoBulk d + 1
  | .slice elems spare => uptoBulkAll elems + uptoBulkAll spare + 1
  | .agg parts => uptoBulkAll parts + 1
  | .iface _ d => uptoBulk d + 1
  | .map entries => uptoBulkEntries entries + 1
  | .held _ => 1
def uptoBulkAll {H : Type} : List (DataW H) → Nat
  | [] => 0
  | d :: r => uptoBulk d + uptoBulkAll r
def uptoBulkEntries {H : Type} : List (Lit × DataW H) → Nat
  | [] => 0
  | x :: r => uptoBulkEntry x + uptoBulkEntries r
def uptoBulkEntry {H : Type} : Lit × DataW H → Nat
  | (.string bytes, d) => bytes.length + uptoBulk d + 1
  | (_, d) => uptoBulk d + 1
 end
def uptoSmall : (H : Type) → List (DataW H) → Bool := fun _ ds => decide (uptoBulkAll ds ≤ 1048576)
def OpenSpec.upto (s : _root_.Go.ChangeSpec) : _root_.Go.OpenSpec := { _root_.Go.OpenSpec.ofChange s with cond := some uptoSmall }

/-- 'partbooklaw08.ScoreFurther', WHERE WHAT IT READS IS OF BULK AT MOST 1048576: true; the input reads as it did. -/
def scoreFurtherUptoRow : OpenClaim := { program := "ytnmdmmfdnnmdfaagreatdoor", sum := "0c6226fac535dbac64d8a97e972c31074c3f5c360561858be50b997ba2e7601c", func := "partbook/partbooklaw08.ScoreFurther", spec := "scoreFurther", unfollowed := true, recurses := true, named := ["partbook/pitch.naturals"], apart := false, laid := [("partbook/pitch.naturals", laid_partbook_pitch_naturals)], narrowed := true }
def ScoreFurtherUptoSaid : Prop := scoreFurtherUptoRow.holds Tryz.pinned (OpenSpec.upto scoreFurtherSpec)

/-- 'partbooklaw11.EditionMatchesReference', WHERE WHAT IT READS IS OF BULK AT MOST 1048576: true; the input reads as it did. -/
def editionMatchesReferenceUptoRow : OpenClaim := { program := "ytnmdmmfdnnmdfaagreatdoor", sum := "0c6226fac535dbac64d8a97e972c31074c3f5c360561858be50b997ba2e7601c", func := "partbook/partbooklaw11.EditionMatchesReference", spec := "editionMatchesReference", unfollowed := true, recurses := true, named := ["partbook/pitch.naturals"], apart := false, laid := [("partbook/pitch.naturals", laid_partbook_pitch_naturals)], narrowed := true }
def EditionMatchesReferenceUptoSaid : Prop := editionMatchesReferenceUptoRow.holds Tryz.pinned (OpenSpec.upto editionMatchesReferenceSpec)

end Rows
end Go.Proofs.YtnmdmmfdnnmdfaaGreatDoor
