/-
  NARROWER THAN 'FOR EVERY INPUT', by the rows' own cells (each row's printed sentence says how): ScorePlays: laid · ScoreWith: laid · ScoreFurther: laid · ScoreRefuses: laid · ScoreMatchesReference: laid · ScoreFinds: laid.
  DERIVED. THE GIVEN ROWS OF THIS SEAT. 6 by the template 'for every input the law returns true; each argument reads behind the call as it read before'; 0 by the template 'total and deterministic' (their statements: YtjonnpjbibgjnaaGreatDoorTotals.lean).
  GIVEN WITH THE SEED: the statements are not yours to turn. If you find one false, say at which input.
  Laid BY PROGRAM, IN A SANDBOX (cutbox-rows.mjs): the forced cells as the released guide's own fill.sh prints them over the translation 35b9e9c9edeb3b88… (all of the seat's roots in one cut). By AI agents, Wed Nov 11 2026. No macro, syntax, notation, axiom, sorry.
-/
import Derived.Test.YtjonnpjbibgjnaaGreatDoorChecked
import GoSem.Claim
import GoSem.ClaimJoined
import GoSem.ClaimMapViews
import Derived.JoinedTies
import Derived.KernelRfl
namespace Go.Proofs.YtjonnpjbibgjnaaGreatDoor
/- THE CELL 'sum', in the pinned program and in every row, IS THE sha256 OF THE DUMP (.gsa) THAT YtjonnpjbibgjnaaGreatDoorProg.lean LOADS. Nothing in Lean hashes anything: it is a label: what it is worth is what the hold of that sum in a sandbox is worth. -/
noncomputable def Tryz.pinned : Pinned := { name := "ytjonnpjbibgjnaagreatdoor", sum := "35b9e9c9edeb3b88e9c1766be09e1c533c08d03d9a141bf9a500014faaa484c1", checked := Tryz.checked }
namespace Rows
def none {H : Type} : Left H := { results := [], args := [] }

/- WHAT THE LISTED PACKAGE-LEVEL VARIABLES READ AS WHEN THE CALL BEGINS. Each datum BY PROGRAM (the guide's laid-datum.mjs) off the statement by which the dump's own 'gosem.cut.vars' lays the variable. In a bare row this is a premise. The card (YtjonnpjbibgjnaaGreatDoorCards.lean) ties it to the program's text. -/
def laid_partbook_pitch_naturals {H : Type} : DataW H := .agg [.lit (.int .i64 0), .lit (.int .i64 2), .lit (.int .i64 4), .lit (.int .i64 5), .lit (.int .i64 7), .lit (.int .i64 9), .lit (.int .i64 11)]

/-- 'partbooklaw08.ScorePlays': WHATEVER THE INPUT: true; the input reads as it did. -/
def scorePlaysSpec : ChangeSpec := { name := "scorePlays", fn := fun _ => fun
  | [d] => { results := [.lit (.bool true)], args := [d] }
  | _ => none }
def scorePlaysRow : OpenClaim := { program := "ytjonnpjbibgjnaagreatdoor", sum := "35b9e9c9edeb3b88e9c1766be09e1c533c08d03d9a141bf9a500014faaa484c1", func := "partbook/partbooklaw08.ScorePlays", spec := "scorePlays", unfollowed := true, recurses := true, named := ["partbook/pitch.naturals"], apart := false, laid := [("partbook/pitch.naturals", laid_partbook_pitch_naturals)] }
def ScorePlaysSaid : Prop := scorePlaysRow.holds Tryz.pinned (OpenSpec.ofChange scorePlaysSpec)

/-- ITS FALSE NEIGHBOUR: 'it returns false'. Refute it at one input. -/
def scorePlaysWrong : ChangeSpec := { name := "scorePlays", fn := fun _ => fun
  | [d] => { results := [.lit (.bool false)], args := [d] }
  | _ => none }
def ScorePlaysWrongFalsely : Prop := scorePlaysRow.holds Tryz.pinned (OpenSpec.ofChange scorePlaysWrong)

/-- 'partbooklaw08.ScoreWith': WHATEVER THE INPUT: true; the input reads as it did. -/
def scoreWithSpec : ChangeSpec := { name := "scoreWith", fn := fun _ => fun
  | [d1, d2, d3] => { results := [.lit (.bool true)], args := [d1, d2, d3] }
  | _ => none }
def scoreWithRow : OpenClaim := { program := "ytjonnpjbibgjnaagreatdoor", sum := "35b9e9c9edeb3b88e9c1766be09e1c533c08d03d9a141bf9a500014faaa484c1", func := "partbook/partbooklaw08.ScoreWith", spec := "scoreWith", unfollowed := true, recurses := true, named := ["partbook/pitch.naturals"], apart := false, laid := [("partbook/pitch.naturals", laid_partbook_pitch_naturals)] }
def ScoreWithSaid : Prop := scoreWithRow.holds Tryz.pinned (OpenSpec.ofChange scoreWithSpec)

/-- ITS FALSE NEIGHBOUR: 'it returns false'. Refute it at one input. -/
def scoreWithWrong : ChangeSpec := { name := "scoreWith", fn := fun _ => fun
  | [d1, d2, d3] => { results := [.lit (.bool false)], args := [d1, d2, d3] }
  | _ => none }
def ScoreWithWrongFalsely : Prop := scoreWithRow.holds Tryz.pinned (OpenSpec.ofChange scoreWithWrong)

/-- 'partbooklaw08.ScoreFurther': WHATEVER THE INPUT: true; the input reads as it did. -/
def scoreFurtherSpec : ChangeSpec := { name := "scoreFurther", fn := fun _ => fun
  | [d1, d2] => { results := [.lit (.bool true)], args := [d1, d2] }
  | _ => none }
def scoreFurtherRow : OpenClaim := { program := "ytjonnpjbibgjnaagreatdoor", sum := "35b9e9c9edeb3b88e9c1766be09e1c533c08d03d9a141bf9a500014faaa484c1", func := "partbook/partbooklaw08.ScoreFurther", spec := "scoreFurther", unfollowed := true, recurses := true, named := ["partbook/pitch.naturals"], apart := false, laid := [("partbook/pitch.naturals", laid_partbook_pitch_naturals)] }
def ScoreFurtherSaid : Prop := scoreFurtherRow.holds Tryz.pinned (OpenSpec.ofChange scoreFurtherSpec)

/-- ITS FALSE NEIGHBOUR: 'it returns false'. Refute it at one input. -/
def scoreFurtherWrong : ChangeSpec := { name := "scoreFurther", fn := fun _ => fun
  | [d1, d2] => { results := [.lit (.bool false)], args := [d1, d2] }
  | _ => none }
def ScoreFurtherWrongFalsely : Prop := scoreFurtherRow.holds Tryz.pinned (OpenSpec.ofChange scoreFurtherWrong)

/-- 'partbooklaw08.ScoreRefuses': WHATEVER THE INPUT: true; the input reads as it did. -/
def scoreRefusesSpec : ChangeSpec := { name := "scoreRefuses", fn := fun _ => fun
  | [d1, d2] => { results := [.lit (.bool true)], args := [d1, d2] }
  | _ => none }
def scoreRefusesRow : OpenClaim := { program := "ytjonnpjbibgjnaagreatdoor", sum := "35b9e9c9edeb3b88e9c1766be09e1c533c08d03d9a141bf9a500014faaa484c1", func := "partbook/partbooklaw08.ScoreRefuses", spec := "scoreRefuses", unfollowed := true, recurses := true, named := ["partbook/pitch.naturals"], apart := false, laid := [("partbook/pitch.naturals", laid_partbook_pitch_naturals)] }
def ScoreRefusesSaid : Prop := scoreRefusesRow.holds Tryz.pinned (OpenSpec.ofChange scoreRefusesSpec)

/-- ITS FALSE NEIGHBOUR: 'it returns false'. Refute it at one input. -/
def scoreRefusesWrong : ChangeSpec := { name := "scoreRefuses", fn := fun _ => fun
  | [d1, d2] => { results := [.lit (.bool false)], args := [d1, d2] }
  | _ => none }
def ScoreRefusesWrongFalsely : Prop := scoreRefusesRow.holds Tryz.pinned (OpenSpec.ofChange scoreRefusesWrong)

/-- 'partbooklaw08.ScoreMatchesReference': WHATEVER THE INPUT: true; the input reads as it did. -/
def scoreMatchesReferenceSpec : ChangeSpec := { name := "scoreMatchesReference", fn := fun _ => fun
  | [d1, d2, d3, d4] => { results := [.lit (.bool true)], args := [d1, d2, d3, d4] }
  | _ => none }
def scoreMatchesReferenceRow : OpenClaim := { program := "ytjonnpjbibgjnaagreatdoor", sum := "35b9e9c9edeb3b88e9c1766be09e1c533c08d03d9a141bf9a500014faaa484c1", func := "partbook/partbooklaw08.ScoreMatchesReference", spec := "scoreMatchesReference", unfollowed := true, recurses := true, named := ["partbook/pitch.naturals"], apart := false, laid := [("partbook/pitch.naturals", laid_partbook_pitch_naturals)] }
def ScoreMatchesReferenceSaid : Prop := scoreMatchesReferenceRow.holds Tryz.pinned (OpenSpec.ofChange scoreMatchesReferenceSpec)

/-- ITS FALSE NEIGHBOUR: 'it returns false'. Refute it at one input. -/
def scoreMatchesReferenceWrong : ChangeSpec := { name := "scoreMatchesReference", fn := fun _ => fun
  | [d1, d2, d3, d4] => { results := [.lit (.bool false)], args := [d1, d2, d3, d4] }
  | _ => none }
def ScoreMatchesReferenceWrongFalsely : Prop := scoreMatchesReferenceRow.holds Tryz.pinned (OpenSpec.ofChange scoreMatchesReferenceWrong)

/-- 'partbooklaw08.ScoreFinds': WHATEVER THE INPUT: true; the input reads as it did. -/
def scoreFindsSpec : ChangeSpec := { name := "scoreFinds", fn := fun _ => fun
  | [d1, d2, d3] => { results := [.lit (.bool true)], args := [d1, d2, d3] }
  | _ => none }
def scoreFindsRow : OpenClaim := { program := "ytjonnpjbibgjnaagreatdoor", sum := "35b9e9c9edeb3b88e9c1766be09e1c533c08d03d9a141bf9a500014faaa484c1", func := "partbook/partbooklaw08.ScoreFinds", spec := "scoreFinds", unfollowed := true, recurses := true, named := ["partbook/pitch.naturals"], apart := false, laid := [("partbook/pitch.naturals", laid_partbook_pitch_naturals)] }
def ScoreFindsSaid : Prop := scoreFindsRow.holds Tryz.pinned (OpenSpec.ofChange scoreFindsSpec)

/-- ITS FALSE NEIGHBOUR: 'it returns false'. Refute it at one input. -/
def scoreFindsWrong : ChangeSpec := { name := "scoreFinds", fn := fun _ => fun
  | [d1, d2, d3] => { results := [.lit (.bool false)], args := [d1, d2, d3] }
  | _ => none }
def ScoreFindsWrongFalsely : Prop := scoreFindsRow.holds Tryz.pinned (OpenSpec.ofChange scoreFindsWrong)

/- THE SECOND FORM. 'bulk': how many values and letters a reading holds, each counted each time it is reached (what is shared counts as often as it is met; a slice's spare places count too). A statement '..UptoSaid' is the law's where the arguments, and the package variables that the reading takes, are together of bulk at most 1048576: NARROWER than '..Said'. Prove '..Said' where nothing that the law and all that it calls make is longer than what came in: it says more and counts as full. Else prove '..UptoSaid'. A law counts once. -/
mutual
def uptoBulk {H : Type} : DataW H → Nat
  | .lit (.string bytes) => bytes.length + 1
  | .lit _ => 1
  | .nil => 1
  | .ptr d => uptoBulk d + 1
  | .slice elems spare => uptoBulkAll elems + uptoBulkAll spare + 1
  | .agg parts => uptoBulkAll parts + 1
  | .iface _ d => uptoBulk d + 1
  | .map entries => uptoBulkEntries entries + 1
  | .held _ => 1
def uptoBulkAll {H : Type} : List (DataW H) → Nat
  | [] => 0
  | d :: r => uptoBulk d + uptoBulkAll r
def uptoBulkEntries {H : Type} : List (Lit × DataW H) → Nat
  | [] => 0
  | x :: r => uptoBulkEntry x + uptoBulkEntries r
def uptoBulkEntry {H : Type} : Lit × DataW H → Nat
  | (.string bytes, d) => bytes.length + uptoBulk d + 1
  | (_, d) => uptoBulk d + 1
 end
def uptoSmall : (H : Type) → List (DataW H) → Bool := fun _ ds => decide (uptoBulkAll ds ≤ 1048576)
def OpenSpec.upto (s : _root_.Go.ChangeSpec) : _root_.Go.OpenSpec := { _root_.Go.OpenSpec.ofChange s with cond := some uptoSmall }

/-- 'partbooklaw08.ScorePlays', WHERE WHAT IT READS IS OF BULK AT MOST 1048576: true; the input reads as it did. -/
def scorePlaysUptoRow : OpenClaim := { program := "ytjonnpjbibgjnaagreatdoor", sum := "35b9e9c9edeb3b88e9c1766be09e1c533c08d03d9a141bf9a500014faaa484c1", func := "partbook/partbooklaw08.ScorePlays", spec := "scorePlays", unfollowed := true, recurses := true, named := ["partbook/pitch.naturals"], apart := false, laid := [("partbook/pitch.naturals", laid_partbook_pitch_naturals)], narrowed := true }
def ScorePlaysUptoSaid : Prop := scorePlaysUptoRow.holds Tryz.pinned (OpenSpec.upto scorePlaysSpec)

/-- 'partbooklaw08.ScoreWith', WHERE WHAT IT READS IS OF BULK AT MOST 1048576: true; the input reads as it did. -/
def scoreWithUptoRow : OpenClaim := { program := "ytjonnpjbibgjnaagreatdoor", sum := "35b9e9c9edeb3b88e9c1766be09e1c533c08d03d9a141bf9a500014faaa484c1", func := "partbook/partbooklaw08.ScoreWith", spec := "scoreWith", unfollowed := true, recurses := true, named := ["partbook/pitch.naturals"], apart := false, laid := [("partbook/pitch.naturals", laid_partbook_pitch_naturals)], narrowed := true }
def ScoreWithUptoSaid : Prop := scoreWithUptoRow.holds Tryz.pinned (OpenSpec.upto scoreWithSpec)

/-- 'partbooklaw08.ScoreFurther', WHERE WHAT IT READS IS OF BULK AT MOST 1048576: true; the input reads as it did. -/
def scoreFurtherUptoRow : OpenClaim := { program := "ytjonnpjbibgjnaagreatdoor", sum := "35b9e9c9edeb3b88e9c1766be09e1c533c08d03d9a141bf9a500014faaa484c1", func := "partbook/partbooklaw08.ScoreFurther", spec := "scoreFurther", unfollowed := true, recurses := true, named := ["partbook/pitch.naturals"], apart := false, laid := [("partbook/pitch.naturals", laid_partbook_pitch_naturals)], narrowed := true }
def ScoreFurtherUptoSaid : Prop := scoreFurtherUptoRow.holds Tryz.pinned (OpenSpec.upto scoreFurtherSpec)

/-- 'partbooklaw08.ScoreRefuses', WHERE WHAT IT READS IS OF BULK AT MOST 1048576: true; the input reads as it did. -/
def scoreRefusesUptoRow : OpenClaim := { program := "ytjonnpjbibgjnaagreatdoor", sum := "35b9e9c9edeb3b88e9c1766be09e1c533c08d03d9a141bf9a500014faaa484c1", func := "partbook/partbooklaw08.ScoreRefuses", spec := "scoreRefuses", unfollowed := true, recurses := true, named := ["partbook/pitch.naturals"], apart := false, laid := [("partbook/pitch.naturals", laid_partbook_pitch_naturals)], narrowed := true }
def ScoreRefusesUptoSaid : Prop := scoreRefusesUptoRow.holds Tryz.pinned (OpenSpec.upto scoreRefusesSpec)

/-- 'partbooklaw08.ScoreMatchesReference', WHERE WHAT IT READS IS OF BULK AT MOST 1048576: true; the input reads as it did. -/
def scoreMatchesReferenceUptoRow : OpenClaim := { program := "ytjonnpjbibgjnaagreatdoor", sum := "35b9e9c9edeb3b88e9c1766be09e1c533c08d03d9a141bf9a500014faaa484c1", func := "partbook/partbooklaw08.ScoreMatchesReference", spec := "scoreMatchesReference", unfollowed := true, recurses := true, named := ["partbook/pitch.naturals"], apart := false, laid := [("partbook/pitch.naturals", laid_partbook_pitch_naturals)], narrowed := true }
def ScoreMatchesReferenceUptoSaid : Prop := scoreMatchesReferenceUptoRow.holds Tryz.pinned (OpenSpec.upto scoreMatchesReferenceSpec)

/-- 'partbooklaw08.ScoreFinds', WHERE WHAT IT READS IS OF BULK AT MOST 1048576: true; the input reads as it did. -/
def scoreFindsUptoRow : OpenClaim := { program := "ytjonnpjbibgjnaagreatdoor", sum := "35b9e9c9edeb3b88e9c1766be09e1c533c08d03d9a141bf9a500014faaa484c1", func := "partbook/partbooklaw08.ScoreFinds", spec := "scoreFinds", unfollowed := true, recurses := true, named := ["partbook/pitch.naturals"], apart := false, laid := [("partbook/pitch.naturals", laid_partbook_pitch_naturals)], narrowed := true }
def ScoreFindsUptoSaid : Prop := scoreFindsUptoRow.holds Tryz.pinned (OpenSpec.upto scoreFindsSpec)

end Rows
end Go.Proofs.YtjonnpjbibgjnaaGreatDoor
