/-
  No cell of these rows narrows 'for every input' (looked for: loops, veiled, ifaces, maps, wideKeys, modest, calm, conditions, laid).
  DERIVED. THE GIVEN ROWS OF THIS SEAT. 5 by the template 'for every input the law returns true; each argument reads behind the call as it read before'; 0 by the template 'total and deterministic' (their statements: YtjjlckhdgnoopaaTotals.lean).
  GIVEN WITH THE SEED: the statements are not yours to turn. If you find one false, say at which input.
  Laid BY PROGRAM, IN A SANDBOX (cutbox-rows.mjs): the forced cells as the released guide's own fill.sh prints them over the translation 645fa7476efe69f3… (all of the seat's roots in one cut). By AI agents, Wed Nov 11 2026. No macro, syntax, notation, axiom, sorry.
-/
import Derived.Test.YtjjlckhdgnoopaaChecked
import GoSem.Claim
import GoSem.ClaimJoined
import GoSem.ClaimMapViews
import Derived.JoinedTies
import Derived.KernelRfl
namespace Go.Proofs.Ytjjlckhdgnoopaa
/- THE CELL 'sum', in the pinned program and in every row, IS THE sha256 OF THE DUMP (.gsa) THAT YtjjlckhdgnoopaaProg.lean LOADS. Nothing in Lean hashes anything: it is a label: what it is worth is what the hold of that sum in a sandbox is worth. -/
noncomputable def Try.pinned : Pinned := { name := "ytjjlckhdgnoopaa", sum := "645fa7476efe69f3665f2928e4f33b910a903469eb6920e6943bd745845df3c8", checked := Try.checked }
namespace Rows
def none {H : Type} : Left H := { results := [], args := [] }

/-- 'partbooklaw11.EditionLetters': WHATEVER THE INPUT: true; the input reads as it did. -/
def editionLettersSpec : ChangeSpec := { name := "editionLetters", fn := fun _ => fun
  | [d1, d2, d3] => { results := [.lit (.bool true)], args := [d1, d2, d3] }
  | _ => none }
def editionLettersRow : OpenClaim := { program := "ytjjlckhdgnoopaa", sum := "645fa7476efe69f3665f2928e4f33b910a903469eb6920e6943bd745845df3c8", func := "partbook/partbooklaw11.EditionLetters", spec := "editionLetters", unfollowed := true, recurses := true, apart := false }
def EditionLettersSaid : Prop := editionLettersRow.holds Try.pinned (OpenSpec.ofChange editionLettersSpec)

/-- ITS FALSE NEIGHBOUR: 'it returns false'. Refute it at one input. -/
def editionLettersWrong : ChangeSpec := { name := "editionLetters", fn := fun _ => fun
  | [d1, d2, d3] => { results := [.lit (.bool false)], args := [d1, d2, d3] }
  | _ => none }
def EditionLettersWrongFalsely : Prop := editionLettersRow.holds Try.pinned (OpenSpec.ofChange editionLettersWrong)

/-- 'partbooklaw11.EditionNumbers': WHATEVER THE INPUT: true; the input reads as it did. -/
def editionNumbersSpec : ChangeSpec := { name := "editionNumbers", fn := fun _ => fun
  | [d1, d2] => { results := [.lit (.bool true)], args := [d1, d2] }
  | _ => none }
def editionNumbersRow : OpenClaim := { program := "ytjjlckhdgnoopaa", sum := "645fa7476efe69f3665f2928e4f33b910a903469eb6920e6943bd745845df3c8", func := "partbook/partbooklaw11.EditionNumbers", spec := "editionNumbers", unfollowed := true, recurses := true, apart := false }
def EditionNumbersSaid : Prop := editionNumbersRow.holds Try.pinned (OpenSpec.ofChange editionNumbersSpec)

/-- ITS FALSE NEIGHBOUR: 'it returns false'. Refute it at one input. -/
def editionNumbersWrong : ChangeSpec := { name := "editionNumbers", fn := fun _ => fun
  | [d1, d2] => { results := [.lit (.bool false)], args := [d1, d2] }
  | _ => none }
def EditionNumbersWrongFalsely : Prop := editionNumbersRow.holds Try.pinned (OpenSpec.ofChange editionNumbersWrong)

/-- 'partbooklaw11.EditionPlaces': WHATEVER THE INPUT: true; the input reads as it did. -/
def editionPlacesSpec : ChangeSpec := { name := "editionPlaces", fn := fun _ => fun
  | [d1, d2] => { results := [.lit (.bool true)], args := [d1, d2] }
  | _ => none }
def editionPlacesRow : OpenClaim := { program := "ytjjlckhdgnoopaa", sum := "645fa7476efe69f3665f2928e4f33b910a903469eb6920e6943bd745845df3c8", func := "partbook/partbooklaw11.EditionPlaces", spec := "editionPlaces", unfollowed := true, recurses := true, apart := false }
def EditionPlacesSaid : Prop := editionPlacesRow.holds Try.pinned (OpenSpec.ofChange editionPlacesSpec)

/-- ITS FALSE NEIGHBOUR: 'it returns false'. Refute it at one input. -/
def editionPlacesWrong : ChangeSpec := { name := "editionPlaces", fn := fun _ => fun
  | [d1, d2] => { results := [.lit (.bool false)], args := [d1, d2] }
  | _ => none }
def EditionPlacesWrongFalsely : Prop := editionPlacesRow.holds Try.pinned (OpenSpec.ofChange editionPlacesWrong)

/-- 'partbooklaw11.EditionVisits': WHATEVER THE INPUT: true; the input reads as it did. -/
def editionVisitsSpec : ChangeSpec := { name := "editionVisits", fn := fun _ => fun
  | [d1, d2, d3] => { results := [.lit (.bool true)], args := [d1, d2, d3] }
  | _ => none }
def editionVisitsRow : OpenClaim := { program := "ytjjlckhdgnoopaa", sum := "645fa7476efe69f3665f2928e4f33b910a903469eb6920e6943bd745845df3c8", func := "partbook/partbooklaw11.EditionVisits", spec := "editionVisits", unfollowed := true, recurses := true, apart := false }
def EditionVisitsSaid : Prop := editionVisitsRow.holds Try.pinned (OpenSpec.ofChange editionVisitsSpec)

/-- ITS FALSE NEIGHBOUR: 'it returns false'. Refute it at one input. -/
def editionVisitsWrong : ChangeSpec := { name := "editionVisits", fn := fun _ => fun
  | [d1, d2, d3] => { results := [.lit (.bool false)], args := [d1, d2, d3] }
  | _ => none }
def EditionVisitsWrongFalsely : Prop := editionVisitsRow.holds Try.pinned (OpenSpec.ofChange editionVisitsWrong)

/-- 'partbooklaw11.EditionOther': WHATEVER THE INPUT: true; the input reads as it did. -/
def editionOtherSpec : ChangeSpec := { name := "editionOther", fn := fun _ => fun
  | [d1, d2, d3, d4, d5] => { results := [.lit (.bool true)], args := [d1, d2, d3, d4, d5] }
  | _ => none }
def editionOtherRow : OpenClaim := { program := "ytjjlckhdgnoopaa", sum := "645fa7476efe69f3665f2928e4f33b910a903469eb6920e6943bd745845df3c8", func := "partbook/partbooklaw11.EditionOther", spec := "editionOther", unfollowed := true, recurses := true, apart := false }
def EditionOtherSaid : Prop := editionOtherRow.holds Try.pinned (OpenSpec.ofChange editionOtherSpec)

/-- ITS FALSE NEIGHBOUR: 'it returns false'. Refute it at one input. -/
def editionOtherWrong : ChangeSpec := { name := "editionOther", fn := fun _ => fun
  | [d1, d2, d3, d4, d5] => { results := [.lit (.bool false)], args := [d1, d2, d3, d4, d5] }
  | _ => none }
def EditionOtherWrongFalsely : Prop := editionOtherRow.holds Try.pinned (OpenSpec.ofChange editionOtherWrong)

/- THE SECOND FORM. 'bulk': how many values and letters a reading holds, each counted each time it is reached (what is shared counts as often as it is met; a slice's spare places count too). A statement '..UptoSaid' is the law's where the arguments, and the package variables that the reading takes, are together of bulk at most 1048576: NARROWER than '..Said'. Prove '..Said' where nothing that the law and all that it calls make is longer than what came in: it says more and counts as full. Else prove '..UptoSaid'. A law counts once. -/
mutual
def uptoBulk {H : Type} : DataW H → Nat
  | .lit (.string bytes) => bytes.length + 1
  | .lit _ => 1
  | .nil => 1
  | .ptr d => uptoBulk d + 1
  | .slice elems spare => uptoBulkAll elems + uptoBulkAll spare + 1
  | .agg parts => uptoBulkAll parts + 1
  | .iface _ d => uptoBulk d + 1
  | .map entries => uptoBulkEntries entries + 1
  | .held _ => 1
def uptoBulkAll {H : Type} : List (DataW H) → Nat
  | [] => 0
  | d :: r => uptoBulk d + uptoBulkAll r
def uptoBulkEntries {H : Type} : List (Lit × DataW H) → Nat
  | [] => 0
  | x :: r => uptoBulkEntry x + uptoBulkEntries r
def uptoBulkEntry {H : Type} : Lit × DataW H → Nat
  | (.string bytes, d) => bytes.length + uptoBulk d + 1
  | (_, d) => uptoBulk d + 1
 end
def uptoSmall : (H : Type) → List (DataW H) → Bool := fun _ ds => decide (uptoBulkAll ds ≤ 1048576)
def OpenSpec.upto (s : _root_.Go.ChangeSpec) : _root_.Go.OpenSpec := { _root_.Go.OpenSpec.ofChange s with cond := some uptoSmall }

/-- 'partbooklaw11.EditionLetters', WHERE WHAT IT READS IS OF BULK AT MOST 1048576: true; the input reads as it did. -/
def editionLettersUptoRow : OpenClaim := { program := "ytjjlckhdgnoopaa", sum := "645fa7476efe69f3665f2928e4f33b910a903469eb6920e6943bd745845df3c8", func := "partbook/partbooklaw11.EditionLetters", spec := "editionLetters", unfollowed := true, recurses := true, apart := false, narrowed := true }
def EditionLettersUptoSaid : Prop := editionLettersUptoRow.holds Try.pinned (OpenSpec.upto editionLettersSpec)

/-- 'partbooklaw11.EditionNumbers', WHERE WHAT IT READS IS OF BULK AT MOST 1048576: true; the input reads as it did. -/
def editionNumbersUptoRow : OpenClaim := { program := "ytjjlckhdgnoopaa", sum := "645fa7476efe69f3665f2928e4f33b910a903469eb6920e6943bd745845df3c8", func := "partbook/partbooklaw11.EditionNumbers", spec := "editionNumbers", unfollowed := true, recurses := true, apart := false, narrowed := true }
def EditionNumbersUptoSaid : Prop := editionNumbersUptoRow.holds Try.pinned (OpenSpec.upto editionNumbersSpec)

/-- 'partbooklaw11.EditionPlaces', WHERE WHAT IT READS IS OF BULK AT MOST 1048576: true; the input reads as it did. -/
def editionPlacesUptoRow : OpenClaim := { program := "ytjjlckhdgnoopaa", sum := "645fa7476efe69f3665f2928e4f33b910a903469eb6920e6943bd745845df3c8", func := "partbook/partbooklaw11.EditionPlaces", spec := "editionPlaces", unfollowed := true, recurses := true, apart := false, narrowed := true }
def EditionPlacesUptoSaid : Prop := editionPlacesUptoRow.holds Try.pinned (OpenSpec.upto editionPlacesSpec)

/-- 'partbooklaw11.EditionVisits', WHERE WHAT IT READS IS OF BULK AT MOST 1048576: true; the input reads as it did. -/
def editionVisitsUptoRow : OpenClaim := { program := "ytjjlckhdgnoopaa", sum := "645fa7476efe69f3665f2928e4f33b910a903469eb6920e6943bd745845df3c8", func := "partbook/partbooklaw11.EditionVisits", spec := "editionVisits", unfollowed := true, recurses := true, apart := false, narrowed := true }
def EditionVisitsUptoSaid : Prop := editionVisitsUptoRow.holds Try.pinned (OpenSpec.upto editionVisitsSpec)

/-- 'partbooklaw11.EditionOther', WHERE WHAT IT READS IS OF BULK AT MOST 1048576: true; the input reads as it did. -/
def editionOtherUptoRow : OpenClaim := { program := "ytjjlckhdgnoopaa", sum := "645fa7476efe69f3665f2928e4f33b910a903469eb6920e6943bd745845df3c8", func := "partbook/partbooklaw11.EditionOther", spec := "editionOther", unfollowed := true, recurses := true, apart := false, narrowed := true }
def EditionOtherUptoSaid : Prop := editionOtherUptoRow.holds Try.pinned (OpenSpec.upto editionOtherSpec)

end Rows
end Go.Proofs.Ytjjlckhdgnoopaa
