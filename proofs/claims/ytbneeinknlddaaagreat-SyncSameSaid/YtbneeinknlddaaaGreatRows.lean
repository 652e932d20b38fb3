/-
  No cell of these rows narrows 'for every input' (looked for: loops, veiled, ifaces, maps, wideKeys, modest, calm, conditions, laid).
  DERIVED. THE GIVEN ROWS OF THIS SEAT. 4 by the template 'for every input the law returns true; each argument reads behind the call as it read before'; 0 by the template 'total and deterministic' (their statements: YtbneeinknlddaaaGreatTotals.lean).
  GIVEN WITH THE SEED: the statements are not yours to turn. If you find one false, say at which input.
  Laid BY PROGRAM, IN A SANDBOX (cutbox-rows.mjs): the forced cells as the released guide's own fill.sh prints them over the translation fcd13d304d175fa7… (all of the seat's roots in one cut). By AI agents, Wed Nov 11 2026. No macro, syntax, notation, axiom, sorry.
-/
import Derived.Test.YtbneeinknlddaaaGreatChecked
import GoSem.Claim
import GoSem.ClaimJoined
import GoSem.ClaimMapViews
import Derived.JoinedTies
import Derived.KernelRfl
namespace Go.Proofs.YtbneeinknlddaaaGreat
/- THE CELL 'sum', in the pinned program and in every row, IS THE sha256 OF THE DUMP (.gsa) THAT YtbneeinknlddaaaGreatProg.lean LOADS. Nothing in Lean hashes anything: it is a label: what it is worth is what the hold of that sum in a sandbox is worth. -/
noncomputable def Tryz.pinned : Pinned := { name := "ytbneeinknlddaaagreat", sum := "fcd13d304d175fa7e3d3191db34fa7ad06db38afab36b98d960901f304e15331", checked := Tryz.checked }
namespace Rows
def none {H : Type} : Left H := { results := [], args := [] }

/-- 'partbooklaw42.SyncCrashes': WHATEVER THE INPUT: true; the input reads as it did. -/
def syncCrashesSpec : ChangeSpec := { name := "syncCrashes", fn := fun _ => fun
  | [d1, d2, d3] => { results := [.lit (.bool true)], args := [d1, d2, d3] }
  | _ => none }
def syncCrashesRow : OpenClaim := { program := "ytbneeinknlddaaagreat", sum := "fcd13d304d175fa7e3d3191db34fa7ad06db38afab36b98d960901f304e15331", func := "partbook/partbooklaw42.SyncCrashes", spec := "syncCrashes", unfollowed := true, recurses := true, apart := false }
def SyncCrashesSaid : Prop := syncCrashesRow.holds Tryz.pinned (OpenSpec.ofChange syncCrashesSpec)

/-- ITS FALSE NEIGHBOUR: 'it returns false'. Refute it at one input. -/
def syncCrashesWrong : ChangeSpec := { name := "syncCrashes", fn := fun _ => fun
  | [d1, d2, d3] => { results := [.lit (.bool false)], args := [d1, d2, d3] }
  | _ => none }
def SyncCrashesWrongFalsely : Prop := syncCrashesRow.holds Tryz.pinned (OpenSpec.ofChange syncCrashesWrong)

/-- 'partbooklaw42.SyncExchanges': WHATEVER THE INPUT: true; the input reads as it did. -/
def syncExchangesSpec : ChangeSpec := { name := "syncExchanges", fn := fun _ => fun
  | [d1, d2] => { results := [.lit (.bool true)], args := [d1, d2] }
  | _ => none }
def syncExchangesRow : OpenClaim := { program := "ytbneeinknlddaaagreat", sum := "fcd13d304d175fa7e3d3191db34fa7ad06db38afab36b98d960901f304e15331", func := "partbook/partbooklaw42.SyncExchanges", spec := "syncExchanges", unfollowed := true, recurses := true, apart := false }
def SyncExchangesSaid : Prop := syncExchangesRow.holds Tryz.pinned (OpenSpec.ofChange syncExchangesSpec)

/-- ITS FALSE NEIGHBOUR: 'it returns false'. Refute it at one input. -/
def syncExchangesWrong : ChangeSpec := { name := "syncExchanges", fn := fun _ => fun
  | [d1, d2] => { results := [.lit (.bool false)], args := [d1, d2] }
  | _ => none }
def SyncExchangesWrongFalsely : Prop := syncExchangesRow.holds Tryz.pinned (OpenSpec.ofChange syncExchangesWrong)

/-- 'partbooklaw42.SyncKeeps': WHATEVER THE INPUT: true; the input reads as it did. -/
def syncKeepsSpec : ChangeSpec := { name := "syncKeeps", fn := fun _ => fun
  | [d1, d2, d3, d4] => { results := [.lit (.bool true)], args := [d1, d2, d3, d4] }
  | _ => none }
def syncKeepsRow : OpenClaim := { program := "ytbneeinknlddaaagreat", sum := "fcd13d304d175fa7e3d3191db34fa7ad06db38afab36b98d960901f304e15331", func := "partbook/partbooklaw42.SyncKeeps", spec := "syncKeeps", unfollowed := true, recurses := true, apart := false }
def SyncKeepsSaid : Prop := syncKeepsRow.holds Tryz.pinned (OpenSpec.ofChange syncKeepsSpec)

/-- ITS FALSE NEIGHBOUR: 'it returns false'. Refute it at one input. -/
def syncKeepsWrong : ChangeSpec := { name := "syncKeeps", fn := fun _ => fun
  | [d1, d2, d3, d4] => { results := [.lit (.bool false)], args := [d1, d2, d3, d4] }
  | _ => none }
def SyncKeepsWrongFalsely : Prop := syncKeepsRow.holds Tryz.pinned (OpenSpec.ofChange syncKeepsWrong)

/-- 'partbooklaw42.SyncSame': WHATEVER THE INPUT: true; the input reads as it did. -/
def syncSameSpec : ChangeSpec := { name := "syncSame", fn := fun _ => fun
  | [d1, d2] => { results := [.lit (.bool true)], args := [d1, d2] }
  | _ => none }
def syncSameRow : OpenClaim := { program := "ytbneeinknlddaaagreat", sum := "fcd13d304d175fa7e3d3191db34fa7ad06db38afab36b98d960901f304e15331", func := "partbook/partbooklaw42.SyncSame", spec := "syncSame", unfollowed := true, recurses := true, apart := false }
def SyncSameSaid : Prop := syncSameRow.holds Tryz.pinned (OpenSpec.ofChange syncSameSpec)

/-- ITS FALSE NEIGHBOUR: 'it returns false'. Refute it at one input. -/
def syncSameWrong : ChangeSpec := { name := "syncSame", fn := fun _ => fun
  | [d1, d2] => { results := [.lit (.bool false)], args := [d1, d2] }
  | _ => none }
def SyncSameWrongFalsely : Prop := syncSameRow.holds Tryz.pinned (OpenSpec.ofChange syncSameWrong)

/- THE SECOND FORM. 'bulk': how many values and letters a reading holds, each counted each time it is reached (what is shared counts as often as it is met; a slice's spare places count too). A statement '..UptoSaid' is the law's where the arguments, and the package variables that the reading takes, are together of bulk at most 1048576: NARROWER than '..Said'. Prove '..Said' where nothing that the law and all that it calls make is longer than what came in: it says more and counts as full. Else prove '..UptoSaid'. A law counts once. -/
mutual
def uptoBulk {H : Type} : DataW H → Nat
  | .lit (.string bytes) => bytes.length + 1
  | .lit _ => 1
  | .nil => 1
  | .ptr d => uptoBulk d + 1
  | .slice elems spare => uptoBulkAll elems + uptoBulkAll spare + 1
  | .agg parts => uptoBulkAll parts + 1
  | .iface _ d => uptoBulk d + 1
  | .map entries => uptoBulkEntries entries + 1
  | .held _ => 1
def uptoBulkAll {H : Type} : List (DataW H) → Nat
  | [] => 0
  | d :: r => uptoBulk d + uptoBulkAll r
def uptoBulkEntries {H : Type} : List (Lit × DataW H) → Nat
  | [] => 0
  | x :: r => uptoBulkEntry x + uptoBulkEntries r
def uptoBulkEntry {H : Type} : Lit × DataW H → Nat
  | (.string bytes, d) => bytes.length + uptoBulk d + 1
  | (_, d) => uptoBulk d + 1
 end
def uptoSmall : (H : Type) → List (DataW H) → Bool := fun _ ds => decide (uptoBulkAll ds ≤ 1048576)
def OpenSpec.upto (s : _root_.Go.ChangeSpec) : _root_.Go.OpenSpec := { _root_.Go.OpenSpec.ofChange s with cond := some uptoSmall }

/-- 'partbooklaw42.SyncCrashes', WHERE WHAT IT READS IS OF BULK AT MOST 1048576: true; the input reads as it did. -/
def syncCrashesUptoRow : OpenClaim := { program := "ytbneeinknlddaaagreat", sum := "fcd13d304d175fa7e3d3191db34fa7ad06db38afab36b98d960901f304e15331", func := "partbook/partbooklaw42.SyncCrashes", spec := "syncCrashes", unfollowed := true, recurses := true, apart := false, narrowed := true }
def SyncCrashesUptoSaid : Prop := syncCrashesUptoRow.holds Tryz.pinned (OpenSpec.upto syncCrashesSpec)

/-- 'partbooklaw42.SyncExchanges', WHERE WHAT IT READS IS OF BULK AT MOST 1048576: true; the input reads as it did. -/
def syncExchangesUptoRow : OpenClaim := { program := "ytbneeinknlddaaagreat", sum := "fcd13d304d175fa7e3d3191db34fa7ad06db38afab36b98d960901f304e15331", func := "partbook/partbooklaw42.SyncExchanges", spec := "syncExchanges", unfollowed := true, recurses := true, apart := false, narrowed := true }
def SyncExchangesUptoSaid : Prop := syncExchangesUptoRow.holds Tryz.pinned (OpenSpec.upto syncExchangesSpec)

/-- 'partbooklaw42.SyncKeeps', WHERE WHAT IT READS IS OF BULK AT MOST 1048576: true; the input reads as it did. -/
def syncKeepsUptoRow : OpenClaim := { program := "ytbneeinknlddaaagreat", sum := "fcd13d304d175fa7e3d3191db34fa7ad06db38afab36b98d960901f304e15331", func := "partbook/partbooklaw42.SyncKeeps", spec := "syncKeeps", unfollowed := true, recurses := true, apart := false, narrowed := true }
def SyncKeepsUptoSaid : Prop := syncKeepsUptoRow.holds Tryz.pinned (OpenSpec.upto syncKeepsSpec)

/-- 'partbooklaw42.SyncSame', WHERE WHAT IT READS IS OF BULK AT MOST 1048576: true; the input reads as it did. -/
def syncSameUptoRow : OpenClaim := { program := "ytbneeinknlddaaagreat", sum := "fcd13d304d175fa7e3d3191db34fa7ad06db38afab36b98d960901f304e15331", func := "partbook/partbooklaw42.SyncSame", spec := "syncSame", unfollowed := true, recurses := true, apart := false, narrowed := true }
def SyncSameUptoSaid : Prop := syncSameUptoRow.holds Tryz.pinned (OpenSpec.upto syncSameSpec)

end Rows
end Go.Proofs.YtbneeinknlddaaaGreat
