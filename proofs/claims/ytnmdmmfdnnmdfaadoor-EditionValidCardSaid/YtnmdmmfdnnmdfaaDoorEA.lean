/- Contracts by content of the small functions of package edition and of its reference: in, few, name, letter, form. No statement is proved here. -/
import Derived.Test.YtnmdmmfdnnmdfaaDoorCW
set_option linter.unusedVariables false
set_option linter.unusedSimpArgs false
namespace Go.Proofs.YtnmdmmfdnnmdfaaDoor.Ed
open Go.Ab
attribute [local irreducible] AWP AOps EStep AQ PStep PRun PCall TCall VCall
structure Printed where
  number : Int
  bar : Int
  pass : Int
  deriving Inhabited
structure Letter where
  name : ByteArray
  pos : Int
  deriving Inhabited
structure Edition where
  id : Int
  version : Int
  bars : List Printed
  letters : List Letter
def encP (p : Printed) : List AV := [.int p.number, .int p.bar, .int p.pass]
def encL (p : Letter) : List AV := [.str p.name, .int p.pos]
def encE (e : Edition) : List AV := [.int e.id, .int e.version, .sl 3 (e.bars.map encP) .no, .sl 2 (e.letters.map encL) .no]

theorem few_spec (e : Edition) : PCall Tryd.prog 12 [.agg (encE e)] (.b (decide ((e.bars.length : Int) ≤ 80) && decide ((e.letters.length : Int) ≤ 60))) := by
  refine PCall.body Tryd.func12 rfl rfl Tryd.ntmps12 rfl rfl ?_
  repeat' (first | refine AOps.q rfl rfl rfl (fun hg => by first | exact std0 | exact std1) (by exact rfl) ?_ | refine AWP.seq ?_ | refine AWP.regionK (fun K' hK => ?_) | (refine AOps.nil (hK _ _ ?_); clear hK K') | refine AOps.e (EStep.boxW rfl rfl rfl rfl rfl True.intro rfl rfl ?_) | refine AOps.e (EStep.storeW tabOk rfl rfl rfl True.intro rfl rfl True.intro rfl rfl rfl rfl rfl rfl rfl ?_) | refine AOps.e (EStep.allocW tabOk rfl rfl rfl rfl rfl rfl ?_) | (refine AWP.condW rfl True.intro (fun hc => ?_) (fun hc => ?_) <;> (first | (simp only [decide_eq_true_eq] at hc) | (simp only [decide_eq_false_iff_not, Int.not_lt, Int.not_le] at hc) | skip)) | refine AWP.block ?_ | refine AWP.exit ?_ | refine AWP.skip ?_ | refine AWP.ret ?_ | refine AWP.drawK2 (by decide +kernel) (by kernel_rfl) (by decide +kernel) rfl (fun K' hK => ?_) | refine AWP.drawL2 (by kernel_rfl) (by decide +kernel) rfl (fun K' hK => ?_) | (refine AQ.nil (hK _ ?_); clear hK K') | refine AQ.nil ?_ | refine AQ.q rfl rfl (fun hg => by first | exact std0 | exact std1) (by exact rfl) ?_)
  exact ⟨.inr rfl, fun _ _ h => h⟩


def nameAt (s : ByteArray) (i : Nat) : Bool :=
  (decide (((s.data.toList.getD i 0).toNat : Int) ≥ 65) && decide (((s.data.toList.getD i 0).toNat : Int) ≤ 90)) ||
  ((decide (((s.data.toList.getD i 0).toNat : Int) ≥ 48) && decide (((s.data.toList.getD i 0).toNat : Int) ≤ 57)) && decide (i ≠ 0))
def nameB (s : ByteArray) : Bool := decide (1 ≤ s.size) && decide (s.size ≤ 12) && (List.range s.size).all (nameAt s)

theorem nameB_true {s : ByteArray} (h1 : 1 ≤ s.size) (h2 : s.size ≤ 12) (h : ∀ j, j < s.size → nameAt s j = true) : nameB s = true := by
  simp [nameB, h1, h2]; exact h
theorem nameB_false {s : ByteArray} {k : Nat} (hk : k < s.size) (h : nameAt s k = false) : nameB s = false := by
  cases hn : nameB s with
  | false => rfl
  | true =>
    simp [nameB] at hn
    have := hn.2 k hk
    rw [h] at this; cases this

/-- The index of a letter by its name, or -1. -/
def letterI (l : List Letter) (nm : ByteArray) : Int := findI (fun x => x.name.toList == nm.toList) l

def barOk (p : Printed) : Bool := inB p.number 0 100000 && inB p.bar 1 1000000 && inB p.pass 0 9
def letOk (e : Edition) (i : Nat) : Bool :=
  nameB (e.letters.getD i default).name && inB (e.letters.getD i default).pos 0 ((e.bars.length : Int) - 1) && letterI e.letters (e.letters.getD i default).name == (i : Int)
def headOk (e : Edition) : Bool := inB e.id 1 1000000 && inB e.version 1 1000000 && inB e.bars.length 1 4000 && decide ((e.letters.length : Int) ≤ 1000)
def formB (e : Edition) : Bool := headOk e && e.bars.all barOk && (List.range e.letters.length).all (letOk e)

end Go.Proofs.YtnmdmmfdnnmdfaaDoor.Ed
