/- Contracts by content: the reference of parts. No statement is proved here. -/
import Derived.Test.YtnmdmmfdnnmdfaaDoorSD
import Derived.Test.YtnmdmmfdnnmdfaaDoorCP
set_option linter.unusedVariables false
set_option linter.unusedSimpArgs false
namespace Go.Proofs.YtnmdmmfdnnmdfaaDoor
open Go.Ab
attribute [local irreducible] AWP AOps EStep AQ PStep PRun PCall TCall VCall

def partAt (l : List Part) (id : Int) : Int := findI (fun b : Part => b.id == id) l
def noteAt (l : List Note) (id : Int) : Int := findI (fun b : Note => b.id == id) l
theorem partAt_in (l : List Part) (id : Int) : (partAt l id = -1 ∧ ∀ q ∈ l, q.id ≠ id) ∨ ∃ j : Nat, partAt l id = j ∧ j < l.length ∧ (l.getD j default).id = id ∧ ∀ i, i < j → (l.getD i default).id ≠ id := by
  rcases (show partAt l id < 0 ∨ 0 ≤ partAt l id by omega) with h | h
  · left
    refine ⟨findI_neg.1 h, fun q hq e => ?_⟩
    have h2 := findI_neg.1 h
    unfold findI at h2
    split at h2
    · omega
    · rename_i h3
      rw [List.findIdx?_eq_none_iff] at h3
      have := h3 q hq
      simp [e] at this
  · right
    obtain ⟨k, h1, h2, h3, h4⟩ := findI_lt h
    exact ⟨k, h1, h2, by simpa using h3, fun i hi => by simpa using h4 i hi⟩
/-- The part with its own notes that a note has. -/
def ownX (l : List Part) (n : Note) : Int := if partAt l n.part < 0 then -1 else if (l.getD (partAt l n.part).toNat default).of_ != 0 then -1 else partAt l n.part
/-- A part among the parts, as the reference looks at it. -/
def partX (l : List Part) (i : Nat) : Bool := partOk (l.getD i default) && (partAt l (l.getD i default).id == i) && ((l.getD i default).of_ == 0 || (decide (0 ≤ partAt l (l.getD i default).of_) && (l.getD (partAt l (l.getD i default).of_).toNat default).of_ == 0))
def partsX (l : List Part) : Bool := inB l.length 1 60 && (List.range l.length).all (partX l)
end Go.Proofs.YtnmdmmfdnnmdfaaDoor
