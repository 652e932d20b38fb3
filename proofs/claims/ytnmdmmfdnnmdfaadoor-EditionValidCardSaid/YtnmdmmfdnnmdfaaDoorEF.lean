/- Contracts by content: the reference's Number, Visit, Place of editions. No statement is proved here. -/
import Derived.Test.YtnmdmmfdnnmdfaaDoorEE
set_option linter.unusedVariables false
set_option linter.unusedSimpArgs false
namespace Go.Proofs.YtnmdmmfdnnmdfaaDoor.Ed
open Go.Ab
attribute [local irreducible] AWP AOps EStep AQ PStep PRun PCall TCall VCall

theorem findI_drop {p : Printed → Bool} {l : List Printed} {i k : Nat} (h1 : i < k) (hk : k < l.length) (hp : p (l.getD k default) = true) : findI p (l.drop (i + 1)) ≥ 0 := by
  rcases Int.lt_or_le (findI p (l.drop (i + 1))) 0 with h | h
  · exfalso
    have h2 := findI_any p (l.drop (i + 1))
    rw [decide_eq_false (by omega)] at h2
    have h3 := List.all_eq_true.1 h2.symm (l.getD k default) (by
      rw [getD_lt hk, List.mem_iff_getElem]
      exact ⟨k - (i + 1), by simp; omega, by rw [List.getElem_drop]; congr 1; omega⟩)
    rw [hp] at h3; cases h3
  · exact h
theorem findI_drop_no {p : Printed → Bool} {l : List Printed} {i : Nat} (h : ∀ j, j < l.length → i < j → p (l.getD j default) = false) : findI p (l.drop (i + 1)) < 0 := by
  have h1 : findI p (l.drop (i + 1)) = -1 := findI_no fun j hj => by
    have hj' : i + 1 + j < l.length := by simp at hj; omega
    have := h (i + 1 + j) hj' (by omega)
    rw [getD_lt hj'] at this
    rw [getD_lt hj, List.getElem_drop]; exact this
  omega
/-- The match so far: none, or the only one. -/
def OneAt (p : Printed → Bool) (l : List Printed) (k : Nat) (a : Int) : Prop := (a = -1 ∧ ∀ j, j < k → p (l.getD j default) = false) ∨ (∃ i : Nat, a = i ∧ i < k ∧ p (l.getD i default) = true ∧ ∀ j, j < k → j ≠ i → p (l.getD j default) = false)
end Go.Proofs.YtnmdmmfdnnmdfaaDoor.Ed
