/- Regions that draw their order, with chains of effects: which pairs may be exchanged. -/
import Derived.Test.YtnmdmmfdnnmdfaaDoorM6
set_option linter.unusedVariables false
set_option linter.unusedSimpArgs false
namespace Go.Ab
section
variable {cls : Oper → Nat} {lo hi rank : Nat → Nat → Nat}
/-- What is asked of a pair that may be exchanged, of one class of effects. -/
def pairC (cls : Oper → Nat) (lo hi rank : Nat → Nat → Nat) (c i k : Nat) (oi ok : Oper) : Prop :=
  ¬ (cls oi = c ∧ cls ok = c) ∧ (cls oi ≠ c → cls ok = c → rank c k ≤ hi c i) ∧ (cls oi = c → cls ok ≠ c → lo c k < rank c i)

def rngC (cls : Oper → Nat) (lo hi rank : Nat → Nat → Nat) (c i k : Nat) (o o' : Oper) : Bool :=
  !(cls o == c && cls o' == c) && (cls o == c || !(cls o' == c) || decide (rank c k ≤ hi c i)) && (!(cls o == c) || cls o' == c || decide (lo c k < rank c i))
theorem rngC_spec {c i k : Nat} {o o' : Oper} (h : rngC cls lo hi rank c i k o o' = true) : pairC cls lo hi rank c i k o o' := by
  unfold rngC at h
  simp only [Bool.and_eq_true, Bool.or_eq_true, Bool.not_eq_true', Bool.and_eq_false_iff, beq_iff_eq, beq_eq_false_iff_ne, decide_eq_true_eq, ne_eq] at h
  obtain ⟨⟨h1, h2⟩, h3⟩ := h
  refine ⟨fun ⟨a, b⟩ => ?_, fun a b => ?_, fun a b => ?_⟩
  · rcases h1 with h1 | h1
    · exact h1 a
    · exact h1 b
  · rcases h2 with (h2 | h2) | h2
    · exact absurd h2 a
    · exact absurd b h2
    · exact h2
  · rcases h3 with (h3 | h3) | h3
    · exact absurd a h3
    · exact absurd h3 b
    · exact h3
abbrev cOf (cls : Oper → Nat) (c : Nat) (o : Oper) : Bool := cls o == c
end
end Go.Ab
