/- The law ScoreMatchesReference by content. -/
import Derived.Test.YtnmdmmfdnnmdfaaGreatDoorSJ
set_option linter.unusedVariables false
set_option linter.unusedSimpArgs false
namespace Go.Proofs.YtnmdmmfdnnmdfaaGreatDoor
open Go.Ab
attribute [local irreducible] AWP AOps EStep AQ PStep PRun PCall TCall VCall

theorem withR_small (s : Score) (hs : s.Small) (v : Int) (l : List Note) (hl : l.length ≤ 1000000000) : (withR s v l).1.Small := by
  obtain ⟨h1, h2, h3⟩ := hs
  unfold withR
  split
  · exact ⟨Nat.zero_le _, Nat.zero_le _, Nat.zero_le _⟩
  · split
    · exact ⟨Nat.zero_le _, Nat.zero_le _, Nat.zero_le _⟩
    · have := sortR_len s.bars l
      exact ⟨h1, h2, by show (sortR s.bars l).1.length ≤ _; omega⟩
theorem playsR_len (s : Score) (id : Int) : (playsR s id).1.length ≤ s.notes.length := by
  unfold playsR
  split
  · split
    · exact played_len _ _
    · simp
  · simp
end Go.Proofs.YtnmdmmfdnnmdfaaGreatDoor
