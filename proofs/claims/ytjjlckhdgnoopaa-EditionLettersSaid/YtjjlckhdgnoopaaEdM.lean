/- The law of letters by content: the plain part. -/
import Derived.Test.YtjjlckhdgnoopaaEdH
namespace Go.Proofs.Ytjjlckhdgnoopaa
open Go.Ab

theorem lk_ins {κ α : Type} [DecidableEq κ] (al : List (κ × α)) (k k' : κ) (v : α) : lk (ins al k v) k' = if k = k' then some v else lk al k' := by
  induction al with
  | nil => simp [ins, lk]
  | cons p r ih =>
    obtain ⟨k2, v2⟩ := p
    simp only [ins]
    by_cases h : k2 = k
    · subst h
      rw [if_pos rfl]
      by_cases h3 : k2 = k' <;> simp [lk, h3]
    · rw [if_neg h]
      by_cases h3 : k2 = k'
      · subst h3
        simp [lk, Ne.symm h]
      · simp [lk, h3, ih]
theorem lk_letters (l : List Letter) (k : Nat) (h : k < l.length) (nm : ByteArray) : lk (lettersAL (l.take (k + 1))) nm = if (l.getD k default).name = nm then some (l.getD k default).pos else lk (lettersAL (l.take k)) nm := by
  rw [lettersAL_succ _ _ h, lk_ins]
theorem letters_all (l : List Letter) (hd : ∀ i, i < l.length → letterI l (l.getD i default).name = i) : ∀ k, k ≤ l.length → ∀ i, i < k → lk (lettersAL (l.take k)) (l.getD i default).name = some (l.getD i default).pos
  | 0, _, i, hi => by omega
  | k + 1, hk, i, hi => by
    rw [lk_letters l k (by omega)]
    by_cases h : (l.getD k default).name = (l.getD i default).name
    · have h1 := hd k (by omega)
      have h2 := hd i (by omega)
      rw [h] at h1
      have : i = k := by omega
      subst this
      rw [if_pos rfl]
    · rw [if_neg h]
      have hik : i < k := by
        rcases Nat.lt_or_ge i k with h' | h'
        · exact h'
        · exfalso; apply h; rw [show i = k by omega]
      exact letters_all l hd k (by omega) i hik
end Go.Proofs.Ytjjlckhdgnoopaa
