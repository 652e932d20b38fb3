/- Contracts by content: the reference's Letter of editions. No statement is proved here. -/
import Derived.Test.YtnmdmmfdnnmdfaaDoorEF
import Derived.Test.YtnmdmmfdnnmdfaaDoorCD
set_option linter.unusedVariables false
set_option linter.unusedSimpArgs false
namespace Go.Proofs.YtnmdmmfdnnmdfaaDoor.Ed
open Go.Ab
attribute [local irreducible] AWP AOps EStep AQ PStep PRun PCall TCall VCall

theorem lk_letters (l : List Letter) (k : Nat) (h : k < l.length) (nm : ByteArray) : lk (lettersAL (l.take (k + 1))) nm = if (l.getD k default).name = nm then some (l.getD k default).pos else lk (lettersAL (l.take k)) nm := by
  rw [lettersAL_succ _ _ h, lk_ins']
theorem letters_all (l : List Letter) (hd : ∀ i, i < l.length → letterI l (l.getD i default).name = i) : ∀ k, k ≤ l.length → ∀ i, i < k → lk (lettersAL (l.take k)) (l.getD i default).name = some (l.getD i default).pos
  | 0, _, i, hi => by omega
  | k + 1, hk, i, hi => by
    rw [lk_letters l k (by omega)]
    by_cases h : (l.getD k default).name = (l.getD i default).name
    · have h1 := hd k (by omega)
      have h2 := hd i (by omega)
      rw [h] at h1
      have : i = k := by omega
      subst this
      rw [if_pos rfl]
    · rw [if_neg h]
      have hik : i < k := by
        rcases Nat.lt_or_ge i k with h' | h'
        · exact h'
        · exfalso; apply h; rw [show i = k by omega]
      exact letters_all l hd k (by omega) i hik
theorem lk_some {l : List Letter} {nm : ByteArray} {v : Int} : ∀ k, k ≤ l.length → lk (lettersAL (l.take k)) nm = some v → ∃ i, i < l.length ∧ (l.getD i default).name = nm
  | 0, _, h => by simp [lettersAL, lk] at h
  | k + 1, hk, h => by
    rw [lk_letters l k (by omega)] at h
    by_cases he : (l.getD k default).name = nm
    · exact ⟨k, by omega, he⟩
    · rw [if_neg he] at h; exact lk_some k (by omega) h
theorem letI_of {e : Edition} (h : formB e = true) {i : Nat} (hi : i < e.letters.length) : letterI e.letters (e.letters.getD i default).name = i := by
  unfold formB at h
  simp only [Bool.and_eq_true, List.all_eq_true] at h
  have := h.2 i (List.mem_range.2 hi)
  unfold letOk at this
  simp only [Bool.and_eq_true, beq_iff_eq] at this
  exact this.2
theorem letR_eq {e : Edition} {nm : ByteArray} (hf : formB e = true) (hn : nameB nm = true) : letR e nm = if letterI e.letters nm < 0 then (0, 4) else ((e.letters.getD (letterI e.letters nm).toNat default).pos, 0) := by
  unfold letR
  rw [if_pos (by rw [hf, hn]; rfl)]
  by_cases h : letterI e.letters nm < 0
  · rw [if_pos h]
    cases hl : lk (lettersAL e.letters) nm with
    | none => rfl
    | some v =>
      exfalso
      obtain ⟨i, hi, he⟩ := lk_some e.letters.length (Nat.le_refl _) (by rw [List.take_of_length_le (Nat.le_refl _)]; exact hl)
      have := letI_of hf hi
      rw [he] at this
      omega
  · rw [if_neg h]
    obtain ⟨k, h1, h2, h3, _⟩ := findI_lt (p := fun x : Letter => x.name.toList == nm.toList) (l := e.letters) (by show 0 ≤ letterI e.letters nm; omega)
    have h4 : letterI e.letters nm = k := h1
    have he := bytes_toList h3
    have := letters_all e.letters (fun i hi => letI_of hf hi) e.letters.length (Nat.le_refl _) k h2
    rw [List.take_of_length_le (Nat.le_refl _), he] at this
    rw [this, h4, Int.toNat_natCast]
end Go.Proofs.YtnmdmmfdnnmdfaaDoor.Ed
