/- Contracts by content: the reference's Letter of editions. No statement is proved here. -/
import Derived.Test.YtnmdmmfdnnmdfaaGreatDoorEF
import Derived.Test.YtnmdmmfdnnmdfaaGreatDoorCD
set_option linter.unusedVariables false
set_option linter.unusedSimpArgs false
namespace Go.Proofs.YtnmdmmfdnnmdfaaGreatDoor.Ed
open Go.Ab
attribute [local irreducible] AWP AOps EStep AQ PStep PRun PCall TCall VCall

theorem lk_letters (l : List Letter) (k : Nat) (h : k < l.length) (nm : ByteArray) : lk (lettersAL (l.take (k + 1))) nm = if (l.getD k default).name = nm then some (l.getD k default).pos else lk (lettersAL (l.take k)) nm := by
  rw [lettersAL_succ _ _ h, lk_ins']
theorem letters_all (l : List Letter) (hd : ∀ i, i < l.length → letterI l (l.getD i default).name = i) : ∀ k, k ≤ l.length → ∀ i, i < k → lk (lettersAL (l.take k)) (l.getD i default).name = some (l.getD i default).pos
  | 0, _, i, hi => by omega
  | k + 1, hk, i, hi => by
    rw [lk_letters l k (by omega)]
    by_cases h : (l.getD k default).name = (l.getD i default).name
    · have h1 := hd k (by omega)
      have h2 := hd i (by omega)
      rw [h] at h1
      have : i = k := by omega
      subst this
      rw [if_pos rfl]
    · rw [if_neg h]
      have hik : i < k := by
        rcases Nat.lt_or_ge i k with h' | h'
        · exact h'
        · exfalso; apply h; rw [show i = k by omega]
      exact letters_all l hd k (by omega) i hik
theorem lk_some {l : List Letter} {nm : ByteArray} {v : Int} : ∀ k, k ≤ l.length → lk (lettersAL (l.take k)) nm = some v → ∃ i, i < l.length ∧ (l.getD i default).name = nm
  | 0, _, h => by simp [lettersAL, lk] at h
  | k + 1, hk, h => by
    rw [lk_letters l k (by omega)] at h
    by_cases he : (l.getD k default).name = nm
    · exact ⟨k, by omega, he⟩
    · rw [if_neg he] at h; exact lk_some k (by omega) h
theorem letI_of {e : Edition} (h : formB e = true) {i : Nat} (hi : i < e.letters.length) : letterI e.letters (e.letters.getD i default).name = i := by
  unfold formB at h
  simp only [Bool.and_eq_true, List.all_eq_true] at h
  have := h.2 i (List.mem_range.2 hi)
  unfold letOk at this
  simp only [Bool.and_eq_true, beq_iff_eq] at this
  exact this.2
theorem letR_eq {e : Edition} {nm : ByteArray} (hf : formB e = true) (hn : nameB nm = true) : letR e nm = if letterI e.letters nm < 0 then (0, 4) else ((e.letters.getD (letterI e.letters nm).toNat default).pos, 0) := by
  unfold letR
  rw [if_pos (by rw [hf, hn]; rfl)]
  by_cases h : letterI e.letters nm < 0
  · rw [if_pos h]
    cases hl : lk (lettersAL e.letters) nm with
    | none => rfl
    | some v =>
      exfalso
      obtain ⟨i, hi, he⟩ := lk_some e.letters.length (Nat.le_refl _) (by rw [List.take_of_length_le (Nat.le_refl _)]; exact hl)
      have := letI_of hf hi
      rw [he] at this
      omega
  · rw [if_neg h]
    obtain ⟨k, h1, h2, h3, _⟩ := findI_lt (p := fun x : Letter => x.name.toList == nm.toList) (l := e.letters) (by show 0 ≤ letterI e.letters nm; omega)
    have h4 : letterI e.letters nm = k := h1
    have he := bytes_toList h3
    have := letters_all e.letters (fun i hi => letI_of hf hi) e.letters.length (Nat.le_refl _) k h2
    rw [List.take_of_length_le (Nat.le_refl _), he] at this
    rw [this, h4, Int.toNat_natCast]
theorem letter11_spec (e : Edition) (hw : Wf e) (nm : ByteArray) : PCall Tryz.prog 16 [.agg (encE e), .str nm] (.tup [.int (letR e nm).1, .int (letR e nm).2]) := by
  have hl := hw.letters
  have h1 := letter_spec e.letters nm hl
  have hub := findI_ub (fun x : Letter => x.name.toList == nm.toList) e.letters
  have hub2 : letterI e.letters nm < e.letters.length := hub.2
  have he := @letR_eq e nm
  generalize letterI e.letters nm = a at *
  clear hub
  refine PCall.body Tryz.func16 rfl rfl Tryz.ntmps16 rfl rfl ?_
  repeat' (first | refine AOps.q rfl rfl rfl (fun hg => by first | exact std0 | exact PRun.callW (form_spec e) rfl rfl nd rfl nds | exact PRun.callW (name_spec nm) rfl rfl nd rfl nds | exact PRun.callW (h1) rfl rfl nd rfl nds | exact std1) (by exact rfl) ?_ | refine AWP.seq ?_ | refine AWP.regionK (fun K' hK => ?_) | (refine AOps.nil (hK _ _ ?_); clear hK K') | refine AOps.e (EStep.boxW rfl rfl rfl rfl rfl True.intro rfl rfl ?_) | refine AOps.e (EStep.storeW tabOk rfl rfl rfl True.intro rfl rfl True.intro rfl rfl rfl rfl rfl rfl rfl ?_) | refine AOps.e (EStep.allocW tabOk rfl rfl rfl rfl rfl rfl ?_) | (refine AWP.condW rfl True.intro (fun hc => ?_) (fun hc => ?_) <;> (first | (simp only [decide_eq_true_eq] at hc) | (simp only [decide_eq_false_iff_not, Int.not_lt, Int.not_le] at hc) | skip)) | refine AWP.block ?_ | refine AWP.exit ?_ | refine AWP.skip ?_ | refine AWP.ret ?_ | refine AWP.drawK2 (by decide +kernel) (by kernel_rfl) (by decide +kernel) rfl (fun K' hK => ?_) | refine AWP.drawL2 (by kernel_rfl) (by decide +kernel) rfl (fun K' hK => ?_) | (refine AQ.nil (hK _ ?_); clear hK K') | refine AQ.nil ?_ | refine AQ.q rfl rfl (fun hg => by first | exact std0 | exact PRun.callW (form_spec e) rfl rfl nd rfl nds | exact PRun.callW (name_spec nm) rfl rfl nd rfl nds | exact PRun.callW (h1) rfl rfl nd rfl nds | exact std1) (by exact rfl) ?_)
  · refine ⟨.inr rfl, ?_⟩
    rw [show letR e nm = (0, 1) from by unfold letR; rw [if_neg]; revert hc; cases formB e <;> cases nameB nm <;> simp]
    exact fun _ _ h => h
  · rename_i hc0
    have hok := ok2 hc0
    simp only [Bool.and_eq_true] at hok
    refine ⟨.inr rfl, ?_⟩
    rw [he hok.1 hok.2, if_pos hc]
    exact fun _ _ h => h
  · rename_i hc0
    have hok := ok2 hc0
    simp only [Bool.and_eq_true] at hok
    refine ⟨.inr rfl, ?_⟩
    rw [he hok.1 hok.2, if_neg (by omega)]
    exact fun _ _ h => h
end Go.Proofs.YtnmdmmfdnnmdfaaGreatDoor.Ed
