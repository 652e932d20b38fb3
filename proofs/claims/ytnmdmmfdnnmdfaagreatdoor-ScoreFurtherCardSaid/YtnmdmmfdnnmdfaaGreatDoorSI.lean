/- Contracts by content: the reference of scores: Valid, Bar, Part, Note, Plays, With. No statement is proved here. -/
import Derived.Test.YtnmdmmfdnnmdfaaGreatDoorSH
import Derived.Test.YtnmdmmfdnnmdfaaGreatDoorCS
import Derived.Test.YtnmdmmfdnnmdfaaGreatDoorCT8
set_option linter.unusedVariables false
set_option linter.unusedSimpArgs false
namespace Go.Proofs.YtnmdmmfdnnmdfaaGreatDoor
open Go.Ab
attribute [local irreducible] AWP AOps EStep AQ PStep PRun PCall TCall VCall

def Score.Sized (s : Score) : Prop := s.bars.length ≤ 9223372036854775807 ∧ s.parts.length ≤ 9223372036854775807 ∧ s.notes.length ≤ 9223372036854775807
def Score.few (s : Score) : Bool := decide ((s.bars.length : Int) ≤ 60) && decide ((s.parts.length : Int) ≤ 61) && decide ((s.notes.length : Int) ≤ 60)
theorem Score.few_small {s : Score} (h : s.few = true) : s.Small := by
  unfold Score.few at h; simp only [Bool.and_eq_true, decide_eq_true_eq] at h
  exact ⟨by omega, by omega, by omega⟩
theorem few8_spec (s : Score) (hs : s.Sized) : PCall Tryz.prog 6 [.agg (encS s)] (.b s.few) := by
  obtain ⟨h1, h2, h3⟩ := hs
  refine PCall.body Tryz.func6 rfl rfl Tryz.ntmps6 rfl rfl ?_
  repeat' (first | refine AOps.q rfl rfl rfl (fun hg => by first | exact std0 | exact std1) (by exact rfl) ?_ | refine AWP.seq ?_ | refine AWP.regionK (fun K' hK => ?_) | (refine AOps.nil (hK _ _ ?_); clear hK K') | refine AOps.e (EStep.boxW rfl rfl rfl rfl rfl True.intro rfl rfl ?_) | refine AOps.e (EStep.storeW tabOk rfl rfl rfl True.intro rfl rfl True.intro rfl rfl rfl rfl rfl rfl rfl ?_) | refine AOps.e (EStep.allocW tabOk rfl rfl rfl rfl rfl rfl ?_) | (refine AWP.condW rfl True.intro (fun hc => ?_) (fun hc => ?_) <;> (first | (simp only [decide_eq_true_eq] at hc) | (simp only [decide_eq_false_iff_not, Int.not_lt, Int.not_le] at hc) | skip)) | refine AWP.block ?_ | refine AWP.exit ?_ | refine AWP.skip ?_ | refine AWP.ret ?_ | refine AWP.drawK2 (by decide +kernel) (by kernel_rfl) (by decide +kernel) rfl (fun K' hK => ?_) | refine AWP.drawL2 (by kernel_rfl) (by decide +kernel) rfl (fun K' hK => ?_) | (refine AQ.nil (hK _ ?_); clear hK K') | refine AQ.nil ?_ | refine AQ.q rfl rfl (fun hg => by first | exact std0 | exact std1) (by exact rfl) ?_)
  exact ⟨.inr rfl, Ent.b rfl⟩
theorem notesOk_all {bars : List Bar} {l : List Note} (h : notesOk bars l = true) : barsOk bars = true ∧ l.length ≤ 20000 ∧ ∀ x ∈ l, noteOk bars x = true := by
  unfold notesOk at h
  simp only [Bool.and_eq_true, decide_eq_true_eq, List.all_eq_true] at h
  exact ⟨h.1.1.1, by omega, h.1.2⟩
/-- A score that is valid, by the steps of its notes. -/
def scoreX (s : Score) : Bool := !scoreBad s && stepsOk (idxAL s.bars) s.notes
theorem scoreOk_eq (s : Score) : scoreOk s = scoreX s := by
  unfold scoreOk scoreX
  cases h : scoreBad s with
  | true => rfl
  | false =>
    have : notesOk s.bars s.notes = true := by
      unfold scoreBad at h
      simp only [Bool.or_eq_false_iff, Bool.not_eq_false'] at h
      exact h.1.2
    rw [sort_steps this]
set_option maxRecDepth 20000 in
theorem valid8_spec (s : Score) (hs : s.Small) : PCall Tryz.prog 7 [.agg (encS s)] (.b (scoreOk s)) := by
  obtain ⟨h1, h2, h3⟩ := hs
  have v1 := r6valid_spec s.bars (by omega)
  have v2 := partsX_spec s.parts (by omega)
  rw [partsX_ok] at v2
  have v3 := r7valid_spec s.bars s.notes (by omega) (by omega)
  rw [scoreOk_eq]
  refine PCall.body Tryz.func7 rfl rfl Tryz.ntmps7 rfl rfl ?_
  repeat' (first | refine AOps.q rfl rfl rfl (fun hg => by first | exact std0 | exact PRun.callW (v1) rfl rfl nd rfl nds | exact PRun.callW (v2) rfl rfl nd rfl nds | exact PRun.callW (r8in_spec _ _ _) rfl rfl nd rfl nds | exact std1) (by exact rfl) ?_ | refine AWP.seq ?_ | refine AWP.regionK (fun K' hK => ?_) | (refine AOps.nil (hK _ _ ?_); clear hK K') | refine AOps.e (EStep.boxW rfl rfl rfl rfl rfl True.intro rfl rfl ?_) | refine AOps.e (EStep.storeW tabOk rfl rfl rfl True.intro rfl rfl True.intro rfl rfl rfl rfl rfl rfl rfl ?_) | refine AOps.e (EStep.allocW tabOk rfl rfl rfl rfl rfl rfl ?_) | (refine AWP.condW rfl True.intro (fun hc => ?_) (fun hc => ?_) <;> (first | (simp only [decide_eq_true_eq] at hc) | (simp only [decide_eq_false_iff_not, Int.not_lt, Int.not_le] at hc) | skip)) | refine AWP.block ?_ | refine AWP.exit ?_ | refine AWP.skip ?_ | refine AWP.ret ?_ | refine AWP.drawK2 (by decide +kernel) (by kernel_rfl) (by decide +kernel) rfl (fun K' hK => ?_) | refine AWP.drawL2 (by kernel_rfl) (by decide +kernel) rfl (fun K' hK => ?_) | (refine AQ.nil (hK _ ?_); clear hK K') | refine AQ.nil ?_ | refine AQ.q rfl rfl (fun hg => by first | exact std0 | exact PRun.callW (v1) rfl rfl nd rfl nds | exact PRun.callW (v2) rfl rfl nd rfl nds | exact PRun.callW (r8in_spec _ _ _) rfl rfl nd rfl nds | exact std1) (by exact rfl) ?_)
  · refine ⟨.inr rfl, Ent.b (Eq.symm ?_)⟩
    unfold scoreX scoreBad
    have : (!inB s.version 1 1000000 || !barsOk s.bars || !partsOk s.parts) = true := hc
    rw [this]; rfl
  have b1 : (!inB s.version 1 1000000 || !barsOk s.bars || !partsOk s.parts) = false := hc
  have hp : barsOk s.bars = true ∧ partsOk s.parts = true := by
    simp only [Bool.or_eq_false_iff, Bool.not_eq_false'] at b1
    exact ⟨b1.1.2, b1.2⟩
  clear hc v1 v2
  repeat' (first | refine AOps.q rfl rfl rfl (fun hg => by first | exact std0 | exact PRun.callW (v3) rfl rfl nd rfl nds | exact std1) (by exact rfl) ?_ | refine AWP.seq ?_ | refine AWP.regionK (fun K' hK => ?_) | (refine AOps.nil (hK _ _ ?_); clear hK K') | refine AOps.e (EStep.boxW rfl rfl rfl rfl rfl True.intro rfl rfl ?_) | refine AOps.e (EStep.storeW tabOk rfl rfl rfl True.intro rfl rfl True.intro rfl rfl rfl rfl rfl rfl rfl ?_) | refine AOps.e (EStep.allocW tabOk rfl rfl rfl rfl rfl rfl ?_) | (refine AWP.condW rfl True.intro (fun hc => ?_) (fun hc => ?_) <;> (first | (simp only [decide_eq_true_eq] at hc) | (simp only [decide_eq_false_iff_not, Int.not_lt, Int.not_le] at hc) | skip)) | refine AWP.block ?_ | refine AWP.exit ?_ | refine AWP.skip ?_ | refine AWP.ret ?_ | (refine AQ.nil (hK _ ?_); clear hK K') | refine AQ.nil ?_ | refine AQ.q rfl rfl (fun hg => by first | exact std0 | exact PRun.callW (v3) rfl rfl nd rfl nds | exact std1) (by exact rfl) ?_)
  · refine ⟨.inr rfl, Ent.b (Eq.symm ?_)⟩
    unfold scoreX scoreBad
    rw [b1, show notesOk s.bars s.notes = false by simpa using hc]; rfl
  have hn : notesOk s.bars s.notes = true := by simpa using hc
  clear hc v3
  obtain ⟨n1, n2, n3⟩ := notesOk_all hn
  have v4 := wrong8_spec s.parts s.notes (by omega) (by omega) hp.2 (fun n hn => (noteOk_form (n3 n hn)).2)
  repeat' (first | refine AOps.q rfl rfl rfl (fun hg => by first | exact std0 | exact PRun.callW (v4) rfl rfl nd rfl nds | exact std1) (by exact rfl) ?_ | refine AWP.seq ?_ | refine AWP.regionK (fun K' hK => ?_) | (refine AOps.nil (hK _ _ ?_); clear hK K') | refine AOps.e (EStep.boxW rfl rfl rfl rfl rfl True.intro rfl rfl ?_) | refine AOps.e (EStep.storeW tabOk rfl rfl rfl True.intro rfl rfl True.intro rfl rfl rfl rfl rfl rfl rfl ?_) | refine AOps.e (EStep.allocW tabOk rfl rfl rfl rfl rfl rfl ?_) | (refine AWP.condW rfl True.intro (fun hc => ?_) (fun hc => ?_) <;> (first | (simp only [decide_eq_true_eq] at hc) | (simp only [decide_eq_false_iff_not, Int.not_lt, Int.not_le] at hc) | skip)) | refine AWP.block ?_ | refine AWP.exit ?_ | refine AWP.skip ?_ | refine AWP.ret ?_ | (refine AQ.nil (hK _ ?_); clear hK K') | refine AQ.nil ?_ | refine AQ.q rfl rfl (fun hg => by first | exact std0 | exact PRun.callW (v4) rfl rfl nd rfl nds | exact std1) (by exact rfl) ?_)
  · refine ⟨.inr rfl, Ent.b (Eq.symm ?_)⟩
    unfold scoreX scoreBad
    rw [b1, hn, show (wrongR s.parts s.notes != 0) = true from hc]; rfl
  have hw : (wrongR s.parts s.notes != 0) = false := hc
  clear hc v4
  have hbad : scoreBad s = false := by unfold scoreBad; rw [b1, hn, hw]; rfl
  refine AWP.loopW (ι := Nat) (fun k => [(1, .ptr 0 0), (6, .int k)]) (fun _ => [.var (encS s)]) (fun k => 1 ≤ k ∧ (k ≤ s.notes.length ∨ k = 1) ∧ ∀ j, j < k → (j == 0 || bef (idxAL s.bars) (s.notes.getD (j - 1) default) (s.notes.getD j default)) = true) (fun k => s.notes.length - k) 1 ⟨Nat.le_refl _, .inr rfl, fun j h => by (obtain rfl : j = 0 := by omega); rfl⟩ ⟨rfl, rfl, True.intro⟩ rfl ?_
  rintro k ⟨hk0, hk, hall⟩
  by_cases hlt : k < s.notes.length
  · have hb := before_spec s.bars (s.notes.getD ((k : Int) - 1).toNat default) (s.notes.getD k default) (by omega) n1 (all_mem n3 (by omega)) (all_mem n3 hlt)
    have e : ((k : Int) - 1).toNat = k - 1 := by omega
    repeat' (first | refine AOps.q rfl rfl rfl (fun hg => by first | exact std0 | exact PRun.callW (hb) rfl rfl nd rfl nds | exact std1) (by exact rfl) ?_ | refine AWP.seq ?_ | refine AWP.regionK (fun K' hK => ?_) | (refine AOps.nil (hK _ _ ?_); clear hK K') | refine AOps.e (EStep.boxW rfl rfl rfl rfl rfl True.intro rfl rfl ?_) | refine AOps.e (EStep.storeW tabOk rfl rfl rfl True.intro rfl rfl True.intro rfl rfl rfl rfl rfl rfl rfl ?_) | refine AOps.e (EStep.allocW tabOk rfl rfl rfl rfl rfl rfl ?_) | (refine AWP.condW rfl True.intro (fun hc => ?_) (fun hc => ?_) <;> (first | (simp only [decide_eq_true_eq] at hc) | (simp only [decide_eq_false_iff_not, Int.not_lt, Int.not_le] at hc) | skip)) | refine AWP.block ?_ | refine AWP.exit ?_ | refine AWP.skip ?_ | refine AWP.ret ?_ | refine AWP.drawK2 (by decide +kernel) (by kernel_rfl) (by decide +kernel) rfl (fun K' hK => ?_) | refine AWP.drawL2 (by kernel_rfl) (by decide +kernel) rfl (fun K' hK => ?_) | (refine AQ.nil (hK _ ?_); clear hK K') | refine AQ.nil ?_ | refine AQ.q rfl rfl (fun hg => by first | exact std0 | exact PRun.callW (hb) rfl rfl nd rfl nds | exact std1) (by exact rfl) ?_)
    all_goals (first | (exfalso; omega) | skip)
    · refine ⟨.inr rfl, Ent.b (Eq.symm ?_)⟩
      unfold scoreX stepsOk
      rw [e] at hc
      rw [allR_no hlt (by
        have h5 : (k == 0) = false := by simp; omega
        rw [h5, Bool.false_or]; simpa using hc)]; simp
    · rw [e] at hc
      refine ⟨k + 1, ⟨by omega, .inl (by omega), fun j hj => lt_succ_cases hall ?_ hj⟩, by omega, ⟨rfl, rfl, True.intro⟩, rfl⟩
      rw [show bef (idxAL s.bars) (s.notes.getD (k - 1) default) (s.notes.getD k default) = true by simpa using hc]; simp
  · repeat' (first | refine AOps.q rfl rfl rfl (fun hg => by first | exact std0 | exact std1) (by exact rfl) ?_ | refine AWP.seq ?_ | refine AWP.regionK (fun K' hK => ?_) | (refine AOps.nil (hK _ _ ?_); clear hK K') | refine AOps.e (EStep.boxW rfl rfl rfl rfl rfl True.intro rfl rfl ?_) | refine AOps.e (EStep.storeW tabOk rfl rfl rfl True.intro rfl rfl True.intro rfl rfl rfl rfl rfl rfl rfl ?_) | refine AOps.e (EStep.allocW tabOk rfl rfl rfl rfl rfl rfl ?_) | (refine AWP.condW rfl True.intro (fun hc => ?_) (fun hc => ?_) <;> (first | (simp only [decide_eq_true_eq] at hc) | (simp only [decide_eq_false_iff_not, Int.not_lt, Int.not_le] at hc) | skip)) | refine AWP.block ?_ | refine AWP.exit ?_ | refine AWP.skip ?_ | refine AWP.ret ?_ | refine AWP.drawK2 (by decide +kernel) (by kernel_rfl) (by decide +kernel) rfl (fun K' hK => ?_) | refine AWP.drawL2 (by kernel_rfl) (by decide +kernel) rfl (fun K' hK => ?_) | (refine AQ.nil (hK _ ?_); clear hK K') | refine AQ.nil ?_ | refine AQ.q rfl rfl (fun hg => by first | exact std0 | exact std1) (by exact rfl) ?_)
    all_goals (first | (exfalso; omega) | skip)
    refine ⟨.inr rfl, Ent.b (Eq.symm ?_)⟩
    unfold scoreX stepsOk
    rw [hbad, allR_yes fun j hj => hall j (by omega)]; rfl
theorem findI_ge {α : Type} (p : α → Bool) (l : List α) : -1 ≤ findI p l := by unfold findI; split <;> omega
theorem source_spec (p : Part) : PCall Tryz.prog 10 [.agg (encP p)] (.int (srcOf p)) := by
  unfold srcOf
  refine PCall.body Tryz.func10 rfl rfl Tryz.ntmps10 rfl rfl ?_
  repeat' (first | refine AOps.q rfl rfl rfl (fun hg => by first | exact std0 | exact std1) (by exact rfl) ?_ | refine AWP.seq ?_ | refine AWP.regionK (fun K' hK => ?_) | (refine AOps.nil (hK _ _ ?_); clear hK K') | refine AOps.e (EStep.boxW rfl rfl rfl rfl rfl True.intro rfl rfl ?_) | refine AOps.e (EStep.storeW tabOk rfl rfl rfl True.intro rfl rfl True.intro rfl rfl rfl rfl rfl rfl rfl ?_) | refine AOps.e (EStep.allocW tabOk rfl rfl rfl rfl rfl rfl ?_) | (refine AWP.condW rfl True.intro (fun hc => ?_) (fun hc => ?_) <;> (first | (simp only [decide_eq_true_eq] at hc) | (simp only [decide_eq_false_iff_not, Int.not_lt, Int.not_le] at hc) | skip)) | refine AWP.block ?_ | refine AWP.exit ?_ | refine AWP.skip ?_ | refine AWP.ret ?_ | refine AWP.drawK2 (by decide +kernel) (by kernel_rfl) (by decide +kernel) rfl (fun K' hK => ?_) | refine AWP.drawL2 (by kernel_rfl) (by decide +kernel) rfl (fun K' hK => ?_) | (refine AQ.nil (hK _ ?_); clear hK K') | refine AQ.nil ?_ | refine AQ.q rfl rfl (fun hg => by first | exact std0 | exact std1) (by exact rfl) ?_)
  · exact ⟨.inr rfl, Ent.int (by rw [if_pos hc])⟩
  · exact ⟨.inr rfl, Ent.int (by rw [if_neg (by rw [hc]; decide)])⟩
theorem played_take {l : List Note} {p : Part} {k : Nat} (h : k < l.length) : playedL (l.take (k + 1)) p = if (l.getD k default).part == srcOf p then playedL (l.take k) p ++ [playN p (l.getD k default)] else playedL (l.take k) p := by
  rw [take_snoc h]; unfold playedL
  rw [List.filter_append, List.map_append]
  split
  · rename_i h2; rw [List.filter_cons_of_pos (by exact h2)]; rfl
  · rename_i h2; rw [List.filter_cons_of_neg (by exact h2)]; simp
end Go.Proofs.YtnmdmmfdnnmdfaaGreatDoor
