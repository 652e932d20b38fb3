/- Contracts by content: the reference of scores: Valid, Bar, Part, Note, Plays, With. No statement is proved here. -/
import Derived.Test.YthfcafcjkaemiaaGreatDoorSH
import Derived.Test.YthfcafcjkaemiaaGreatDoorCS
import Derived.Test.YthfcafcjkaemiaaGreatDoorCT8
set_option linter.unusedVariables false
set_option linter.unusedSimpArgs false
namespace Go.Proofs.YthfcafcjkaemiaaGreatDoor
open Go.Ab
attribute [local irreducible] AWP AOps EStep AQ PStep PRun PCall TCall VCall

def Score.Sized (s : Score) : Prop := s.bars.length ≤ 9223372036854775807 ∧ s.parts.length ≤ 9223372036854775807 ∧ s.notes.length ≤ 9223372036854775807
def Score.few (s : Score) : Bool := decide ((s.bars.length : Int) ≤ 60) && decide ((s.parts.length : Int) ≤ 61) && decide ((s.notes.length : Int) ≤ 60)
theorem Score.few_small {s : Score} (h : s.few = true) : s.Small := by
  unfold Score.few at h; simp only [Bool.and_eq_true, decide_eq_true_eq] at h
  exact ⟨by omega, by omega, by omega⟩
theorem few8_spec (s : Score) (hs : s.Sized) : PCall Tryz.prog 12 [.agg (encS s)] (.b s.few) := by
  obtain ⟨h1, h2, h3⟩ := hs
  refine PCall.body Tryz.func12 rfl rfl Tryz.ntmps12 rfl rfl ?_
  repeat' (first
    | refine AOps.q rfl rfl rfl (fun hg => by first | exact std0 | exact std1) (by exact rfl) ?_
    | refine AWP.seq ?_
    | refine AWP.regionK (fun K' hK => ?_)
    | (refine AOps.nil (hK _ _ ?_); clear hK K')
    | refine AOps.e (EStep.boxW rfl rfl rfl rfl rfl True.intro rfl rfl ?_)
    | refine AOps.e (EStep.storeW tabOk rfl rfl rfl True.intro rfl rfl True.intro rfl rfl rfl rfl rfl rfl rfl ?_)
    | refine AOps.e (EStep.allocW tabOk rfl rfl rfl rfl rfl rfl ?_)
    | (refine AWP.condW rfl True.intro (fun hc => ?_) (fun hc => ?_) <;> (first | (simp only [decide_eq_true_eq] at hc) | (simp only [decide_eq_false_iff_not, Int.not_lt, Int.not_le] at hc) | skip))
    | refine AWP.block ?_
    | refine AWP.exit ?_
    | refine AWP.skip ?_
    | refine AWP.ret ?_
    | refine AWP.drawK2 (by decide +kernel) (by kernel_rfl) (by decide +kernel) rfl (fun K' hK => ?_)
    | refine AWP.drawL2 (by kernel_rfl) (by decide +kernel) rfl (fun K' hK => ?_)
    | (refine AQ.nil (hK _ ?_); clear hK K')
    | refine AQ.nil ?_
    | refine AQ.q rfl rfl (fun hg => by first | exact std0 | exact std1) (by exact rfl) ?_)
  exact ⟨.inr rfl, Ent.b rfl⟩
theorem notesOk_all {bars : List Bar} {l : List Note} (h : notesOk bars l = true) : barsOk bars = true ∧ l.length ≤ 20000 ∧ ∀ x ∈ l, noteOk bars x = true := by
  unfold notesOk at h
  simp only [Bool.and_eq_true, decide_eq_true_eq, List.all_eq_true] at h
  exact ⟨h.1.1.1, by omega, h.1.2⟩
/-- A score that is valid, by the steps of its notes. -/
def scoreX (s : Score) : Bool := !scoreBad s && stepsOk (idxAL s.bars) s.notes
theorem scoreOk_eq (s : Score) : scoreOk s = scoreX s := by
  unfold scoreOk scoreX
  cases h : scoreBad s with
  | true => rfl
  | false =>
    have : notesOk s.bars s.notes = true := by
      unfold scoreBad at h
      simp only [Bool.or_eq_false_iff, Bool.not_eq_false'] at h
      exact h.1.2
    rw [sort_steps this]
set_option maxRecDepth 20000 in
theorem valid8_spec (s : Score) (hs : s.Small) : PCall Tryz.prog 13 [.agg (encS s)] (.b (scoreOk s)) := by
  obtain ⟨h1, h2, h3⟩ := hs
  have v1 := r6valid_spec s.bars (by omega)
  have v2 := partsX_spec s.parts (by omega)
  rw [partsX_ok] at v2
  have v3 := r7valid_spec s.bars s.notes (by omega) (by omega)
  rw [scoreOk_eq]
  refine PCall.body Tryz.func13 rfl rfl Tryz.ntmps13 rfl rfl ?_
  repeat' (first
    | refine AOps.q rfl rfl rfl (fun hg => by first | exact std0 | exact PRun.callW (v1) rfl rfl nd rfl nds | exact PRun.callW (v2) rfl rfl nd rfl nds | exact PRun.callW (r8in_spec _ _ _) rfl rfl nd rfl nds | exact std1) (by exact rfl) ?_
    | refine AWP.seq ?_
    | refine AWP.regionK (fun K' hK => ?_)
    | (refine AOps.nil (hK _ _ ?_); clear hK K')
    | refine AOps.e (EStep.boxW rfl rfl rfl rfl rfl True.intro rfl rfl ?_)
    | refine AOps.e (EStep.storeW tabOk rfl rfl rfl True.intro rfl rfl True.intro rfl rfl rfl rfl rfl rfl rfl ?_)
    | refine AOps.e (EStep.allocW tabOk rfl rfl rfl rfl rfl rfl ?_)
    | (refine AWP.condW rfl True.intro (fun hc => ?_) (fun hc => ?_) <;> (first | (simp only [decide_eq_true_eq] at hc) | (simp only [decide_eq_false_iff_not, Int.not_lt, Int.not_le] at hc) | skip))
    | refine AWP.block ?_
    | refine AWP.exit ?_
    | refine AWP.skip ?_
    | refine AWP.ret ?_
    | refine AWP.drawK2 (by decide +kernel) (by kernel_rfl) (by decide +kernel) rfl (fun K' hK => ?_)
    | refine AWP.drawL2 (by kernel_rfl) (by decide +kernel) rfl (fun K' hK => ?_)
    | (refine AQ.nil (hK _ ?_); clear hK K')
    | refine AQ.nil ?_
    | refine AQ.q rfl rfl (fun hg => by first | exact std0 | exact PRun.callW (v1) rfl rfl nd rfl nds | exact PRun.callW (v2) rfl rfl nd rfl nds | exact PRun.callW (r8in_spec _ _ _) rfl rfl nd rfl nds | exact std1) (by exact rfl) ?_)
  · refine ⟨.inr rfl, Ent.b (Eq.symm ?_)⟩
    unfold scoreX scoreBad
    have : (!inB s.version 1 1000000 || !barsOk s.bars || !partsOk s.parts) = true := hc
    rw [this]; rfl
  have b1 : (!inB s.version 1 1000000 || !barsOk s.bars || !partsOk s.parts) = false := hc
  have hp : barsOk s.bars = true ∧ partsOk s.parts = true := by
    simp only [Bool.or_eq_false_iff, Bool.not_eq_false'] at b1
    exact ⟨b1.1.2, b1.2⟩
  clear hc v1 v2
  repeat' (first
    | refine AOps.q rfl rfl rfl (fun hg => by first | exact std0 | exact PRun.callW (v3) rfl rfl nd rfl nds | exact std1) (by exact rfl) ?_
    | refine AWP.seq ?_
    | refine AWP.regionK (fun K' hK => ?_)
    | (refine AOps.nil (hK _ _ ?_); clear hK K')
    | refine AOps.e (EStep.boxW rfl rfl rfl rfl rfl True.intro rfl rfl ?_)
    | refine AOps.e (EStep.storeW tabOk rfl rfl rfl True.intro rfl rfl True.intro rfl rfl rfl rfl rfl rfl rfl ?_)
    | refine AOps.e (EStep.allocW tabOk rfl rfl rfl rfl rfl rfl ?_)
    | (refine AWP.condW rfl True.intro (fun hc => ?_) (fun hc => ?_) <;> (first | (simp only [decide_eq_true_eq] at hc) | (simp only [decide_eq_false_iff_not, Int.not_lt, Int.not_le] at hc) | skip))
    | refine AWP.block ?_
    | refine AWP.exit ?_
    | refine AWP.skip ?_
    | refine AWP.ret ?_
    | (refine AQ.nil (hK _ ?_); clear hK K')
    | refine AQ.nil ?_
    | refine AQ.q rfl rfl (fun hg => by first | exact std0 | exact PRun.callW (v3) rfl rfl nd rfl nds | exact std1) (by exact rfl) ?_)
  · refine ⟨.inr rfl, Ent.b (Eq.symm ?_)⟩
    unfold scoreX scoreBad
    rw [b1, show notesOk s.bars s.notes = false by simpa using hc]; rfl
  have hn : notesOk s.bars s.notes = true := by simpa using hc
  clear hc v3
  obtain ⟨n1, n2, n3⟩ := notesOk_all hn
  have v4 := wrong8_spec s.parts s.notes (by omega) (by omega) hp.2 (fun n hn => (noteOk_form (n3 n hn)).2)
  repeat' (first
    | refine AOps.q rfl rfl rfl (fun hg => by first | exact std0 | exact PRun.callW (v4) rfl rfl nd rfl nds | exact std1) (by exact rfl) ?_
    | refine AWP.seq ?_
    | refine AWP.regionK (fun K' hK => ?_)
    | (refine AOps.nil (hK _ _ ?_); clear hK K')
    | refine AOps.e (EStep.boxW rfl rfl rfl rfl rfl True.intro rfl rfl ?_)
    | refine AOps.e (EStep.storeW tabOk rfl rfl rfl True.intro rfl rfl True.intro rfl rfl rfl rfl rfl rfl rfl ?_)
    | refine AOps.e (EStep.allocW tabOk rfl rfl rfl rfl rfl rfl ?_)
    | (refine AWP.condW rfl True.intro (fun hc => ?_) (fun hc => ?_) <;> (first | (simp only [decide_eq_true_eq] at hc) | (simp only [decide_eq_false_iff_not, Int.not_lt, Int.not_le] at hc) | skip))
    | refine AWP.block ?_
    | refine AWP.exit ?_
    | refine AWP.skip ?_
    | refine AWP.ret ?_
    | (refine AQ.nil (hK _ ?_); clear hK K')
    | refine AQ.nil ?_
    | refine AQ.q rfl rfl (fun hg => by first | exact std0 | exact PRun.callW (v4) rfl rfl nd rfl nds | exact std1) (by exact rfl) ?_)
  · refine ⟨.inr rfl, Ent.b (Eq.symm ?_)⟩
    unfold scoreX scoreBad
    rw [b1, hn, show (wrongR s.parts s.notes != 0) = true from hc]; rfl
  have hw : (wrongR s.parts s.notes != 0) = false := hc
  clear hc v4
  have hbad : scoreBad s = false := by unfold scoreBad; rw [b1, hn, hw]; rfl
  refine AWP.loopW (ι := Nat) (fun k => [(1, .ptr 0 0), (6, .int k)]) (fun _ => [.var (encS s)]) (fun k => 1 ≤ k ∧ (k ≤ s.notes.length ∨ k = 1) ∧ ∀ j, j < k → (j == 0 || bef (idxAL s.bars) (s.notes.getD (j - 1) default) (s.notes.getD j default)) = true) (fun k => s.notes.length - k) 1 ⟨Nat.le_refl _, .inr rfl, fun j h => by (obtain rfl : j = 0 := by omega); rfl⟩ ⟨rfl, rfl, True.intro⟩ rfl ?_
  rintro k ⟨hk0, hk, hall⟩
  by_cases hlt : k < s.notes.length
  · have hb := before_spec s.bars (s.notes.getD ((k : Int) - 1).toNat default) (s.notes.getD k default) (by omega) n1 (all_mem n3 (by omega)) (all_mem n3 hlt)
    have e : ((k : Int) - 1).toNat = k - 1 := by omega
    repeat' (first
      | refine AOps.q rfl rfl rfl (fun hg => by first | exact std0 | exact PRun.callW (hb) rfl rfl nd rfl nds | exact std1) (by exact rfl) ?_
      | refine AWP.seq ?_
      | refine AWP.regionK (fun K' hK => ?_)
      | (refine AOps.nil (hK _ _ ?_); clear hK K')
      | refine AOps.e (EStep.boxW rfl rfl rfl rfl rfl True.intro rfl rfl ?_)
      | refine AOps.e (EStep.storeW tabOk rfl rfl rfl True.intro rfl rfl True.intro rfl rfl rfl rfl rfl rfl rfl ?_)
      | refine AOps.e (EStep.allocW tabOk rfl rfl rfl rfl rfl rfl ?_)
      | (refine AWP.condW rfl True.intro (fun hc => ?_) (fun hc => ?_) <;> (first | (simp only [decide_eq_true_eq] at hc) | (simp only [decide_eq_false_iff_not, Int.not_lt, Int.not_le] at hc) | skip))
      | refine AWP.block ?_
      | refine AWP.exit ?_
      | refine AWP.skip ?_
      | refine AWP.ret ?_
      | refine AWP.drawK2 (by decide +kernel) (by kernel_rfl) (by decide +kernel) rfl (fun K' hK => ?_)
      | refine AWP.drawL2 (by kernel_rfl) (by decide +kernel) rfl (fun K' hK => ?_)
      | (refine AQ.nil (hK _ ?_); clear hK K')
      | refine AQ.nil ?_
      | refine AQ.q rfl rfl (fun hg => by first | exact std0 | exact PRun.callW (hb) rfl rfl nd rfl nds | exact std1) (by exact rfl) ?_)
    all_goals (first | (exfalso; omega) | skip)
    · refine ⟨.inr rfl, Ent.b (Eq.symm ?_)⟩
      unfold scoreX stepsOk
      rw [e] at hc
      rw [allR_no hlt (by
        have h5 : (k == 0) = false := by simp; omega
        rw [h5, Bool.false_or]; simpa using hc)]; simp
    · rw [e] at hc
      refine ⟨k + 1, ⟨by omega, .inl (by omega), fun j hj => lt_succ_cases hall ?_ hj⟩, by omega, ⟨rfl, rfl, True.intro⟩, rfl⟩
      rw [show bef (idxAL s.bars) (s.notes.getD (k - 1) default) (s.notes.getD k default) = true by simpa using hc]; simp
  · repeat' (first
      | refine AOps.q rfl rfl rfl (fun hg => by first | exact std0 | exact std1) (by exact rfl) ?_
      | refine AWP.seq ?_
      | refine AWP.regionK (fun K' hK => ?_)
      | (refine AOps.nil (hK _ _ ?_); clear hK K')
      | refine AOps.e (EStep.boxW rfl rfl rfl rfl rfl True.intro rfl rfl ?_)
      | refine AOps.e (EStep.storeW tabOk rfl rfl rfl True.intro rfl rfl True.intro rfl rfl rfl rfl rfl rfl rfl ?_)
      | refine AOps.e (EStep.allocW tabOk rfl rfl rfl rfl rfl rfl ?_)
      | (refine AWP.condW rfl True.intro (fun hc => ?_) (fun hc => ?_) <;> (first | (simp only [decide_eq_true_eq] at hc) | (simp only [decide_eq_false_iff_not, Int.not_lt, Int.not_le] at hc) | skip))
      | refine AWP.block ?_
      | refine AWP.exit ?_
      | refine AWP.skip ?_
      | refine AWP.ret ?_
      | refine AWP.drawK2 (by decide +kernel) (by kernel_rfl) (by decide +kernel) rfl (fun K' hK => ?_)
      | refine AWP.drawL2 (by kernel_rfl) (by decide +kernel) rfl (fun K' hK => ?_)
      | (refine AQ.nil (hK _ ?_); clear hK K')
      | refine AQ.nil ?_
      | refine AQ.q rfl rfl (fun hg => by first | exact std0 | exact std1) (by exact rfl) ?_)
    all_goals (first | (exfalso; omega) | skip)
    refine ⟨.inr rfl, Ent.b (Eq.symm ?_)⟩
    unfold scoreX stepsOk
    rw [hbad, allR_yes fun j hj => hall j (by omega)]; rfl
theorem asked8_spec (s : Score) (hs : s.Small) (id : Int) : PCall Tryz.prog 142 [.agg (encS s), .int id] (.b (askedB s id)) := by
  refine PCall.body Tryz.func142 rfl rfl Tryz.ntmps142 rfl rfl ?_
  repeat' (first
    | refine AOps.q rfl rfl rfl (fun hg => by first | exact std0 | exact PRun.callW (valid8_spec s hs) rfl rfl nd rfl nds | exact PRun.callW (r8in_spec _ _ _) rfl rfl nd rfl nds | exact std1) (by exact rfl) ?_
    | refine AWP.seq ?_
    | refine AWP.regionK (fun K' hK => ?_)
    | (refine AOps.nil (hK _ _ ?_); clear hK K')
    | refine AOps.e (EStep.boxW rfl rfl rfl rfl rfl True.intro rfl rfl ?_)
    | refine AOps.e (EStep.storeW tabOk rfl rfl rfl True.intro rfl rfl True.intro rfl rfl rfl rfl rfl rfl rfl ?_)
    | refine AOps.e (EStep.allocW tabOk rfl rfl rfl rfl rfl rfl ?_)
    | (refine AWP.condW rfl True.intro (fun hc => ?_) (fun hc => ?_) <;> (first | (simp only [decide_eq_true_eq] at hc) | (simp only [decide_eq_false_iff_not, Int.not_lt, Int.not_le] at hc) | skip))
    | refine AWP.block ?_
    | refine AWP.exit ?_
    | refine AWP.skip ?_
    | refine AWP.ret ?_
    | refine AWP.drawK2 (by decide +kernel) (by kernel_rfl) (by decide +kernel) rfl (fun K' hK => ?_)
    | refine AWP.drawL2 (by kernel_rfl) (by decide +kernel) rfl (fun K' hK => ?_)
    | (refine AQ.nil (hK _ ?_); clear hK K')
    | refine AQ.nil ?_
    | refine AQ.q rfl rfl (fun hg => by first | exact std0 | exact PRun.callW (valid8_spec s hs) rfl rfl nd rfl nds | exact PRun.callW (r8in_spec _ _ _) rfl rfl nd rfl nds | exact std1) (by exact rfl) ?_)
  exact ⟨.inr rfl, Ent.b rfl⟩
theorem found_spec (i : Int) (hi : -1 ≤ i) : PCall Tryz.prog 143 [.int i] (.tup [.int (idxR i).1, .b (idxR i).2]) := by
  unfold idxR
  refine PCall.body Tryz.func143 rfl rfl Tryz.ntmps143 rfl rfl ?_
  repeat' (first
    | refine AOps.q rfl rfl rfl (fun hg => by first | exact std0 | exact std1) (by exact rfl) ?_
    | refine AWP.seq ?_
    | refine AWP.regionK (fun K' hK => ?_)
    | (refine AOps.nil (hK _ _ ?_); clear hK K')
    | refine AOps.e (EStep.boxW rfl rfl rfl rfl rfl True.intro rfl rfl ?_)
    | refine AOps.e (EStep.storeW tabOk rfl rfl rfl True.intro rfl rfl True.intro rfl rfl rfl rfl rfl rfl rfl ?_)
    | refine AOps.e (EStep.allocW tabOk rfl rfl rfl rfl rfl rfl ?_)
    | (refine AWP.condW rfl True.intro (fun hc => ?_) (fun hc => ?_) <;> (first | (simp only [decide_eq_true_eq] at hc) | (simp only [decide_eq_false_iff_not, Int.not_lt, Int.not_le] at hc) | skip))
    | refine AWP.block ?_
    | refine AWP.exit ?_
    | refine AWP.skip ?_
    | refine AWP.ret ?_
    | refine AWP.drawK2 (by decide +kernel) (by kernel_rfl) (by decide +kernel) rfl (fun K' hK => ?_)
    | refine AWP.drawL2 (by kernel_rfl) (by decide +kernel) rfl (fun K' hK => ?_)
    | (refine AQ.nil (hK _ ?_); clear hK K')
    | refine AQ.nil ?_
    | refine AQ.q rfl rfl (fun hg => by first | exact std0 | exact std1) (by exact rfl) ?_)
  · refine ⟨.inr rfl, Ent.of ?_⟩
    rw [show max i 0 = 0 by omega, show decide (i ≥ 0) = false from decide_eq_false (by omega)]; rfl
  · refine ⟨.inr rfl, Ent.of ?_⟩
    rw [show max i 0 = i by omega, show decide (i ≥ 0) = true from decide_eq_true hc]; rfl
theorem findI_ge {α : Type} (p : α → Bool) (l : List α) : -1 ≤ findI p l := by unfold findI; split <;> omega
theorem part8_spec (s : Score) (hs : s.Small) (id : Int) : PCall Tryz.prog 98 [.agg (encS s), .int id] (at3 (partR s id)) := by
  have ha := asked8_spec s hs id
  obtain ⟨h1, h2, h3⟩ := hs
  have hb := partAt_spec s.parts id (by omega)
  have hf := found_spec (partAt s.parts id) (findI_ge _ _)
  refine PCall.body Tryz.func98 rfl rfl Tryz.ntmps98 rfl rfl ?_
  repeat' (first
    | refine AOps.q rfl rfl rfl (fun hg => by first | exact std0 | exact PRun.callW (ha) rfl rfl nd rfl nds | exact PRun.callW (hb) rfl rfl nd rfl nds | exact PRun.callW (hf) rfl rfl nd rfl nds | exact std1) (by exact rfl) ?_
    | refine AWP.seq ?_
    | refine AWP.regionK (fun K' hK => ?_)
    | (refine AOps.nil (hK _ _ ?_); clear hK K')
    | refine AOps.e (EStep.boxW rfl rfl rfl rfl rfl True.intro rfl rfl ?_)
    | refine AOps.e (EStep.storeW tabOk rfl rfl rfl True.intro rfl rfl True.intro rfl rfl rfl rfl rfl rfl rfl ?_)
    | refine AOps.e (EStep.allocW tabOk rfl rfl rfl rfl rfl rfl ?_)
    | (refine AWP.condW rfl True.intro (fun hc => ?_) (fun hc => ?_) <;> (first | (simp only [decide_eq_true_eq] at hc) | (simp only [decide_eq_false_iff_not, Int.not_lt, Int.not_le] at hc) | skip))
    | refine AWP.block ?_
    | refine AWP.exit ?_
    | refine AWP.skip ?_
    | refine AWP.ret ?_
    | refine AWP.drawK2 (by decide +kernel) (by kernel_rfl) (by decide +kernel) rfl (fun K' hK => ?_)
    | refine AWP.drawL2 (by kernel_rfl) (by decide +kernel) rfl (fun K' hK => ?_)
    | (refine AQ.nil (hK _ ?_); clear hK K')
    | refine AQ.nil ?_
    | refine AQ.q rfl rfl (fun hg => by first | exact std0 | exact PRun.callW (ha) rfl rfl nd rfl nds | exact PRun.callW (hb) rfl rfl nd rfl nds | exact PRun.callW (hf) rfl rfl nd rfl nds | exact std1) (by exact rfl) ?_)
  · refine ⟨.inr rfl, Ent.of ?_⟩
    rw [show partR s id = (0, false, 1) from by unfold partR idR; rw [if_neg (by simpa using hc)]]; rfl
  · refine ⟨.inr rfl, Ent.of ?_⟩
    unfold partR idR; rw [if_pos (by simpa using hc)]; rfl
theorem source_spec (p : Part) : PCall Tryz.prog 16 [.agg (encP p)] (.int (srcOf p)) := by
  unfold srcOf
  refine PCall.body Tryz.func16 rfl rfl Tryz.ntmps16 rfl rfl ?_
  repeat' (first
    | refine AOps.q rfl rfl rfl (fun hg => by first | exact std0 | exact std1) (by exact rfl) ?_
    | refine AWP.seq ?_
    | refine AWP.regionK (fun K' hK => ?_)
    | (refine AOps.nil (hK _ _ ?_); clear hK K')
    | refine AOps.e (EStep.boxW rfl rfl rfl rfl rfl True.intro rfl rfl ?_)
    | refine AOps.e (EStep.storeW tabOk rfl rfl rfl True.intro rfl rfl True.intro rfl rfl rfl rfl rfl rfl rfl ?_)
    | refine AOps.e (EStep.allocW tabOk rfl rfl rfl rfl rfl rfl ?_)
    | (refine AWP.condW rfl True.intro (fun hc => ?_) (fun hc => ?_) <;> (first | (simp only [decide_eq_true_eq] at hc) | (simp only [decide_eq_false_iff_not, Int.not_lt, Int.not_le] at hc) | skip))
    | refine AWP.block ?_
    | refine AWP.exit ?_
    | refine AWP.skip ?_
    | refine AWP.ret ?_
    | refine AWP.drawK2 (by decide +kernel) (by kernel_rfl) (by decide +kernel) rfl (fun K' hK => ?_)
    | refine AWP.drawL2 (by kernel_rfl) (by decide +kernel) rfl (fun K' hK => ?_)
    | (refine AQ.nil (hK _ ?_); clear hK K')
    | refine AQ.nil ?_
    | refine AQ.q rfl rfl (fun hg => by first | exact std0 | exact std1) (by exact rfl) ?_)
  · exact ⟨.inr rfl, Ent.int (by rw [if_pos hc])⟩
  · exact ⟨.inr rfl, Ent.int (by rw [if_neg (by rw [hc]; decide)])⟩
theorem played_take {l : List Note} {p : Part} {k : Nat} (h : k < l.length) : playedL (l.take (k + 1)) p = if (l.getD k default).part == srcOf p then playedL (l.take k) p ++ [playN p (l.getD k default)] else playedL (l.take k) p := by
  rw [take_snoc h]; unfold playedL
  rw [List.filter_append, List.map_append]
  split
  · rename_i h2; rw [List.filter_cons_of_pos (by exact h2)]; rfl
  · rename_i h2; rw [List.filter_cons_of_neg (by exact h2)]; simp
set_option maxRecDepth 20000 in
theorem played8_spec (s : Score) (p : Part) (hl : s.notes.length ≤ 1000000000) (ho : octIn s.notes) (hp : -1000 ≤ p.octave ∧ p.octave ≤ 1000) :
    PCall Tryz.prog 144 [.agg (encS s), .agg (encP p)] (.sl 12 ((playedL s.notes p).map encN) .no) := by
  have hsrc := source_spec p
  refine PCall.body Tryz.func144 rfl rfl Tryz.ntmps144 rfl rfl ?_
  repeat' (first
    | refine AOps.q rfl rfl rfl (fun hg => by first | exact std0 | exact std1) (by exact rfl) ?_
    | refine AWP.seq ?_
    | refine AWP.regionK (fun K' hK => ?_)
    | (refine AOps.nil (hK _ _ ?_); clear hK K')
    | refine AOps.e (EStep.boxW rfl rfl rfl rfl rfl True.intro rfl rfl ?_)
    | refine AOps.e (EStep.storeW tabOk rfl rfl rfl True.intro rfl rfl True.intro rfl rfl rfl rfl rfl rfl rfl ?_)
    | refine AOps.e (EStep.allocW tabOk rfl rfl rfl rfl rfl rfl ?_)
    | (refine AWP.condW rfl True.intro (fun hc => ?_) (fun hc => ?_) <;> (first | (simp only [decide_eq_true_eq] at hc) | (simp only [decide_eq_false_iff_not, Int.not_lt, Int.not_le] at hc) | skip))
    | refine AWP.block ?_
    | refine AWP.exit ?_
    | refine AWP.skip ?_
    | refine AWP.ret ?_
    | refine AWP.drawK2 (by decide +kernel) (by kernel_rfl) (by decide +kernel) rfl (fun K' hK => ?_)
    | refine AWP.drawL2 (by kernel_rfl) (by decide +kernel) rfl (fun K' hK => ?_)
    | (refine AQ.nil (hK _ ?_); clear hK K')
    | refine AQ.nil ?_
    | refine AQ.q rfl rfl (fun hg => by first | exact std0 | exact std1) (by exact rfl) ?_)
  refine AWP.ownNil (d := 5) (sz := 12) rfl ?_
  refine AWP.loopD (ι := Nat) (fun k => [(2, .ptr 0 0), (3, .ptr 1 0), (5, .sl 12 ((playedL (s.notes.take k) p).map encN) (.own 2)), (6, .int k)]) (fun k => [.var (encS s), .var (encP p), .own 12 ((playedL (s.notes.take k) p).map encN).length])
    (fun k => k ≤ s.notes.length) (fun k => s.notes.length - k) 3 (fun _ => rfl) 0 (Nat.zero_le _) ⟨rfl, rfl, rfl, rfl, True.intro⟩ rfl (fun _ _ => rfl) (fun _ _ => rfl) ?_
  intro k hk
  have hlen := played_len (s.notes.take k) p
  rw [List.length_take] at hlen
  by_cases hlt : k < s.notes.length
  · have hq := ho (s.notes.getD k default) (by rw [getD_lt hlt]; exact List.getElem_mem hlt)
    have ht := played_take (p := p) hlt
    repeat' (first
      | refine AOps.q rfl rfl rfl (fun hg => by first | exact std0 | exact PRun.callW (hsrc) rfl rfl nd rfl nds | exact PRun.buildSlW tabOk rfl rfl nds | exact std1) (by exact rfl) ?_
      | refine AWP.seq ?_
      | refine AWP.regionK (fun K' hK => ?_)
      | (refine AOps.nil (hK _ _ ?_); clear hK K')
      | refine AOps.e (EStep.boxW rfl rfl rfl rfl rfl True.intro rfl rfl ?_)
      | refine AOps.e (EStep.storeW tabOk rfl rfl rfl True.intro rfl rfl True.intro rfl rfl rfl rfl rfl rfl rfl ?_)
      | refine AOps.e (EStep.allocW tabOk rfl rfl rfl rfl rfl rfl ?_)
      | refine AOps.e (EStep.appendOwn' tabOk rfl rfl rfl (by decide) (Rd.w rfl True.intro) rfl (Rd.w rfl True.intro) (.sl rfl (by first | (intro x hx; rcases List.mem_singleton.1 hx with rfl; rfl) | exact one_encN _)) (LOk.of (tabOk.get rfl)) (LOk.of (tabOk.get rfl)) rfl rfl (by simp only [List.length_map, List.length_append, List.length_cons, List.length_nil, List.length_take, List.length_drop]; omega) (by simp only [List.length_map, List.length_append, List.length_cons, List.length_nil, List.length_take, List.length_drop]; omega) ?_)
      | (refine AWP.condW rfl True.intro (fun hc => ?_) (fun hc => ?_) <;> (first | (simp only [decide_eq_true_eq] at hc) | (simp only [decide_eq_false_iff_not, Int.not_lt, Int.not_le] at hc) | skip))
      | refine AWP.block ?_
      | refine AWP.exit ?_
      | refine AWP.skip ?_
      | refine AWP.ret ?_
      | refine AWP.drawK2 (by decide +kernel) (by kernel_rfl) (by decide +kernel) rfl (fun K' hK => ?_)
      | refine AWP.drawL2 (by kernel_rfl) (by decide +kernel) rfl (fun K' hK => ?_)
      | (refine AQ.nil (hK _ ?_); clear hK K')
      | refine AQ.nil ?_
      | refine AQ.q rfl rfl (fun hg => by first | exact std0 | exact PRun.callW (hsrc) rfl rfl nd rfl nds | exact PRun.buildSlW tabOk rfl rfl nds | exact std1) (by exact rfl) ?_)
    all_goals (first | (exfalso; omega) | skip)
    · have h5 := bneT hc
      rw [Int.toNat_natCast] at h5
      rw [if_neg (by rw [h5]; decide)] at ht
      refine ⟨k + 1, by omega, by omega, ⟨rfl, rfl, ?_, rfl, True.intro⟩, ?_⟩
      · rw [ht]; rfl
      · rw [ht]; rfl
    · have h5 := bneF hc
      rw [Int.toNat_natCast] at h5
      rw [if_pos h5] at ht
      refine ⟨k + 1, by omega, by omega, ⟨rfl, rfl, ?_, rfl, True.intro⟩, ?_⟩
      · rw [ht, List.map_append]; rfl
      · rw [ht, List.map_append]; rfl
  · repeat' (first
      | refine AOps.q rfl rfl rfl (fun hg => by first | exact std0 | exact std1) (by exact rfl) ?_
      | refine AWP.seq ?_
      | refine AWP.regionK (fun K' hK => ?_)
      | (refine AOps.nil (hK _ _ ?_); clear hK K')
      | refine AOps.e (EStep.boxW rfl rfl rfl rfl rfl True.intro rfl rfl ?_)
      | refine AOps.e (EStep.storeW tabOk rfl rfl rfl True.intro rfl rfl True.intro rfl rfl rfl rfl rfl rfl rfl ?_)
      | refine AOps.e (EStep.allocW tabOk rfl rfl rfl rfl rfl rfl ?_)
      | (refine AWP.condW rfl True.intro (fun hc => ?_) (fun hc => ?_) <;> (first | (simp only [decide_eq_true_eq] at hc) | (simp only [decide_eq_false_iff_not, Int.not_lt, Int.not_le] at hc) | skip))
      | refine AWP.block ?_
      | refine AWP.exit ?_
      | refine AWP.skip ?_
      | refine AWP.ret ?_
      | refine AWP.drawK2 (by decide +kernel) (by kernel_rfl) (by decide +kernel) rfl (fun K' hK => ?_)
      | refine AWP.drawL2 (by kernel_rfl) (by decide +kernel) rfl (fun K' hK => ?_)
      | (refine AQ.nil (hK _ ?_); clear hK K')
      | refine AQ.nil ?_
      | refine AQ.q rfl rfl (fun hg => by first | exact std0 | exact std1) (by exact rfl) ?_)
    all_goals (first | (exfalso; omega) | skip)
    refine ⟨.inr rfl, Ent.of ?_⟩
    rw [List.take_of_length_le (by omega)]; rfl
theorem plays8_spec (s : Score) (hs : s.Small) (id : Int) : PCall Tryz.prog 99 [.agg (encS s), .int id] (.tup [.sl 12 ((playsR s id).1.map encN) .no, .int (playsR s id).2]) := by
  have hv := valid8_spec s hs
  obtain ⟨h1, h2, h3⟩ := hs
  have hi := partAt_spec s.parts id (by omega)
  by_cases hok : scoreOk s = true
  · by_cases hf : findI (fun x : Part => x.id == id) s.parts ≥ 0
    · obtain ⟨k, e1, e2, e3, e4⟩ := findI_lt hf
      have er : playsR s id = (playedL s.notes (s.parts.getD k default), 0) := by unfold playsR; rw [if_pos hok, if_pos hf, e1]; rfl
      rw [er]
      have e5 : partAt s.parts id = k := e1
      rw [e5] at hi
      obtain ⟨o1, o2⟩ := scoreOk_oct hok
      have hpl := played8_spec s (s.parts.getD k default) h3 o1 (o2 _ (by rw [getD_lt e2]; exact List.getElem_mem e2))
      refine PCall.body Tryz.func99 rfl rfl Tryz.ntmps99 rfl rfl ?_
      repeat' (first
        | refine AOps.q rfl rfl rfl (fun hg => by first | exact std0 | exact PRun.callW (hv) rfl rfl nd rfl nds | exact PRun.callW (hi) rfl rfl nd rfl nds | exact PRun.callW (hpl) rfl rfl nd rfl nds | exact std1) (by exact rfl) ?_
        | refine AWP.seq ?_
        | refine AWP.regionK (fun K' hK => ?_)
        | (refine AOps.nil (hK _ _ ?_); clear hK K')
        | refine AOps.e (EStep.boxW rfl rfl rfl rfl rfl True.intro rfl rfl ?_)
        | refine AOps.e (EStep.storeW tabOk rfl rfl rfl True.intro rfl rfl True.intro rfl rfl rfl rfl rfl rfl rfl ?_)
        | refine AOps.e (EStep.allocW tabOk rfl rfl rfl rfl rfl rfl ?_)
        | (refine AWP.condW rfl True.intro (fun hc => ?_) (fun hc => ?_) <;> (first | (simp only [decide_eq_true_eq] at hc) | (simp only [decide_eq_false_iff_not, Int.not_lt, Int.not_le] at hc) | skip))
        | refine AWP.block ?_
        | refine AWP.exit ?_
        | refine AWP.skip ?_
        | refine AWP.ret ?_
        | refine AWP.drawK2 (by decide +kernel) (by kernel_rfl) (by decide +kernel) rfl (fun K' hK => ?_)
        | refine AWP.drawL2 (by kernel_rfl) (by decide +kernel) rfl (fun K' hK => ?_)
        | (refine AQ.nil (hK _ ?_); clear hK K')
        | refine AQ.nil ?_
        | refine AQ.q rfl rfl (fun hg => by first | exact std0 | exact PRun.callW (hv) rfl rfl nd rfl nds | exact PRun.callW (hi) rfl rfl nd rfl nds | exact PRun.callW (hpl) rfl rfl nd rfl nds | exact std1) (by exact rfl) ?_)
      · exfalso; rw [hok] at hc; cases hc
      all_goals (first | (exfalso; omega) | skip)
      exact ⟨.inr rfl, Ent.of rfl⟩
    · have er : playsR s id = ([], 22) := by unfold playsR; rw [if_pos hok, if_neg hf]
      rw [er]
      have hneg : partAt s.parts id < 0 := by unfold partAt; omega
      refine PCall.body Tryz.func99 rfl rfl Tryz.ntmps99 rfl rfl ?_
      repeat' (first
        | refine AOps.q rfl rfl rfl (fun hg => by first | exact std0 | exact PRun.callW (hv) rfl rfl nd rfl nds | exact PRun.callW (hi) rfl rfl nd rfl nds | exact std1) (by exact rfl) ?_
        | refine AWP.seq ?_
        | refine AWP.regionK (fun K' hK => ?_)
        | (refine AOps.nil (hK _ _ ?_); clear hK K')
        | refine AOps.e (EStep.boxW rfl rfl rfl rfl rfl True.intro rfl rfl ?_)
        | refine AOps.e (EStep.storeW tabOk rfl rfl rfl True.intro rfl rfl True.intro rfl rfl rfl rfl rfl rfl rfl ?_)
        | refine AOps.e (EStep.allocW tabOk rfl rfl rfl rfl rfl rfl ?_)
        | (refine AWP.condW rfl True.intro (fun hc => ?_) (fun hc => ?_) <;> (first | (simp only [decide_eq_true_eq] at hc) | (simp only [decide_eq_false_iff_not, Int.not_lt, Int.not_le] at hc) | skip))
        | refine AWP.block ?_
        | refine AWP.exit ?_
        | refine AWP.skip ?_
        | refine AWP.ret ?_
        | (refine AQ.nil (hK _ ?_); clear hK K')
        | refine AQ.nil ?_
        | refine AQ.q rfl rfl (fun hg => by first | exact std0 | exact PRun.callW (hv) rfl rfl nd rfl nds | exact PRun.callW (hi) rfl rfl nd rfl nds | exact std1) (by exact rfl) ?_)
      · exfalso; rw [hok] at hc; cases hc
      · exact ⟨.inr rfl, Ent.tup2 Ent.nil (Ent.rfl' _)⟩
      · exfalso; omega
  · have er : playsR s id = ([], 1) := by unfold playsR; rw [if_neg hok]
    rw [er]
    refine PCall.body Tryz.func99 rfl rfl Tryz.ntmps99 rfl rfl ?_
    repeat' (first
      | refine AOps.q rfl rfl rfl (fun hg => by first | exact std0 | exact PRun.callW (hv) rfl rfl nd rfl nds | exact PRun.callW (hi) rfl rfl nd rfl nds | exact std1) (by exact rfl) ?_
      | refine AWP.seq ?_
      | refine AWP.regionK (fun K' hK => ?_)
      | (refine AOps.nil (hK _ _ ?_); clear hK K')
      | refine AOps.e (EStep.boxW rfl rfl rfl rfl rfl True.intro rfl rfl ?_)
      | refine AOps.e (EStep.storeW tabOk rfl rfl rfl True.intro rfl rfl True.intro rfl rfl rfl rfl rfl rfl rfl ?_)
      | refine AOps.e (EStep.allocW tabOk rfl rfl rfl rfl rfl rfl ?_)
      | (refine AWP.condW rfl True.intro (fun hc => ?_) (fun hc => ?_) <;> (first | (simp only [decide_eq_true_eq] at hc) | (simp only [decide_eq_false_iff_not, Int.not_lt, Int.not_le] at hc) | skip))
      | refine AWP.block ?_
      | refine AWP.exit ?_
      | refine AWP.skip ?_
      | refine AWP.ret ?_
      | (refine AQ.nil (hK _ ?_); clear hK K')
      | refine AQ.nil ?_
      | refine AQ.q rfl rfl (fun hg => by first | exact std0 | exact PRun.callW (hv) rfl rfl nd rfl nds | exact PRun.callW (hi) rfl rfl nd rfl nds | exact std1) (by exact rfl) ?_)
    · exact ⟨.inr rfl, Ent.tup2 Ent.nil (Ent.rfl' _)⟩
    all_goals (exfalso; rename_i hc0; exact hok (by simpa using hc0))
end Go.Proofs.YthfcafcjkaemiaaGreatDoor
