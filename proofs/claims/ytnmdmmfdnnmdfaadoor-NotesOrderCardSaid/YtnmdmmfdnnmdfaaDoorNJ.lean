/- The law NotesMatchesReference by content. -/
import Derived.Test.YtnmdmmfdnnmdfaaDoorNI
set_option linter.unusedVariables false
set_option linter.unusedSimpArgs false
namespace Go.Proofs.YtnmdmmfdnnmdfaaDoor.Nt
open Go.Ab
attribute [local irreducible] AWP AOps EStep AQ PStep PRun PCall TCall VCall

theorem sort7_spec (bars : List Bar) (l : List Note) (hb : bars.length ≤ 1000000000) (hl : l.length ≤ 1000000) :
    PCall Tryd.prog 18 [.sl 4 (bars.map encB) .no, .sl 12 (l.map encN) .no] (.tup [.sl 12 ((sortR bars l).1.map encN) .no, .int (sortR bars l).2]) := by
  have v := r7valid_spec bars l (by omega) (by omega)
  refine PCall.body Tryd.func18 rfl rfl Tryd.ntmps18 rfl rfl ?_
  by_cases h : notesOk bars l = true
  · obtain ⟨hbo, hno⟩ := notesOk_bars h
    have w := sorted7_spec bars l (by omega) hl hbo hno
    have er : sortR bars l = (putsL (idxAL bars) l, 0) := by unfold sortR; rw [if_pos h, sortN_puts (notesOk_in h) (notesOk_nodup h)]
    rw [er]
    repeat' (first | refine AOps.q rfl rfl rfl (fun hg => by first | exact std0 | exact PRun.callW (v) rfl rfl nd rfl nds | exact PRun.callW (w) rfl rfl nd rfl nds | exact std1) (by exact rfl) ?_ | refine AWP.seq ?_ | refine AWP.regionK (fun K' hK => ?_) | (refine AOps.nil (hK _ _ ?_); clear hK K') | refine AOps.e (EStep.boxW rfl rfl rfl rfl rfl True.intro rfl rfl ?_) | refine AOps.e (EStep.storeW tabOk rfl rfl rfl True.intro rfl rfl True.intro rfl rfl rfl rfl rfl rfl rfl ?_) | refine AOps.e (EStep.allocW tabOk rfl rfl rfl rfl rfl rfl ?_) | (refine AWP.condW rfl True.intro (fun hc => ?_) (fun hc => ?_) <;> (first | (simp only [decide_eq_true_eq] at hc) | (simp only [decide_eq_false_iff_not, Int.not_lt, Int.not_le] at hc) | skip)) | refine AWP.block ?_ | refine AWP.exit ?_ | refine AWP.skip ?_ | refine AWP.ret ?_ | refine AWP.drawK2 (by decide +kernel) (by kernel_rfl) (by decide +kernel) rfl (fun K' hK => ?_) | refine AWP.drawL2 (by kernel_rfl) (by decide +kernel) rfl (fun K' hK => ?_) | (refine AQ.nil (hK _ ?_); clear hK K') | refine AQ.nil ?_ | refine AQ.q rfl rfl (fun hg => by first | exact std0 | exact PRun.callW (v) rfl rfl nd rfl nds | exact PRun.callW (w) rfl rfl nd rfl nds | exact std1) (by exact rfl) ?_)
    · exfalso; simp [h] at hc
    · exact ⟨.inr rfl, Ent.of rfl⟩
  · repeat' (first | refine AOps.q rfl rfl rfl (fun hg => by first | exact std0 | exact PRun.callW (v) rfl rfl nd rfl nds | exact std1) (by exact rfl) ?_ | refine AWP.seq ?_ | refine AWP.regionK (fun K' hK => ?_) | (refine AOps.nil (hK _ _ ?_); clear hK K') | refine AOps.e (EStep.boxW rfl rfl rfl rfl rfl True.intro rfl rfl ?_) | refine AOps.e (EStep.storeW tabOk rfl rfl rfl True.intro rfl rfl True.intro rfl rfl rfl rfl rfl rfl rfl ?_) | refine AOps.e (EStep.allocW tabOk rfl rfl rfl rfl rfl rfl ?_) | (refine AWP.condW rfl True.intro (fun hc => ?_) (fun hc => ?_) <;> (first | (simp only [decide_eq_true_eq] at hc) | (simp only [decide_eq_false_iff_not, Int.not_lt, Int.not_le] at hc) | skip)) | refine AWP.block ?_ | refine AWP.exit ?_ | refine AWP.skip ?_ | refine AWP.ret ?_ | refine AWP.drawK2 (by decide +kernel) (by kernel_rfl) (by decide +kernel) rfl (fun K' hK => ?_) | refine AWP.drawL2 (by kernel_rfl) (by decide +kernel) rfl (fun K' hK => ?_) | (refine AQ.nil (hK _ ?_); clear hK K') | refine AQ.nil ?_ | refine AQ.q rfl rfl (fun hg => by first | exact std0 | exact PRun.callW (v) rfl rfl nd rfl nds | exact std1) (by exact rfl) ?_)
    · refine ⟨.inr rfl, ?_⟩
      rw [show sortR bars l = ([], 1) from by unfold sortR; rw [if_neg h]]
      exact Ent.tup2 Ent.nil (Ent.rfl' _)
    · exfalso; simp [h] at hc
theorem busyR_len (bars : List Bar) (l : List Note) (p b : Int) : (busyR bars l p b).1.length ≤ l.length + 1 := by
  have h1 := ofR_len bars l p b
  have h2 := goP_len ((ofR bars l p b).1.map iv) 0 (-1)
  unfold busyR spansP
  simp only [List.length_map] at h2
  show (goP 0 (-1) _).length ≤ _
  omega
theorem restsR_len (bars : List Bar) (l : List Note) (p b : Int) : (restsR bars l p b).1.length ≤ l.length + 2 := by
  have h1 := busyR_len bars l p b
  unfold restsR
  split
  · have h2 := gaps_len (spansP ((ofR bars l p b).1.map iv)) 0 (barW bars b)
    unfold busyR at h1
    show (gaps _ _ _).length ≤ _
    dsimp only at h1; omega
  · simp
theorem sortR_len' (bars : List Bar) (l : List Note) : (sortR bars l).1.length ≤ l.length := by
  unfold sortR
  split
  · show (sortN _ _).length ≤ _; rw [sortN_len]; exact Nat.le_refl _
  · simp
set_option maxHeartbeats 8000000 in
set_option maxRecDepth 20000 in
theorem nmatches_law (bars : List Bar) (hb : bars.length ≤ 9223372036854775807) (l : List Note) (hl : l.length ≤ 9223372036854775807) (p b : Int) :
    PCall Tryd.prog 4 [.sl 4 (bars.map encB) .no, .sl 12 (l.map encN) .no, .int p, .int b] (.b true) := by
  have hh := head_spec
  have hf := few7_spec bars l hb hl
  by_cases hfew : (decide ((bars.length : Int) ≤ 60) && decide ((l.length : Int) ≤ 60)) = true
  · have hs : bars.length ≤ 60 ∧ l.length ≤ 60 := by simp only [Bool.and_eq_true, decide_eq_true_eq] at hfew; omega
    rw [hfew] at hf
    have c1 := Sort_spec bars l (by omega) (by omega)
    have c2 := sort7_spec bars l (by omega) (by omega)
    have c3 := nvalid_spec bars l hb hl
    have c4 := r7valid_spec bars l hb hl
    have l1 := sortR_len' bars l
    have c5 := sameN_spec (sortR bars l).1 (sortR bars l).1 (by omega) (by omega)
    have c6 := of_spec bars l (by omega) (by omega) p b
    have c7 := of7_spec bars l (by omega) (by omega) p b
    have l2 := ofR_len bars l p b
    have c8 := sameN_spec (ofR bars l p b).1 (ofR bars l p b).1 (by omega) (by omega)
    have c9 := busy_spec bars l (by omega) (by omega) p b
    have d1 := busy7_spec bars l (by omega) (by omega) p b
    have l3 := busyR_len bars l p b
    have d2 := sameX (busyR bars l p b).1 (by omega)
    have d3 := rests_spec bars l (by omega) (by omega) p b
    have d4 := rests7_spec bars l (by omega) (by omega) p b
    have l4 := restsR_len bars l p b
    have d5 := sameX (restsR bars l p b).1 (by omega)
    rw [beq_self_eq_true] at c5 c8
    generalize sortR bars l = x1 at *
    generalize ofR bars l p b = x2 at *
    generalize busyR bars l p b = x3 at *
    generalize restsR bars l p b = x4 at *
    generalize notesOk bars l = x5 at *
    refine PCall.body Tryd.func4 rfl rfl Tryd.ntmps4 rfl rfl ?_
    repeat' (first | refine AOps.q rfl rfl rfl (fun hg => by first | exact std0 | exact PRun.callW (hh) rfl rfl nd rfl nds | exact PRun.callW (hf) rfl rfl nd rfl nds | exact PRun.callW (c1) rfl rfl nd rfl nds | exact PRun.callW (c2) rfl rfl nd rfl nds | exact PRun.callW (c3) rfl rfl nd rfl nds | exact PRun.callW (c4) rfl rfl nd rfl nds | exact PRun.callW (c5) rfl rfl nd rfl nds | exact PRun.callW (c6) rfl rfl nd rfl nds | exact PRun.callW (c7) rfl rfl nd rfl nds | exact PRun.callW (c8) rfl rfl nd rfl nds | exact PRun.callW (c9) rfl rfl nd rfl nds | exact PRun.callW (d1) rfl rfl nd rfl nds | exact PRun.callW (d2) rfl rfl nd rfl nds | exact PRun.callW (d3) rfl rfl nd rfl nds | exact PRun.callW (d4) rfl rfl nd rfl nds | exact PRun.callW (d5) rfl rfl nd rfl nds | exact std1) (by exact rfl) ?_ | refine AWP.seq ?_ | refine AWP.regionK (fun K' hK => ?_) | (refine AOps.nil (hK _ _ ?_); clear hK K') | refine AOps.e (EStep.boxW rfl rfl rfl rfl rfl True.intro rfl rfl ?_) | refine AOps.e (EStep.storeW tabOk rfl rfl rfl True.intro rfl rfl True.intro rfl rfl rfl rfl rfl rfl rfl ?_) | refine AOps.e (EStep.allocW tabOk rfl rfl rfl rfl rfl rfl ?_) | (refine AWP.condW rfl True.intro (fun hc => ?_) (fun hc => ?_) <;> (first | (simp only [decide_eq_true_eq] at hc) | (simp only [decide_eq_false_iff_not, Int.not_lt, Int.not_le] at hc) | skip)) | refine AWP.block ?_ | refine AWP.exit ?_ | refine AWP.skip ?_ | refine AWP.ret ?_ | refine AWP.drawK2 (by decide +kernel) (by kernel_rfl) (by decide +kernel) rfl (fun K' hK => ?_) | refine AWP.drawL2 (by kernel_rfl) (by decide +kernel) rfl (fun K' hK => ?_) | (refine AQ.nil (hK _ ?_); clear hK K') | refine AQ.nil ?_ | refine AQ.q rfl rfl (fun hg => by first | exact std0 | exact PRun.callW (hh) rfl rfl nd rfl nds | exact PRun.callW (hf) rfl rfl nd rfl nds | exact PRun.callW (c1) rfl rfl nd rfl nds | exact PRun.callW (c2) rfl rfl nd rfl nds | exact PRun.callW (c3) rfl rfl nd rfl nds | exact PRun.callW (c4) rfl rfl nd rfl nds | exact PRun.callW (c5) rfl rfl nd rfl nds | exact PRun.callW (c6) rfl rfl nd rfl nds | exact PRun.callW (c7) rfl rfl nd rfl nds | exact PRun.callW (c8) rfl rfl nd rfl nds | exact PRun.callW (c9) rfl rfl nd rfl nds | exact PRun.callW (d1) rfl rfl nd rfl nds | exact PRun.callW (d2) rfl rfl nd rfl nds | exact PRun.callW (d3) rfl rfl nd rfl nds | exact PRun.callW (d4) rfl rfl nd rfl nds | exact PRun.callW (d5) rfl rfl nd rfl nds | exact std1) (by exact rfl) ?_)
    · exfalso; simp at hc
    exact ⟨.inr rfl, Ent.b (by simp)⟩
  · have hfew2 : (decide ((bars.length : Int) ≤ 60) && decide ((l.length : Int) ≤ 60)) = false := by simpa using hfew
    rw [hfew2] at hf
    refine PCall.body Tryd.func4 rfl rfl Tryd.ntmps4 rfl rfl ?_
    repeat' (first | refine AOps.q rfl rfl rfl (fun hg => by first | exact std0 | exact PRun.callW (hh) rfl rfl nd rfl nds | exact PRun.callW (hf) rfl rfl nd rfl nds | exact std1) (by exact rfl) ?_ | refine AWP.seq ?_ | refine AWP.regionK (fun K' hK => ?_) | (refine AOps.nil (hK _ _ ?_); clear hK K') | refine AOps.e (EStep.boxW rfl rfl rfl rfl rfl True.intro rfl rfl ?_) | refine AOps.e (EStep.storeW tabOk rfl rfl rfl True.intro rfl rfl True.intro rfl rfl rfl rfl rfl rfl rfl ?_) | refine AOps.e (EStep.allocW tabOk rfl rfl rfl rfl rfl rfl ?_) | (refine AWP.condW rfl True.intro (fun hc => ?_) (fun hc => ?_) <;> (first | (simp only [decide_eq_true_eq] at hc) | (simp only [decide_eq_false_iff_not, Int.not_lt, Int.not_le] at hc) | skip)) | refine AWP.block ?_ | refine AWP.exit ?_ | refine AWP.skip ?_ | refine AWP.ret ?_ | (refine AQ.nil (hK _ ?_); clear hK K') | refine AQ.nil ?_ | refine AQ.q rfl rfl (fun hg => by first | exact std0 | exact PRun.callW (hh) rfl rfl nd rfl nds | exact PRun.callW (hf) rfl rfl nd rfl nds | exact std1) (by exact rfl) ?_)
    · exact ⟨.inr rfl, Ent.b rfl⟩
    all_goals (exfalso; simp at hc)
/-- The bars and notes are right, and few. -/
theorem usable7_spec (bars : List Bar) (l : List Note) (hb : bars.length ≤ 9223372036854775807) (hl : l.length ≤ 9223372036854775807) :
    PCall Tryd.prog 29 [.sl 4 (bars.map encB) .no, .sl 12 (l.map encN) .no] (.b ((decide ((bars.length : Int) ≤ 60) && decide ((l.length : Int) ≤ 60)) && notesOk bars l)) := by
  have hf := few7_spec bars l hb hl
  have hv := r7valid_spec bars l hb hl
  refine PCall.body Tryd.func29 rfl rfl Tryd.ntmps29 rfl rfl ?_
  repeat' (first | refine AOps.q rfl rfl rfl (fun hg => by first | exact std0 | exact PRun.callW (hf) rfl rfl nd rfl nds | exact PRun.callW (hv) rfl rfl nd rfl nds | exact std1) (by exact rfl) ?_ | refine AWP.seq ?_ | refine AWP.regionK (fun K' hK => ?_) | (refine AOps.nil (hK _ _ ?_); clear hK K') | refine AOps.e (EStep.boxW rfl rfl rfl rfl rfl True.intro rfl rfl ?_) | refine AOps.e (EStep.storeW tabOk rfl rfl rfl True.intro rfl rfl True.intro rfl rfl rfl rfl rfl rfl rfl ?_) | refine AOps.e (EStep.allocW tabOk rfl rfl rfl rfl rfl rfl ?_) | (refine AWP.condW rfl True.intro (fun hc => ?_) (fun hc => ?_) <;> (first | (simp only [decide_eq_true_eq] at hc) | (simp only [decide_eq_false_iff_not, Int.not_lt, Int.not_le] at hc) | skip)) | refine AWP.block ?_ | refine AWP.exit ?_ | refine AWP.skip ?_ | refine AWP.ret ?_ | refine AWP.drawK2 (by decide +kernel) (by kernel_rfl) (by decide +kernel) rfl (fun K' hK => ?_) | refine AWP.drawL2 (by kernel_rfl) (by decide +kernel) rfl (fun K' hK => ?_) | (refine AQ.nil (hK _ ?_); clear hK K') | refine AQ.nil ?_ | refine AQ.q rfl rfl (fun hg => by first | exact std0 | exact PRun.callW (hf) rfl rfl nd rfl nds | exact PRun.callW (hv) rfl rfl nd rfl nds | exact std1) (by exact rfl) ?_)
  exact ⟨.inr rfl, Ent.b rfl⟩
theorem usable_iff {bars : List Bar} {l : List Note} (h : ((decide ((bars.length : Int) ≤ 60) && decide ((l.length : Int) ≤ 60)) && notesOk bars l) = true) : bars.length ≤ 60 ∧ l.length ≤ 60 ∧ notesOk bars l = true := by
  simp only [Bool.and_eq_true, decide_eq_true_eq] at h
  exact ⟨by omega, by omega, h.2⟩
end Go.Proofs.YtnmdmmfdnnmdfaaDoor.Nt
