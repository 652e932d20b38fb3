/- The law EditionMatchesReference by content. -/
import Derived.Test.YtnmdmmfdnnmdfaaGreatDoorEI
set_option linter.unusedVariables false
set_option linter.unusedSimpArgs false
namespace Go.Proofs.YtnmdmmfdnnmdfaaGreatDoor.Ed
open Go.Ab
attribute [local irreducible] AWP AOps EStep AQ PStep PRun PCall TCall VCall

set_option maxHeartbeats 8000000 in
set_option maxRecDepth 20000 in
theorem ematches_law (s : Score) (hz : s.Sized) (e : Edition) (hw : Wf e) (nm : ByteArray) (hn : nm.size ≤ 9223372036854775807) (number i pass vb vp : Int) :
    PCall Tryz.prog 4 [.agg (encS s), .agg (encE e), .str nm, .int number, .int i, .int pass, .agg [.int vb, .int vp]] (.b true) := by
  have hh := head_spec
  have hf := few8_spec s hz
  have hf2 := few_spec e
  generalize hE : (decide ((e.bars.length : Int) ≤ 80) && decide ((e.letters.length : Int) ≤ 60)) = fe at *
  by_cases hfew : ((!s.few || !fe) || decide ((nm.size : Int) > 100)) = true
  · refine PCall.body Tryz.func4 rfl rfl Tryz.ntmps4 rfl rfl ?_
    repeat' (first | refine AOps.q rfl rfl rfl (fun hg => by first | exact std0 | exact PRun.callW (hh) rfl rfl nd rfl nds | exact PRun.callW (hf) rfl rfl nd rfl nds | exact PRun.callW (hf2) rfl rfl nd rfl nds | exact std1) (by exact rfl) ?_ | refine AWP.seq ?_ | refine AWP.regionK (fun K' hK => ?_) | (refine AOps.nil (hK _ _ ?_); clear hK K') | refine AOps.e (EStep.boxW rfl rfl rfl rfl rfl True.intro rfl rfl ?_) | refine AOps.e (EStep.storeW tabOk rfl rfl rfl True.intro rfl rfl True.intro rfl rfl rfl rfl rfl rfl rfl ?_) | refine AOps.e (EStep.allocW tabOk rfl rfl rfl rfl rfl rfl ?_) | (refine AWP.condW rfl True.intro (fun hc => ?_) (fun hc => ?_) <;> (first | (simp only [decide_eq_true_eq] at hc) | (simp only [decide_eq_false_iff_not, Int.not_lt, Int.not_le] at hc) | skip)) | refine AWP.block ?_ | refine AWP.exit ?_ | refine AWP.skip ?_ | refine AWP.ret ?_ | (refine AQ.nil (hK _ ?_); clear hK K') | refine AQ.nil ?_ | refine AQ.q rfl rfl (fun hg => by first | exact std0 | exact PRun.callW (hh) rfl rfl nd rfl nds | exact PRun.callW (hf) rfl rfl nd rfl nds | exact PRun.callW (hf2) rfl rfl nd rfl nds | exact std1) (by exact rfl) ?_)
    · exact ⟨.inr rfl, Ent.b rfl⟩
    all_goals (exfalso; rw [hfew] at hc; cases hc)
  · have hfew2 : ((!s.few || !fe) || decide ((nm.size : Int) > 100)) = false := by simpa using hfew
    have hfs : s.few = true := by
      simp only [Bool.or_eq_false_iff, Bool.not_eq_false'] at hfew2
      exact hfew2.1.1
    have hs := Score.few_small hfs
    have c1 := let_spec e hw nm hn
    have c2 := letter11_spec e hw nm
    have c3 := evalid_spec s hs e hw
    have c4 := valid11_spec s hs e hw
    have c5 := number_spec e hw number
    have c6 := number11_spec e hw number
    have c7 := visit_spec e hw i pass
    have c8 := visit11_spec e hw i pass
    have c9 := place_spec e hw vb vp
    have d1 := place11_spec e hw vb vp
    generalize letR e nm = x1 at *
    generalize edOk s e = x2 at *
    generalize numR e number = x3 at *
    generalize viR e i pass = x4 at *
    generalize plR e vb vp = x5 at *
    refine PCall.body Tryz.func4 rfl rfl Tryz.ntmps4 rfl rfl ?_
    repeat' (first | refine AOps.q rfl rfl rfl (fun hg => by first | exact std0 | exact PRun.callW (hh) rfl rfl nd rfl nds | exact PRun.callW (hf) rfl rfl nd rfl nds | exact PRun.callW (hf2) rfl rfl nd rfl nds | exact PRun.callW (c1) rfl rfl nd rfl nds | exact PRun.callW (c2) rfl rfl nd rfl nds | exact PRun.callW (c3) rfl rfl nd rfl nds | exact PRun.callW (c4) rfl rfl nd rfl nds | exact PRun.callW (c5) rfl rfl nd rfl nds | exact PRun.callW (c6) rfl rfl nd rfl nds | exact PRun.callW (c7) rfl rfl nd rfl nds | exact PRun.callW (c8) rfl rfl nd rfl nds | exact PRun.callW (c9) rfl rfl nd rfl nds | exact PRun.callW (d1) rfl rfl nd rfl nds | exact PRun.eqS fl39 rfl rfl nd rfl nd rfl | exact std1) (by exact rfl) ?_ | refine AWP.seq ?_ | refine AWP.regionK (fun K' hK => ?_) | (refine AOps.nil (hK _ _ ?_); clear hK K') | refine AOps.e (EStep.boxW rfl rfl rfl rfl rfl True.intro rfl rfl ?_) | refine AOps.e (EStep.storeW tabOk rfl rfl rfl True.intro rfl rfl True.intro rfl rfl rfl rfl rfl rfl rfl ?_) | refine AOps.e (EStep.allocW tabOk rfl rfl rfl rfl rfl rfl ?_) | (refine AWP.condW rfl True.intro (fun hc => ?_) (fun hc => ?_) <;> (first | (simp only [decide_eq_true_eq] at hc) | (simp only [decide_eq_false_iff_not, Int.not_lt, Int.not_le] at hc) | skip)) | refine AWP.block ?_ | refine AWP.exit ?_ | refine AWP.skip ?_ | refine AWP.ret ?_ | refine AWP.drawK2 (by decide +kernel) (by kernel_rfl) (by decide +kernel) rfl (fun K' hK => ?_) | refine AWP.drawL2 (by kernel_rfl) (by decide +kernel) rfl (fun K' hK => ?_) | (refine AQ.nil (hK _ ?_); clear hK K') | refine AQ.nil ?_ | refine AQ.q rfl rfl (fun hg => by first | exact std0 | exact PRun.callW (hh) rfl rfl nd rfl nds | exact PRun.callW (hf) rfl rfl nd rfl nds | exact PRun.callW (hf2) rfl rfl nd rfl nds | exact PRun.callW (c1) rfl rfl nd rfl nds | exact PRun.callW (c2) rfl rfl nd rfl nds | exact PRun.callW (c3) rfl rfl nd rfl nds | exact PRun.callW (c4) rfl rfl nd rfl nds | exact PRun.callW (c5) rfl rfl nd rfl nds | exact PRun.callW (c6) rfl rfl nd rfl nds | exact PRun.callW (c7) rfl rfl nd rfl nds | exact PRun.callW (c8) rfl rfl nd rfl nds | exact PRun.callW (c9) rfl rfl nd rfl nds | exact PRun.callW (d1) rfl rfl nd rfl nds | exact PRun.eqS fl39 rfl rfl nd rfl nd rfl | exact std1) (by exact rfl) ?_)
    · exfalso; rw [hfew2] at hc; cases hc
    exact ⟨.inr rfl, Ent.b (by simp)⟩
end Go.Proofs.YtnmdmmfdnnmdfaaGreatDoor.Ed
