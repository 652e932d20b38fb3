/- The law PlaceMatchesReference by content. No statement is proved here. -/
import Derived.Test.YtdglbdfdkabjfaaGreatDoorP32
set_option linter.unusedVariables false
set_option linter.unusedSimpArgs false
namespace Go.Proofs.YtdglbdfdkabjfaaGreatDoor.Pl
open Go.Ab Go.Pl
attribute [local irreducible] AWP AOps EStep AQ PStep PRun PCall TCall VCall
theorem ba_self (b : ByteArray) : (b == b) = true := by
 show (b.data == b.data) = true
 exact beq_self_eq_true _
set_option maxHeartbeats 8000000 in
set_option maxRecDepth 20000 in
theorem matches_law (s : Score) (hs : s.Sized) (e : Ed.Edition) (hw : Ed.Wf e) (r : Room) (hz : FSized r.form) (c : Call) (hcl : c.letter.size ≤ 9223372036854775807) (m : Mom) :
 PCall Tryz.prog 3 [.agg (encS s), .agg (Ed.encE e), .agg (encRm r), .agg (encCl c), .agg (encMo m)] (.b true) := by
 have hh := head_spec
 have hu := few31_spec s hs e r hz
 by_cases hfew : fewB s e r = true
 · rw [hfew] at hu
   obtain ⟨hsm, hf⟩ := fewB_in hfew
   have h1 := resolve_spec s hsm e hw r hf c hcl
   have h2 := resolve31_spec s hsm e hw r hf c
   have h3 := locate_spec s hsm e hw r hf m
   have h4 := locate31_spec s hsm e hw r hf m
   generalize resolve s e r c = X at *
   generalize locate s e r m = Y at *
   refine PCall.body Tryz.func3 rfl rfl Tryz.ntmps3 rfl rfl ?_
   repeat' (first | refine aoQ rfl rfl rfl (fun hg => by first | exact std0 | exact pcW (hh) rfl rfl nd rfl nds | exact pcW (hu) rfl rfl nd rfl nds | fail) (by exact rfl) ?_ | refine sqW ?_ | refine rgK (fun K' hK => ?_) | (refine aoN (hK _ _ ?_); clear hK K') | refine aoE (bxW rfl rfl rfl rfl rfl tI rfl rfl ?_))
   refine cdW rfl tI (fun hc => absurd hc (by decide)) (fun hc => ?_)
   repeat' (first | refine aoQ rfl rfl rfl (fun hg => by first | exact std0 | exact pcW (h1) rfl rfl nd rfl nds | exact pcW (h2) rfl rfl nd rfl nds | exact pcW (h3) rfl rfl nd rfl nds | exact pcW (h4) rfl rfl nd rfl nds | exact PRun.eqN flMo rfl rfl nd rfl nd rfl | exact PRun.eqN flCl rfl rfl nd rfl nd rfl | fail) (by exact rfl) ?_ | refine sqW ?_ | refine rgK (fun K' hK => ?_) | (refine aoN (hK _ _ ?_); clear hK K') | refine aoE (stW tabOk rfl rfl rfl tI rfl rfl tI rfl rfl rfl rfl rfl rfl rfl ?_) | refine aoE (alW tabOk rfl rfl rfl rfl rfl rfl ?_) | refine skW ?_ | refine rtW ?_)
   refine ⟨.inr rfl, Ent.b ?_⟩
   simp only [ba_self, beq_self_eq_true, zC9, zBd, Bool.and_self]
   try exact ba_self _
 · have hfew : fewB s e r = false := by simpa using hfew
   rw [hfew] at hu
   refine PCall.body Tryz.func3 rfl rfl Tryz.ntmps3 rfl rfl ?_
   repeat' (first | refine aoQ rfl rfl rfl (fun hg => by first | exact std0 | exact pcW (hh) rfl rfl nd rfl nds | exact pcW (hu) rfl rfl nd rfl nds | fail) (by exact rfl) ?_ | refine sqW ?_ | refine rgK (fun K' hK => ?_) | (refine aoN (hK _ _ ?_); clear hK K') | refine aoE (bxW rfl rfl rfl rfl rfl tI rfl rfl ?_))
   refine cdW rfl tI (fun hc => ?_) (fun hc => absurd hc (by decide))
   repeat' (first | refine aoQ rfl rfl rfl (fun hg => by exact std0) (by exact rfl) ?_ | refine sqW ?_ | refine rgK (fun K' hK => ?_) | (refine aoN (hK _ _ ?_); clear hK K') | refine rtW ?_)
   exact ⟨.inr rfl, Ent.b rfl⟩
end Go.Proofs.YtdglbdfdkabjfaaGreatDoor.Pl
