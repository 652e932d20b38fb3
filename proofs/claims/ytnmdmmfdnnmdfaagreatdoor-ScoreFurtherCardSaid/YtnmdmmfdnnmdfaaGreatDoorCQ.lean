/- Contracts by content: score.asked, Bar, Part, Note. No statement is proved here. -/
import Derived.Test.YtnmdmmfdnnmdfaaGreatDoorCP
set_option linter.unusedVariables false
set_option linter.unusedSimpArgs false
namespace Go.Proofs.YtnmdmmfdnnmdfaaGreatDoor
open Go.Ab
attribute [local irreducible] AWP AOps EStep AQ PStep PRun PCall TCall VCall

def askedB (s : Score) (id : Int) : Bool := scoreOk s && inB id 1 1000000
theorem asked_spec (s : Score) (hs : s.Small) (id : Int) : PCall Tryz.prog 62 [.agg (encS s), .int id] (.b (askedB s id)) := by
  refine PCall.body Tryz.func62 rfl rfl Tryz.ntmps62 rfl rfl ?_
  repeat' (first | refine AOps.q rfl rfl rfl (fun hg => by first | exact std0 | exact PRun.callW (svalid_spec s hs) rfl rfl nd rfl nds | exact PRun.callW (sisID_spec _) rfl rfl nd rfl nds | exact std1) (by exact rfl) ?_ | refine AWP.seq ?_ | refine AWP.regionK (fun K' hK => ?_) | (refine AOps.nil (hK _ _ ?_); clear hK K') | refine AOps.e (EStep.boxW rfl rfl rfl rfl rfl True.intro rfl rfl ?_) | refine AOps.e (EStep.storeW tabOk rfl rfl rfl True.intro rfl rfl True.intro rfl rfl rfl rfl rfl rfl rfl ?_) | refine AOps.e (EStep.allocW tabOk rfl rfl rfl rfl rfl rfl ?_) | (refine AWP.condW rfl True.intro (fun hc => ?_) (fun hc => ?_) <;> (first | (simp only [decide_eq_true_eq] at hc) | (simp only [decide_eq_false_iff_not, Int.not_lt, Int.not_le] at hc) | skip)) | refine AWP.block ?_ | refine AWP.exit ?_ | refine AWP.skip ?_ | refine AWP.ret ?_ | refine AWP.drawK2 (by decide +kernel) (by kernel_rfl) (by decide +kernel) rfl (fun K' hK => ?_) | refine AWP.drawL2 (by kernel_rfl) (by decide +kernel) rfl (fun K' hK => ?_) | (refine AQ.nil (hK _ ?_); clear hK K') | refine AQ.nil ?_ | refine AQ.q rfl rfl (fun hg => by first | exact std0 | exact PRun.callW (svalid_spec s hs) rfl rfl nd rfl nds | exact PRun.callW (sisID_spec _) rfl rfl nd rfl nds | exact std1) (by exact rfl) ?_)
  exact ⟨.inr rfl, Ent.b rfl⟩
/-- An index, whether it is one, and the error. -/
def idR (ok : Bool) (i : Int) : Int × Bool × Int := if ok then ((idxR i).1, (idxR i).2, 0) else (0, false, 1)
def at3 (r : Int × Bool × Int) : AV := .tup [.int r.1, .b r.2.1, .int r.2.2]
def barR (s : Score) (id : Int) : Int × Bool × Int := idR (askedB s id) (findI (fun x : Bar => x.id == id) s.bars)
def partR (s : Score) (id : Int) : Int × Bool × Int := idR (askedB s id) (findI (fun x : Part => x.id == id) s.parts)
def noteR (s : Score) (id : Int) : Int × Bool × Int := idR (askedB s id) (findI (fun x : Note => x.id == id) s.notes)
theorem sPart_spec (s : Score) (hs : s.Small) (id : Int) : PCall Tryz.prog 28 [.agg (encS s), .int id] (at3 (partR s id)) := by
  have ha := asked_spec s hs id
  obtain ⟨h1, h2, h3⟩ := hs
  refine PCall.body Tryz.func28 rfl rfl Tryz.ntmps28 rfl rfl ?_
  repeat' (first | refine AOps.q rfl rfl rfl (fun hg => by first | exact std0 | exact PRun.callW (ha) rfl rfl nd rfl nds | exact PRun.callW (indexPart_spec s.parts id (by omega)) rfl rfl nd rfl nds | exact std1) (by exact rfl) ?_ | refine AWP.seq ?_ | refine AWP.regionK (fun K' hK => ?_) | (refine AOps.nil (hK _ _ ?_); clear hK K') | refine AOps.e (EStep.boxW rfl rfl rfl rfl rfl True.intro rfl rfl ?_) | refine AOps.e (EStep.storeW tabOk rfl rfl rfl True.intro rfl rfl True.intro rfl rfl rfl rfl rfl rfl rfl ?_) | refine AOps.e (EStep.allocW tabOk rfl rfl rfl rfl rfl rfl ?_) | (refine AWP.condW rfl True.intro (fun hc => ?_) (fun hc => ?_) <;> (first | (simp only [decide_eq_true_eq] at hc) | (simp only [decide_eq_false_iff_not, Int.not_lt, Int.not_le] at hc) | skip)) | refine AWP.block ?_ | refine AWP.exit ?_ | refine AWP.skip ?_ | refine AWP.ret ?_ | refine AWP.drawK2 (by decide +kernel) (by kernel_rfl) (by decide +kernel) rfl (fun K' hK => ?_) | refine AWP.drawL2 (by kernel_rfl) (by decide +kernel) rfl (fun K' hK => ?_) | (refine AQ.nil (hK _ ?_); clear hK K') | refine AQ.nil ?_ | refine AQ.q rfl rfl (fun hg => by first | exact std0 | exact PRun.callW (ha) rfl rfl nd rfl nds | exact PRun.callW (indexPart_spec s.parts id (by omega)) rfl rfl nd rfl nds | exact std1) (by exact rfl) ?_)
  · refine ⟨.inr rfl, Ent.of ?_⟩
    rw [show partR s id = (0, false, 1) from by unfold partR idR; rw [if_neg (by simpa using hc)]]; rfl
  · refine ⟨.inr rfl, Ent.of ?_⟩
    unfold partR idR; rw [if_pos (by simpa using hc)]; rfl
theorem sNote_spec (s : Score) (hs : s.Small) (id : Int) : PCall Tryz.prog 27 [.agg (encS s), .int id] (at3 (noteR s id)) := by
  have ha := asked_spec s hs id
  obtain ⟨h1, h2, h3⟩ := hs
  refine PCall.body Tryz.func27 rfl rfl Tryz.ntmps27 rfl rfl ?_
  repeat' (first | refine AOps.q rfl rfl rfl (fun hg => by first | exact std0 | exact PRun.callW (ha) rfl rfl nd rfl nds | exact PRun.callW (indexNote_spec s.notes id (by omega)) rfl rfl nd rfl nds | exact std1) (by exact rfl) ?_ | refine AWP.seq ?_ | refine AWP.regionK (fun K' hK => ?_) | (refine AOps.nil (hK _ _ ?_); clear hK K') | refine AOps.e (EStep.boxW rfl rfl rfl rfl rfl True.intro rfl rfl ?_) | refine AOps.e (EStep.storeW tabOk rfl rfl rfl True.intro rfl rfl True.intro rfl rfl rfl rfl rfl rfl rfl ?_) | refine AOps.e (EStep.allocW tabOk rfl rfl rfl rfl rfl rfl ?_) | (refine AWP.condW rfl True.intro (fun hc => ?_) (fun hc => ?_) <;> (first | (simp only [decide_eq_true_eq] at hc) | (simp only [decide_eq_false_iff_not, Int.not_lt, Int.not_le] at hc) | skip)) | refine AWP.block ?_ | refine AWP.exit ?_ | refine AWP.skip ?_ | refine AWP.ret ?_ | refine AWP.drawK2 (by decide +kernel) (by kernel_rfl) (by decide +kernel) rfl (fun K' hK => ?_) | refine AWP.drawL2 (by kernel_rfl) (by decide +kernel) rfl (fun K' hK => ?_) | (refine AQ.nil (hK _ ?_); clear hK K') | refine AQ.nil ?_ | refine AQ.q rfl rfl (fun hg => by first | exact std0 | exact PRun.callW (ha) rfl rfl nd rfl nds | exact PRun.callW (indexNote_spec s.notes id (by omega)) rfl rfl nd rfl nds | exact std1) (by exact rfl) ?_)
  · refine ⟨.inr rfl, Ent.of ?_⟩
    rw [show noteR s id = (0, false, 1) from by unfold noteR idR; rw [if_neg (by simpa using hc)]]; rfl
  · refine ⟨.inr rfl, Ent.of ?_⟩
    unfold noteR idR; rw [if_pos (by simpa using hc)]; rfl
end Go.Proofs.YtnmdmmfdnnmdfaaGreatDoor
