/- Contracts by content: score: within, isID, IDs, shifts, height, isPart. No statement is proved here. -/
import Derived.Test.YtnmdmmfdnnmdfaaDoorCJ
set_option linter.unusedVariables false
set_option linter.unusedSimpArgs false
namespace Go.Proofs.YtnmdmmfdnnmdfaaDoor
open Go.Ab
attribute [local irreducible] AWP AOps EStep AQ PStep PRun PCall TCall VCall

structure Part where
  id : Int
  section_ : Int
  of_ : Int
  octave : Int
  desks : Int
  shift : Interval
  low : Pitch
  high : Pitch
  deriving DecidableEq, Inhabited
def encP (p : Part) : List AV := [.int p.id, .int p.section_, .int p.of_, .int p.octave, .int p.desks, .int p.shift.steps, .int p.shift.semi, .int p.low.step, .int p.low.alter, .int p.low.oct, .int p.high.step, .int p.high.alter, .int p.high.oct]
theorem swithin_spec (a b c : Int) : PCall Tryd.prog 84 [.int a, .int b, .int c] (.b (inB a b c)) := by
  refine PCall.body Tryd.func84 rfl rfl Tryd.ntmps84 rfl rfl ?_
  repeat' (first | refine AOps.q rfl rfl rfl (fun hg => by first | exact std0 | exact std1) (by exact rfl) ?_ | refine AWP.seq ?_ | refine AWP.regionK (fun K' hK => ?_) | (refine AOps.nil (hK _ _ ?_); clear hK K') | refine AOps.e (EStep.boxW rfl rfl rfl rfl rfl True.intro rfl rfl ?_) | refine AOps.e (EStep.storeW tabOk rfl rfl rfl True.intro rfl rfl True.intro rfl rfl rfl rfl rfl rfl rfl ?_) | refine AOps.e (EStep.allocW tabOk rfl rfl rfl rfl rfl rfl ?_) | (refine AWP.condW rfl True.intro (fun hc => ?_) (fun hc => ?_) <;> (first | (simp only [decide_eq_true_eq] at hc) | (simp only [decide_eq_false_iff_not, Int.not_lt, Int.not_le] at hc) | skip)) | refine AWP.block ?_ | refine AWP.exit ?_ | refine AWP.skip ?_ | refine AWP.ret ?_ | refine AWP.drawK2 (by decide +kernel) (by kernel_rfl) (by decide +kernel) rfl (fun K' hK => ?_) | refine AWP.drawL2 (by kernel_rfl) (by decide +kernel) rfl (fun K' hK => ?_) | (refine AQ.nil (hK _ ?_); clear hK K') | refine AQ.nil ?_ | refine AQ.q rfl rfl (fun hg => by first | exact std0 | exact std1) (by exact rfl) ?_)
  exact ⟨.inr rfl, Ent.b rfl⟩
theorem sisID_spec (a : Int) : PCall Tryd.prog 43 [.int a] (.b (inB a 1 1000000)) := by
  refine PCall.body Tryd.func43 rfl rfl Tryd.ntmps43 rfl rfl ?_
  repeat' (first | refine AOps.q rfl rfl rfl (fun hg => by first | exact std0 | exact PRun.callW (swithin_spec _ _ _) rfl rfl nd rfl nds | exact std1) (by exact rfl) ?_ | refine AWP.seq ?_ | refine AWP.regionK (fun K' hK => ?_) | (refine AOps.nil (hK _ _ ?_); clear hK K') | refine AOps.e (EStep.boxW rfl rfl rfl rfl rfl True.intro rfl rfl ?_) | refine AOps.e (EStep.storeW tabOk rfl rfl rfl True.intro rfl rfl True.intro rfl rfl rfl rfl rfl rfl rfl ?_) | refine AOps.e (EStep.allocW tabOk rfl rfl rfl rfl rfl rfl ?_) | (refine AWP.condW rfl True.intro (fun hc => ?_) (fun hc => ?_) <;> (first | (simp only [decide_eq_true_eq] at hc) | (simp only [decide_eq_false_iff_not, Int.not_lt, Int.not_le] at hc) | skip)) | refine AWP.block ?_ | refine AWP.exit ?_ | refine AWP.skip ?_ | refine AWP.ret ?_ | refine AWP.drawK2 (by decide +kernel) (by kernel_rfl) (by decide +kernel) rfl (fun K' hK => ?_) | refine AWP.drawL2 (by kernel_rfl) (by decide +kernel) rfl (fun K' hK => ?_) | (refine AQ.nil (hK _ ?_); clear hK K') | refine AQ.nil ?_ | refine AQ.q rfl rfl (fun hg => by first | exact std0 | exact PRun.callW (swithin_spec _ _ _) rfl rfl nd rfl nds | exact std1) (by exact rfl) ?_)
  exact ⟨.inr rfl, Ent.b rfl⟩
def shiftOk (i : Interval) : Bool := (fifthsR i).2 == 0 && inB i.steps (-21) 21 && inB i.semi (-36) 36 && inB (fifthsR i).1 (-12) 12
theorem shifts_spec (i : Interval) : PCall Tryd.prog 126 [.agg (encI i)] (.b (shiftOk i)) := by
  refine PCall.body Tryd.func126 rfl rfl Tryd.ntmps126 rfl rfl ?_
  repeat' (first | refine AOps.q rfl rfl rfl (fun hg => by first | exact std0 | exact PRun.callW (fifths_spec i) rfl rfl nd rfl nds | exact PRun.callW (swithin_spec _ _ _) rfl rfl nd rfl nds | exact std1) (by exact rfl) ?_ | refine AWP.seq ?_ | refine AWP.regionK (fun K' hK => ?_) | (refine AOps.nil (hK _ _ ?_); clear hK K') | refine AOps.e (EStep.boxW rfl rfl rfl rfl rfl True.intro rfl rfl ?_) | refine AOps.e (EStep.storeW tabOk rfl rfl rfl True.intro rfl rfl True.intro rfl rfl rfl rfl rfl rfl rfl ?_) | refine AOps.e (EStep.allocW tabOk rfl rfl rfl rfl rfl rfl ?_) | (refine AWP.condW rfl True.intro (fun hc => ?_) (fun hc => ?_) <;> (first | (simp only [decide_eq_true_eq] at hc) | (simp only [decide_eq_false_iff_not, Int.not_lt, Int.not_le] at hc) | skip)) | refine AWP.block ?_ | refine AWP.exit ?_ | refine AWP.skip ?_ | refine AWP.ret ?_ | refine AWP.drawK2 (by decide +kernel) (by kernel_rfl) (by decide +kernel) rfl (fun K' hK => ?_) | refine AWP.drawL2 (by kernel_rfl) (by decide +kernel) rfl (fun K' hK => ?_) | (refine AQ.nil (hK _ ?_); clear hK K') | refine AQ.nil ?_ | refine AQ.q rfl rfl (fun hg => by first | exact std0 | exact PRun.callW (fifths_spec i) rfl rfl nd rfl nds | exact PRun.callW (swithin_spec _ _ _) rfl rfl nd rfl nds | exact std1) (by exact rfl) ?_)
  exact ⟨.inr rfl, Ent.b rfl⟩
theorem height_spec (p : Pitch) : PCall Tryd.prog 87 [.agg (encPi p)] (.int (numR2 p).1) := by
  refine PCall.body Tryd.func87 rfl rfl Tryd.ntmps87 rfl rfl ?_
  repeat' (first | refine AOps.q rfl rfl rfl (fun hg => by first | exact std0 | exact PRun.callW (pNumber_spec p) rfl rfl nd rfl nds | exact std1) (by exact rfl) ?_ | refine AWP.seq ?_ | refine AWP.regionK (fun K' hK => ?_) | (refine AOps.nil (hK _ _ ?_); clear hK K') | refine AOps.e (EStep.boxW rfl rfl rfl rfl rfl True.intro rfl rfl ?_) | refine AOps.e (EStep.storeW tabOk rfl rfl rfl True.intro rfl rfl True.intro rfl rfl rfl rfl rfl rfl rfl ?_) | refine AOps.e (EStep.allocW tabOk rfl rfl rfl rfl rfl rfl ?_) | (refine AWP.condW rfl True.intro (fun hc => ?_) (fun hc => ?_) <;> (first | (simp only [decide_eq_true_eq] at hc) | (simp only [decide_eq_false_iff_not, Int.not_lt, Int.not_le] at hc) | skip)) | refine AWP.block ?_ | refine AWP.exit ?_ | refine AWP.skip ?_ | refine AWP.ret ?_ | refine AWP.drawK2 (by decide +kernel) (by kernel_rfl) (by decide +kernel) rfl (fun K' hK => ?_) | refine AWP.drawL2 (by kernel_rfl) (by decide +kernel) rfl (fun K' hK => ?_) | (refine AQ.nil (hK _ ?_); clear hK K') | refine AQ.nil ?_ | refine AQ.q rfl rfl (fun hg => by first | exact std0 | exact PRun.callW (pNumber_spec p) rfl rfl nd rfl nds | exact std1) (by exact rfl) ?_)
  exact ⟨.inr rfl, Ent.int rfl⟩
def partNums (p : Part) : Bool := inB p.id 1 1000000 && inB p.section_ 0 99 && inB p.of_ 0 1000000 && inB p.octave (-2) 2 && inB p.desks 1 40
def partBad (p : Part) : Bool := !partNums p || p.of_ == p.id || (p.of_ == 0 && p.octave != 0) || !shiftOk p.shift
def partOk (p : Part) : Bool := !partBad p && (pitchOk p.low && pitchOk p.high && decide ((numR2 p.low).1 ≤ (numR2 p.high).1))
theorem isPart_spec (p : Part) : PCall Tryd.prog 110 [.agg (encP p)] (.b (partOk p)) := by
  refine PCall.body Tryd.func110 rfl rfl Tryd.ntmps110 rfl rfl ?_
  repeat' (first | refine AOps.q rfl rfl rfl (fun hg => by first | exact std0 | exact PRun.callW (sisID_spec _) rfl rfl nd rfl nds | exact PRun.callW (swithin_spec _ _ _) rfl rfl nd rfl nds | exact PRun.callW (shifts_spec p.shift) rfl rfl nd rfl nds | exact PRun.callW (pvalid_spec p.low) rfl rfl nd rfl nds | exact PRun.callW (pvalid_spec p.high) rfl rfl nd rfl nds | exact PRun.callW (height_spec p.low) rfl rfl nd rfl nds | exact PRun.callW (height_spec p.high) rfl rfl nd rfl nds | exact std1) (by exact rfl) ?_ | refine AWP.seq ?_ | refine AWP.regionK (fun K' hK => ?_) | (refine AOps.nil (hK _ _ ?_); clear hK K') | refine AOps.e (EStep.boxW rfl rfl rfl rfl rfl True.intro rfl rfl ?_) | refine AOps.e (EStep.storeW tabOk rfl rfl rfl True.intro rfl rfl True.intro rfl rfl rfl rfl rfl rfl rfl ?_) | refine AOps.e (EStep.allocW tabOk rfl rfl rfl rfl rfl rfl ?_) | (refine AWP.condW rfl True.intro (fun hc => ?_) (fun hc => ?_) <;> (first | (simp only [decide_eq_true_eq] at hc) | (simp only [decide_eq_false_iff_not, Int.not_lt, Int.not_le] at hc) | skip)) | refine AWP.block ?_ | refine AWP.exit ?_ | refine AWP.skip ?_ | refine AWP.ret ?_ | refine AWP.drawK2 (by decide +kernel) (by kernel_rfl) (by decide +kernel) rfl (fun K' hK => ?_) | refine AWP.drawL2 (by kernel_rfl) (by decide +kernel) rfl (fun K' hK => ?_) | (refine AQ.nil (hK _ ?_); clear hK K') | refine AQ.nil ?_ | refine AQ.q rfl rfl (fun hg => by first | exact std0 | exact PRun.callW (sisID_spec _) rfl rfl nd rfl nds | exact PRun.callW (swithin_spec _ _ _) rfl rfl nd rfl nds | exact PRun.callW (shifts_spec p.shift) rfl rfl nd rfl nds | exact PRun.callW (pvalid_spec p.low) rfl rfl nd rfl nds | exact PRun.callW (pvalid_spec p.high) rfl rfl nd rfl nds | exact PRun.callW (height_spec p.low) rfl rfl nd rfl nds | exact PRun.callW (height_spec p.high) rfl rfl nd rfl nds | exact std1) (by exact rfl) ?_)
  · refine ⟨.inr rfl, Ent.b (Eq.symm ?_)⟩
    unfold partOk
    rw [show partBad p = true from hc]; rfl
  · refine ⟨.inr rfl, Ent.b (Eq.symm ?_)⟩
    unfold partOk
    rw [show partBad p = false from hc]; rfl
end Go.Proofs.YtnmdmmfdnnmdfaaDoor
