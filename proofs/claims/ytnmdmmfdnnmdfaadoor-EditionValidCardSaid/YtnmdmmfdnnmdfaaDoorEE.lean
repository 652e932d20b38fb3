/- Contracts by content: the example and the head of the laws: the head is true. No statement is proved here. -/
import Derived.Test.YtnmdmmfdnnmdfaaDoorED
set_option linter.unusedVariables false
set_option linter.unusedSimpArgs false
/- The example of the chapter. -/
namespace Go.Proofs.YtnmdmmfdnnmdfaaDoor.Ed
open Go.Ab
attribute [local irreducible] AWP AOps EStep AQ PStep PRun PCall TCall VCall

def exE : Edition := ⟨1, 1, [⟨1, 11, 0⟩, ⟨2, 12, 1⟩, ⟨2, 12, 2⟩, ⟨3, 13, 0⟩], [⟨⟨#[65]⟩, 3⟩]⟩
theorem exWf : Wf exE := ⟨by decide, by decide, by decide⟩
theorem ex_spec : PCall Tryd.prog 34 [] (.agg (encE exE)) := by
  refine PCall.bodyS tabOk Tryd.func34 rfl rfl Tryd.ntmps34 rfl ?_
  repeat' (first | refine AOps.q rfl rfl rfl (fun hg => by first | exact std0 | exact PRun.buildW tabOk rfl rfl nds | exact PRun.buildSlW tabOk rfl rfl nds | exact std1) (by exact rfl) ?_ | refine AWP.seq ?_ | refine AWP.regionK (fun K' hK => ?_) | (refine AOps.nil (hK _ _ ?_); clear hK K') | refine AOps.e (EStep.boxW rfl rfl rfl rfl rfl True.intro rfl rfl ?_) | refine AOps.e (EStep.storeW tabOk rfl rfl rfl True.intro rfl rfl True.intro rfl rfl rfl rfl rfl rfl rfl ?_) | refine AOps.e (EStep.allocW tabOk rfl rfl rfl rfl rfl rfl ?_) | (refine AWP.condW rfl True.intro (fun hc => ?_) (fun hc => ?_) <;> (first | (simp only [decide_eq_true_eq] at hc) | (simp only [decide_eq_false_iff_not, Int.not_lt, Int.not_le] at hc) | skip)) | refine AWP.block ?_ | refine AWP.exit ?_ | refine AWP.skip ?_ | refine AWP.ret ?_ | refine AWP.drawK2 (by decide +kernel) (by kernel_rfl) (by decide +kernel) rfl (fun K' hK => ?_) | refine AWP.drawL2 (by kernel_rfl) (by decide +kernel) rfl (fun K' hK => ?_) | (refine AQ.nil (hK _ ?_); clear hK K') | refine AQ.nil ?_ | refine AQ.q rfl rfl (fun hg => by first | exact std0 | exact PRun.buildW tabOk rfl rfl nds | exact PRun.buildSlW tabOk rfl rfl nds | exact std1) (by exact rfl) ?_)
  exact ⟨.inr rfl, _, rfl, fun _ _ h => h⟩
def eE : Edition := ⟨0, 0, [], []⟩
theorem eWf : Wf eE := ⟨by decide, by decide, by simp [eE]⟩
theorem PCall.args {P : Program} {f : FuncId} {avs avs' : List AV} {r : AV} (h : PCall P f avs r) (ha : ∀ M vs, ArgsRel M avs' vs → ArgsRel M avs vs) : PCall P f avs' r := by
  unfold PCall at h ⊢
  exact ⟨h.1, fun M w vs hm h2 => h.2 M w vs hm (ha M vs h2)⟩
theorem nil_rel {M : Mem} {B : List GB} (sz : Nat) {x : Value} (h : VRel M B .nils x) : VRel M B (.sl sz [] .no) x := by
  cases h; exact .slz sz .no trivial
theorem emp_rel {M : Mem} {B : List GB} {x : Value} (h : VRel M B (.agg [.int 0, .int 0, .nils, .nils]) x) : VRel M B (.agg (encE eE)) x := by
  cases h with
  | agg _ vs hl h =>
    refine .agg _ _ hl fun i c hi => ?_
    match i, hi with
    | 0, hi => exact (by simpa [encE, eE] using hi : AV.int 0 = c) ▸ h 0 _ rfl
    | 1, hi => exact (by simpa [encE, eE] using hi : AV.int 0 = c) ▸ h 1 _ rfl
    | 2, hi => exact (by simpa [encE, eE] using hi : AV.sl 3 [] .no = c) ▸ nil_rel 3 (h 2 _ rfl)
    | 3, hi => exact (by simpa [encE, eE] using hi : AV.sl 2 [] .no = c) ▸ nil_rel 2 (h 3 _ rfl)
    | i + 4, hi => simp [encE] at hi
theorem fl39 : flatOf Tryd.prog 76 = some [.int .i64, .int .i64] := by kernel_rfl
theorem head_spec : PCall Tryd.prog 10 [] (.b true) := by
  refine PCall.body Tryd.func10 rfl rfl Tryd.ntmps10 rfl rfl ?_
  have l1 : PCall Tryd.prog 35 [.agg (encE exE), .str ⟨#[65]⟩] (.tup [.int 3, .int 0]) := by
    have := let_spec exE exWf ⟨#[65]⟩ (by decide)
    rwa [show letR exE ⟨#[65]⟩ = (3, 0) from by decide +kernel] at this
  have l2 : PCall Tryd.prog 35 [.agg (encE exE), .str ⟨#[66]⟩] (.tup [.int 0, .int 4]) := by
    have := let_spec exE exWf ⟨#[66]⟩ (by decide)
    rwa [show letR exE ⟨#[66]⟩ = (0, 4) from by decide +kernel] at this
  have l3 : PCall Tryd.prog 35 [.agg [.int 0, .int 0, .nils, .nils], .str ⟨#[66]⟩] (.tup [.int 0, .int 1]) := by
    have := let_spec eE eWf ⟨#[66]⟩ (by decide)
    rw [show letR eE ⟨#[66]⟩ = (0, 1) from by decide +kernel] at this
    refine PCall.args this fun M vs h => ⟨h.1, fun i c hi => ?_⟩
    match i, hi with
    | 0, hi => exact (by simpa using hi : AV.agg (encE eE) = c) ▸ emp_rel (h.2 0 _ rfl)
    | 1, hi => exact (by simpa using hi : AV.str ⟨#[66]⟩ = c) ▸ h.2 1 _ rfl
    | i + 2, hi => simp at hi
  have n2 : PCall Tryd.prog 36 [.agg (encE exE), .int 2] (.tup [.int 0, .int 5]) := by
    have := number_spec exE exWf 2
    rwa [show numR exE 2 = (0, 5) from by decide +kernel] at this
  have n3 : PCall Tryd.prog 36 [.agg (encE exE), .int 3] (.tup [.int 3, .int 0]) := by
    have := number_spec exE exWf 3
    rwa [show numR exE 3 = (3, 0) from by decide +kernel] at this
  have v1 : PCall Tryd.prog 37 [.agg (encE exE), .int 2, .int 0] (.tup [.agg [.int 12, .int 2], .int 0]) := by
    have := visit_spec exE exWf 2 0
    rwa [show viR exE 2 0 = ⟨12, 2, 0⟩ from by decide +kernel] at this
  have v2 : PCall Tryd.prog 37 [.agg (encE exE), .int 3, .int 2] (.tup [.agg [.int 13, .int 2], .int 0]) := by
    have := visit_spec exE exWf 3 2
    rwa [show viR exE 3 2 = ⟨13, 2, 0⟩ from by decide +kernel] at this
  have v3 : PCall Tryd.prog 37 [.agg (encE exE), .int 2, .int 2] (.tup [.agg [.int 0, .int 0], .int 30]) := by
    have := visit_spec exE exWf 2 2
    rwa [show viR exE 2 2 = ⟨0, 0, 30⟩ from by decide +kernel] at this
  have p1 : PCall Tryd.prog 38 [.agg (encE exE), .agg [.int 12, .int 2]] (.tup [.int 2, .int 0, .b true, .int 0]) := by
    have := place_spec exE exWf 12 2
    rwa [show plR exE 12 2 = ⟨2, 0, true, 0⟩ from by decide +kernel] at this
  have p2 : PCall Tryd.prog 38 [.agg (encE exE), .agg [.int 13, .int 2]] (.tup [.int 3, .int 2, .b true, .int 0]) := by
    have := place_spec exE exWf 13 2
    rwa [show plR exE 13 2 = ⟨3, 2, true, 0⟩ from by decide +kernel] at this
  have p3 : PCall Tryd.prog 38 [.agg (encE exE), .agg [.int 12, .int 3]] (.tup [.int 0, .int 0, .b false, .int 0]) := by
    have := place_spec exE exWf 12 3
    rwa [show plR exE 12 3 = ⟨0, 0, false, 0⟩ from by decide +kernel] at this
  repeat' (first | refine AOps.q rfl rfl rfl (fun hg => by first | exact std0 | exact PRun.callW (ex_spec) rfl rfl nd rfl nds | exact PRun.callW (l1) rfl rfl nd rfl nds | exact PRun.callW (l2) rfl rfl nd rfl nds | exact PRun.callW (l3) rfl rfl nd rfl nds | exact PRun.callW (n2) rfl rfl nd rfl nds | exact PRun.callW (n3) rfl rfl nd rfl nds | exact PRun.callW (v1) rfl rfl nd rfl nds | exact PRun.callW (v2) rfl rfl nd rfl nds | exact PRun.callW (v3) rfl rfl nd rfl nds | exact PRun.callW (p1) rfl rfl nd rfl nds | exact PRun.callW (p2) rfl rfl nd rfl nds | exact PRun.callW (p3) rfl rfl nd rfl nds | exact PRun.buildW tabOk rfl rfl nds | exact PRun.eqS fl39 rfl rfl nd rfl nd rfl | exact std1) (by exact rfl) ?_ | refine AWP.seq ?_ | refine AWP.regionK (fun K' hK => ?_) | (refine AOps.nil (hK _ _ ?_); clear hK K') | refine AOps.e (EStep.boxW rfl rfl rfl rfl rfl True.intro rfl rfl ?_) | refine AOps.e (EStep.storeW tabOk rfl rfl rfl True.intro rfl rfl True.intro rfl rfl rfl rfl rfl rfl rfl ?_) | refine AOps.e (EStep.allocW tabOk rfl rfl rfl rfl rfl rfl ?_) | (refine AWP.condW rfl True.intro (fun hc => ?_) (fun hc => ?_) <;> (first | (simp only [decide_eq_true_eq] at hc) | (simp only [decide_eq_false_iff_not, Int.not_lt, Int.not_le] at hc) | skip)) | refine AWP.block ?_ | refine AWP.exit ?_ | refine AWP.skip ?_ | refine AWP.ret ?_ | refine AWP.drawK2 (by decide +kernel) (by kernel_rfl) (by decide +kernel) rfl (fun K' hK => ?_) | refine AWP.drawL2 (by kernel_rfl) (by decide +kernel) rfl (fun K' hK => ?_) | (refine AQ.nil (hK _ ?_); clear hK K') | refine AQ.nil ?_ | refine AQ.q rfl rfl (fun hg => by first | exact std0 | exact PRun.callW (ex_spec) rfl rfl nd rfl nds | exact PRun.callW (l1) rfl rfl nd rfl nds | exact PRun.callW (l2) rfl rfl nd rfl nds | exact PRun.callW (l3) rfl rfl nd rfl nds | exact PRun.callW (n2) rfl rfl nd rfl nds | exact PRun.callW (n3) rfl rfl nd rfl nds | exact PRun.callW (v1) rfl rfl nd rfl nds | exact PRun.callW (v2) rfl rfl nd rfl nds | exact PRun.callW (v3) rfl rfl nd rfl nds | exact PRun.callW (p1) rfl rfl nd rfl nds | exact PRun.callW (p2) rfl rfl nd rfl nds | exact PRun.callW (p3) rfl rfl nd rfl nds | exact PRun.buildW tabOk rfl rfl nds | exact PRun.eqS fl39 rfl rfl nd rfl nd rfl | exact std1) (by exact rfl) ?_)
  exact ⟨.inr rfl, fun _ _ h => h⟩
end Go.Proofs.YtnmdmmfdnnmdfaaDoor.Ed
