/- Contracts by content: the deferred call of the program's Event. No statement is proved here. -/
import Derived.Test.YtpkolkfglgalpaaK1
import Derived.Test.YtpkolkfglgalpaaK4
set_option linter.unusedVariables false
set_option linter.unusedSimpArgs false
namespace Go.Proofs.Ytpkolkfglgalpaa
open Go.Ab Go.Jo
attribute [local irreducible] AWP AOps EStep AQ PStep PRun PCall TCall VCall DStep TDies AWD DCall

set_option maxRecDepth 20000 in
theorem ev1_ret (σ : Store) (hok : σ.all (okObj σ.length) = true) : DCall Try.prog 29 [.ptr 0 0, .ptr 1 0] σ .returning (fun u s => u = .returning ∧ s = σ) := by
  refine DCall.body Try.func29 rfl rfl Try.ntmps29 rfl rfl rfl rfl rfl rfl rfl ?_
  repeat' (first
    | refine AOps.q rfl rfl rfl (fun hg => by first | exact PRun.nilIface (ti := 0) (w' := .nilIface) (by exact ⟨_, rfl⟩) rfl rfl nd rfl | exact std0 | exact std1) (by exact rfl) ?_
    | refine AWP.seq ?_
    | refine AWP.regionK (fun K' hK => ?_)
    | (refine AOps.nil (hK _ _ ?_); clear hK K')
    | refine AOps.e (EStep.boxW rfl rfl rfl rfl rfl True.intro rfl rfl ?_)
    | refine AOps.e (EStep.storeW tabOk rfl rfl rfl True.intro rfl rfl True.intro rfl rfl rfl rfl rfl rfl rfl ?_)
    | refine AOps.e (EStep.allocW tabOk rfl rfl rfl rfl rfl rfl ?_)
    | (refine AWP.condW rfl True.intro (fun hc => ?_) (fun hc => ?_) <;> (first | (simp only [decide_eq_true_eq] at hc) | (simp only [decide_eq_false_iff_not, Int.not_lt, Int.not_le] at hc) | skip))
    | refine AWP.block ?_
    | refine AWP.exit ?_
    | refine AWP.skip ?_
    | refine AWP.ret ?_
    | refine AWP.drawK2 (by decide +kernel) (by kernel_rfl) (by decide +kernel) rfl (fun K' hK => ?_)
    | refine AWP.drawL2 (by kernel_rfl) (by decide +kernel) rfl (fun K' hK => ?_)
    | (refine AQ.nil (hK _ ?_); clear hK K')
    | refine AQ.nil ?_
    | refine AQ.q rfl rfl (fun hg => by first | exact PRun.nilIface (ti := 0) (w' := .nilIface) (by exact ⟨_, rfl⟩) rfl rfl nd rfl | exact std0 | exact std1) (by exact rfl) ?_)
  · exact ⟨.inl rfl, _, rfl, List.take_length, Nat.le_refl _, hok⟩
  all_goals (exfalso; cases hc)
abbrev brokeJ : FrameMode := .panicking [{ v := .iface 59 (.agg #[]), recovered := true }]
set_option maxHeartbeats 800000 in
set_option maxRecDepth 20000 in
theorem ev1_pan4 (e : Ev) (x : Int) (r : List AV) (X3 : AObj) (hok : List.all [AObj.var (encE noEv), .var [.int 7], .var r, X3] (okObj 4) = true) : DCall Try.prog 29 [.ptr 0 0, .ptr 1 0] [.var (encE e), .var [.int x], .var r, X3] (.panicking brkJ) (fun u s => u = brokeJ ∧ s = [.var (encE noEv), .var [.int 7], .var r, X3]) := by
  refine DCall.body Try.func29 rfl rfl Try.ntmps29 rfl rfl rfl rfl rfl rfl rfl ?_
  repeat' (first
    | refine AOps.q rfl rfl rfl (fun hg => by first | exact PRun.nilIface (ti := 0) (w' := .nilIface) (by exact ⟨_, rfl⟩) rfl rfl nd rfl | exact std0 | exact std1) (by exact rfl) ?_
    | refine AWP.seq ?_
    | refine AWP.regionK (fun K' hK => ?_)
    | (refine AOps.nil (hK _ _ ?_); clear hK K')
    | refine AOps.e (EStep.boxW rfl rfl rfl rfl rfl True.intro rfl rfl ?_)
    | refine AOps.e (EStep.storeW tabOk rfl rfl rfl True.intro rfl rfl True.intro rfl rfl rfl rfl rfl rfl rfl ?_)
    | refine AOps.e (EStep.allocW tabOk rfl rfl rfl rfl rfl rfl ?_)
    | (refine AWP.condW rfl True.intro (fun hc => ?_) (fun hc => ?_) <;> (first | (simp only [decide_eq_true_eq] at hc) | (simp only [decide_eq_false_iff_not, Int.not_lt, Int.not_le] at hc) | skip))
    | refine AWP.block ?_
    | refine AWP.exit ?_
    | refine AWP.skip ?_
    | refine AWP.ret ?_
    | refine AWP.drawK2 (by decide +kernel) (by kernel_rfl) (by decide +kernel) rfl (fun K' hK => ?_)
    | refine AWP.drawL2 (by kernel_rfl) (by decide +kernel) rfl (fun K' hK => ?_)
    | (refine AQ.nil (hK _ ?_); clear hK K')
    | refine AQ.nil ?_
    | refine AQ.q rfl rfl (fun hg => by first | exact PRun.nilIface (ti := 0) (w' := .nilIface) (by exact ⟨_, rfl⟩) rfl rfl nd rfl | exact std0 | exact std1) (by exact rfl) ?_)
  · exfalso; cases hc
  · have hz : LOk Try.prog 59 ⟨.struct [], 0, 0, []⟩ := LOk.of rfl
    refine AOps.q rfl rfl rfl (fun hg => PRun.assertZ (by exact rfl) rfl rfl True.intro) (by exact rfl) ?_
    repeat' (first
      | refine AOps.q rfl rfl rfl (fun hg => by first | exact std0 | exact PRun.buildW tabOk rfl rfl nds | exact std1) (by exact rfl) ?_
      | refine AWP.seq ?_
      | refine AWP.regionK (fun K' hK => ?_)
      | (refine AOps.nil (hK _ _ ?_); clear hK K')
      | refine AOps.e (EStep.boxW rfl rfl rfl rfl rfl True.intro rfl rfl ?_)
      | refine AOps.e (EStep.storeW tabOk rfl rfl rfl True.intro rfl rfl True.intro rfl rfl rfl rfl rfl rfl rfl ?_)
      | refine AOps.e (EStep.allocW tabOk rfl rfl rfl rfl rfl rfl ?_)
      | refine AOps.e (EStep.alloc rfl rfl rfl (by decide) hz ?_)
      | refine AOps.e (EStep.store rfl rfl (Rd.w rfl True.intro) rfl (Rd.w rfl True.intro) rfl rfl hz rfl (by decide) rfl ?_)
      | (refine AWP.condW rfl True.intro (fun hc => ?_) (fun hc => ?_) <;> (first | (simp only [decide_eq_true_eq] at hc) | (simp only [decide_eq_false_iff_not, Int.not_lt, Int.not_le] at hc) | skip))
      | refine AWP.block ?_
      | refine AWP.exit ?_
      | refine AWP.skip ?_
      | refine AWP.ret ?_
      | refine AWP.drawK2 (by decide +kernel) (by kernel_rfl) (by decide +kernel) rfl (fun K' hK => ?_)
      | refine AWP.drawL2 (by kernel_rfl) (by decide +kernel) rfl (fun K' hK => ?_)
      | (refine AQ.nil (hK _ ?_); clear hK K')
      | refine AQ.nil ?_
      | refine AQ.q rfl rfl (fun hg => by first | exact std0 | exact PRun.buildW tabOk rfl rfl nds | exact std1) (by exact rfl) ?_)
    · exact ⟨.inl rfl, _, rfl, rfl, Nat.le_refl _, hok⟩
    · exfalso; cases hc
set_option maxHeartbeats 800000 in
set_option maxRecDepth 20000 in
theorem ev1_pan5 (e : Ev) (x : Int) (r : List AV) (X3 X4 : AObj) (hok : List.all [AObj.var (encE noEv), .var [.int 7], .var r, X3, X4] (okObj 5) = true) : DCall Try.prog 29 [.ptr 0 0, .ptr 1 0] [.var (encE e), .var [.int x], .var r, X3, X4] (.panicking brkJ) (fun u s => u = brokeJ ∧ s = [.var (encE noEv), .var [.int 7], .var r, X3, X4]) := by
  refine DCall.body Try.func29 rfl rfl Try.ntmps29 rfl rfl rfl rfl rfl rfl rfl ?_
  repeat' (first
    | refine AOps.q rfl rfl rfl (fun hg => by first | exact PRun.nilIface (ti := 0) (w' := .nilIface) (by exact ⟨_, rfl⟩) rfl rfl nd rfl | exact std0 | exact std1) (by exact rfl) ?_
    | refine AWP.seq ?_
    | refine AWP.regionK (fun K' hK => ?_)
    | (refine AOps.nil (hK _ _ ?_); clear hK K')
    | refine AOps.e (EStep.boxW rfl rfl rfl rfl rfl True.intro rfl rfl ?_)
    | refine AOps.e (EStep.storeW tabOk rfl rfl rfl True.intro rfl rfl True.intro rfl rfl rfl rfl rfl rfl rfl ?_)
    | refine AOps.e (EStep.allocW tabOk rfl rfl rfl rfl rfl rfl ?_)
    | (refine AWP.condW rfl True.intro (fun hc => ?_) (fun hc => ?_) <;> (first | (simp only [decide_eq_true_eq] at hc) | (simp only [decide_eq_false_iff_not, Int.not_lt, Int.not_le] at hc) | skip))
    | refine AWP.block ?_
    | refine AWP.exit ?_
    | refine AWP.skip ?_
    | refine AWP.ret ?_
    | refine AWP.drawK2 (by decide +kernel) (by kernel_rfl) (by decide +kernel) rfl (fun K' hK => ?_)
    | refine AWP.drawL2 (by kernel_rfl) (by decide +kernel) rfl (fun K' hK => ?_)
    | (refine AQ.nil (hK _ ?_); clear hK K')
    | refine AQ.nil ?_
    | refine AQ.q rfl rfl (fun hg => by first | exact PRun.nilIface (ti := 0) (w' := .nilIface) (by exact ⟨_, rfl⟩) rfl rfl nd rfl | exact std0 | exact std1) (by exact rfl) ?_)
  · exfalso; cases hc
  · have hz : LOk Try.prog 59 ⟨.struct [], 0, 0, []⟩ := LOk.of rfl
    refine AOps.q rfl rfl rfl (fun hg => PRun.assertZ (by exact rfl) rfl rfl True.intro) (by exact rfl) ?_
    repeat' (first
      | refine AOps.q rfl rfl rfl (fun hg => by first | exact std0 | exact PRun.buildW tabOk rfl rfl nds | exact std1) (by exact rfl) ?_
      | refine AWP.seq ?_
      | refine AWP.regionK (fun K' hK => ?_)
      | (refine AOps.nil (hK _ _ ?_); clear hK K')
      | refine AOps.e (EStep.boxW rfl rfl rfl rfl rfl True.intro rfl rfl ?_)
      | refine AOps.e (EStep.storeW tabOk rfl rfl rfl True.intro rfl rfl True.intro rfl rfl rfl rfl rfl rfl rfl ?_)
      | refine AOps.e (EStep.allocW tabOk rfl rfl rfl rfl rfl rfl ?_)
      | refine AOps.e (EStep.alloc rfl rfl rfl (by decide) hz ?_)
      | refine AOps.e (EStep.store rfl rfl (Rd.w rfl True.intro) rfl (Rd.w rfl True.intro) rfl rfl hz rfl (by decide) rfl ?_)
      | (refine AWP.condW rfl True.intro (fun hc => ?_) (fun hc => ?_) <;> (first | (simp only [decide_eq_true_eq] at hc) | (simp only [decide_eq_false_iff_not, Int.not_lt, Int.not_le] at hc) | skip))
      | refine AWP.block ?_
      | refine AWP.exit ?_
      | refine AWP.skip ?_
      | refine AWP.ret ?_
      | refine AWP.drawK2 (by decide +kernel) (by kernel_rfl) (by decide +kernel) rfl (fun K' hK => ?_)
      | refine AWP.drawL2 (by kernel_rfl) (by decide +kernel) rfl (fun K' hK => ?_)
      | (refine AQ.nil (hK _ ?_); clear hK K')
      | refine AQ.nil ?_
      | refine AQ.q rfl rfl (fun hg => by first | exact std0 | exact PRun.buildW tabOk rfl rfl nds | exact std1) (by exact rfl) ?_)
    · exact ⟨.inl rfl, _, rfl, rfl, Nat.le_refl _, hok⟩
    · exfalso; cases hc
end Go.Proofs.Ytpkolkfglgalpaa
