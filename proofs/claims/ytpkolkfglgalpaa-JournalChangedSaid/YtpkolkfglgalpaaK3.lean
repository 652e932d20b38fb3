/- Contracts by content: the reader of the journal takes integers. No statement is proved here. -/
import Derived.Test.YtpkolkfglgalpaaJD
import Derived.Test.YtpkolkfglgalpaaM5
set_option linter.unusedVariables false
set_option linter.unusedSimpArgs false
namespace Go.Proofs.Ytpkolkfglgalpaa
open Go.Ab Go.Jo
attribute [local irreducible] AWP AOps EStep AQ PStep PRun PCall TCall VCall DStep TDies AWD DCall

abbrev encR (m : Jo.Mark) (rest : List Int) : List AV := Go.Proofs.Ytpkolkfglgalpaa.encM m ++ [.sl 1 (rest.map encN) .no]
abbrev ps3 : List (List AV) := [[.ptr 0 0], [.ptr 0 1], [.ptr 0 2]]
abbrev ps1 : List (List AV) := [[.ptr 0 3]]
abbrev ps9 : List (List AV) := [[.ptr 2 0], [.ptr 2 1], [.ptr 2 2], [.ptr 2 3], [.ptr 2 4], [.ptr 2 5], [.ptr 2 6], [.ptr 2 7], [.ptr 2 8]]
def ev3 (l : List Int) : Nat → Ev
  | 0 => noEv
  | 1 => ⟨l.getD 0 0, 0, 0, 0, noMark⟩
  | 2 => ⟨l.getD 0 0, l.getD 1 0, 0, 0, noMark⟩
  | _ => ⟨l.getD 0 0, l.getD 1 0, l.getD 2 0, 0, noMark⟩
def evN (e : Ev) (l : List Int) : Nat → Ev
  | 0 => e
  | _ => ⟨e.clock, e.stand, e.kind, l.getD 0 0, e.mark⟩
def mk9 (l : List Int) (k : Nat) : Jo.Mark :=
  ⟨if 0 < k then l.getD 0 0 else 0, if 1 < k then l.getD 1 0 else 0, if 2 < k then l.getD 2 0 else 0, ⟨if 3 < k then l.getD 3 0 else 0, if 4 < k then l.getD 4 0 else 0, if 5 < k then l.getD 5 0 else 0⟩, if 6 < k then l.getD 6 0 else 0, if 7 < k then l.getD 7 0 else 0, if 8 < k then l.getD 8 0 else 0, []⟩
abbrev brkJ : List PanicEntry := [{ v := .iface 59 (.agg #[]), recovered := false }]
set_option maxHeartbeats 1600000 in
set_option maxRecDepth 20000 in
theorem take3_T (l : List Int) (hl : 3 ≤ l.length) (hb : l.length ≤ 1000000) : TCall Try.prog 30 [.ptr 2 0, .sla 3 1 0 3 0] [.var (encE noEv), .var [.int 0], .var (encR noMark l), .arr 1 0 ps3]
    (fun r s => r = .tup [] ∧ s = [.var (encE (ev3 l 3)), .var [.int 0], .var (encR noMark (l.drop 3)), .arr 1 0 ps3]) := by
  refine TCall.body Try.func30 rfl rfl Try.ntmps30 rfl rfl ?_
  repeat' (first
    | refine AWP.regionPan rfl rfl (fun K' hK => ?_)
    | refine AOps.q rfl rfl rfl (fun hg => by first | exact std0 | exact PRun.lenA tabOk rfl rfl nd rfl | exact PRun.buildZ (by exact ⟨rfl, rfl⟩) rfl | exact PRun.ifaceW (by kernel_rfl) rfl rfl nd rfl | exact PRun.buildW tabOk rfl rfl nds | exact std1) (by exact rfl) ?_
    | refine AWP.seq ?_
    | refine AWP.regionK (fun K' hK => ?_)
    | (refine AOps.nil (hK _ _ ?_); clear hK K')
    | refine AOps.e (EStep.boxW rfl rfl rfl rfl rfl True.intro rfl rfl ?_)
    | refine AOps.e (EStep.storeW tabOk rfl rfl rfl True.intro rfl rfl True.intro rfl rfl rfl rfl rfl rfl rfl ?_)
    | refine AOps.e (EStep.allocW tabOk rfl rfl rfl rfl rfl rfl ?_)
    | refine DStep.panic rfl rfl rfl True.intro ?_
    | (refine AWP.condW rfl True.intro (fun hc => ?_) (fun hc => ?_) <;> (first | (simp only [decide_eq_true_eq] at hc) | (simp only [decide_eq_false_iff_not, Int.not_lt, Int.not_le] at hc) | skip))
    | refine AWP.block ?_
    | refine AWP.exit ?_
    | refine AWP.skip ?_
    | refine AWP.ret ?_
    | refine AWP.drawK2 (by decide +kernel) (by kernel_rfl) (by decide +kernel) rfl (fun K' hK => ?_)
    | refine AWP.drawL2 (by kernel_rfl) (by decide +kernel) rfl (fun K' hK => ?_)
    | (refine AQ.nil (hK _ ?_); clear hK K')
    | refine AQ.nil ?_
    | refine AQ.q rfl rfl (fun hg => by first | exact std0 | exact PRun.lenA tabOk rfl rfl nd rfl | exact PRun.buildZ (by exact ⟨rfl, rfl⟩) rfl | exact PRun.ifaceW (by kernel_rfl) rfl rfl nd rfl | exact PRun.buildW tabOk rfl rfl nds | exact std1) (by exact rfl) ?_)
  · exfalso; omega
  clear hc
  refine AWP.loopW (ι := Nat) (fun k => [(0, .ptr 2 0), (1, .sla 3 1 0 3 0), (16, .sla 3 1 0 3 0), (17, .int 3), (18, .int k)]) (fun k => [.var (encE (ev3 l k)), .var [.int 0], .var (encR noMark l), .arr 1 0 ps3]) (fun k => k ≤ 3) (fun k => 3 - k) 0 (Nat.zero_le _) ⟨rfl, rfl, rfl, rfl, rfl, True.intro⟩ rfl ?_
  intro k hk
  have hk4 : k = 0 ∨ k = 1 ∨ k = 2 ∨ k = 3 := by omega
  rcases hk4 with rfl | rfl | rfl | rfl
  all_goals repeat' (first  | refine AOps.q rfl rfl rfl (fun hg => by first | exact std0 | exact PRun.lenA tabOk rfl rfl nd rfl | exact PRun.indexA0 (es := ps3) tabOk rfl rfl nd rfl nd rfl (by decide) rfl ⟨by decide, by decide⟩ | exact PRun.loadE (es := ps3) tabOk rfl rfl nd rfl (by decide) rfl rfl rfl | exact PRun.sliceLoM tabOk rfl rfl nd rfl nd rfl (by omega) | exact PRun.sliceHiM tabOk rfl rfl nd rfl nd rfl (by omega) | exact PRun.sliceM tabOk rfl rfl nd rfl nd rfl nd rfl (by omega) | exact std1) (by exact rfl) ?_  | refine AWP.seq ?_  | refine AWP.regionK (fun K' hK => ?_)  | (refine AOps.nil (hK _ _ ?_); clear hK K')  | refine AOps.e (EStep.boxW rfl rfl rfl rfl rfl True.intro rfl rfl ?_)  | refine AOps.e (EStep.storeW tabOk rfl rfl rfl True.intro rfl rfl True.intro rfl rfl rfl rfl rfl rfl rfl ?_)  | refine AOps.e (EStep.allocW tabOk rfl rfl rfl rfl rfl rfl ?_)  | (refine AWP.condW rfl True.intro (fun hc => ?_) (fun hc => ?_) <;> (first | (simp only [decide_eq_true_eq] at hc) | (simp only [decide_eq_false_iff_not, Int.not_lt, Int.not_le] at hc) | skip))  | refine AWP.block ?_  | refine AWP.exit ?_  | refine AWP.skip ?_  | refine AWP.ret ?_  | refine AWP.drawK2 (by decide +kernel) (by kernel_rfl) (by decide +kernel) rfl (fun K' hK => ?_)  | refine AWP.drawL2 (by kernel_rfl) (by decide +kernel) rfl (fun K' hK => ?_)  | (refine AQ.nil (hK _ ?_); clear hK K')  | refine AQ.nil ?_  | refine AQ.q rfl rfl (fun hg => by first | exact std0 | exact PRun.lenA tabOk rfl rfl nd rfl | exact PRun.indexA0 (es := ps3) tabOk rfl rfl nd rfl nd rfl (by decide) rfl ⟨by decide, by decide⟩ | exact PRun.loadE (es := ps3) tabOk rfl rfl nd rfl (by decide) rfl rfl rfl | exact PRun.sliceLoM tabOk rfl rfl nd rfl nd rfl (by omega) | exact PRun.sliceHiM tabOk rfl rfl nd rfl nd rfl (by omega) | exact PRun.sliceM tabOk rfl rfl nd rfl nd rfl nd rfl (by omega) | exact std1) (by exact rfl) ?_)
  all_goals first
    | (exfalso; omega)
    | exact ⟨_ + 1, by omega, by omega, ⟨rfl, rfl, rfl, rfl, rfl, True.intro⟩, rfl⟩
    | exact ⟨.inl rfl, _, _, ⟨rfl, rfl⟩, rfl, Nat.le_refl _, rfl, rfl, rfl⟩
set_option maxRecDepth 20000 in
theorem take3_D (l : List Int) (hl : l.length < 3) : TDies Try.prog 30 [.ptr 2 0, .sla 3 1 0 3 0] [.var (encE noEv), .var [.int 0], .var (encR noMark l), .arr 1 0 ps3] brkJ (fun s => s = [.var (encE noEv), .var [.int 0], .var (encR noMark l), .arr 1 0 ps3]) := by
  refine TDies.body Try.func30 rfl rfl Try.ntmps30 rfl ?_
  repeat' (first
    | refine AWP.regionPan rfl rfl (fun K' hK => ?_)
    | refine AOps.q rfl rfl rfl (fun hg => by first | exact std0 | exact PRun.lenA tabOk rfl rfl nd rfl | exact PRun.buildZ (by exact ⟨rfl, rfl⟩) rfl | exact PRun.ifaceW (by kernel_rfl) rfl rfl nd rfl | exact PRun.buildW tabOk rfl rfl nds | exact std1) (by exact rfl) ?_
    | refine AWP.seq ?_
    | refine AWP.regionK (fun K' hK => ?_)
    | (refine AOps.nil (hK _ _ ?_); clear hK K')
    | refine AOps.e (EStep.boxW rfl rfl rfl rfl rfl True.intro rfl rfl ?_)
    | refine AOps.e (EStep.storeW tabOk rfl rfl rfl True.intro rfl rfl True.intro rfl rfl rfl rfl rfl rfl rfl ?_)
    | refine AOps.e (EStep.allocW tabOk rfl rfl rfl rfl rfl rfl ?_)
    | refine DStep.panic rfl rfl rfl True.intro ?_
    | (refine AWP.condW rfl True.intro (fun hc => ?_) (fun hc => ?_) <;> (first | (simp only [decide_eq_true_eq] at hc) | (simp only [decide_eq_false_iff_not, Int.not_lt, Int.not_le] at hc) | skip))
    | refine AWP.block ?_
    | refine AWP.exit ?_
    | refine AWP.skip ?_
    | refine AWP.ret ?_
    | refine AWP.drawK2 (by decide +kernel) (by kernel_rfl) (by decide +kernel) rfl (fun K' hK => ?_)
    | refine AWP.drawL2 (by kernel_rfl) (by decide +kernel) rfl (fun K' hK => ?_)
    | (refine AQ.nil (hK _ ?_); clear hK K')
    | refine AQ.nil ?_
    | refine AQ.q rfl rfl (fun hg => by first | exact std0 | exact PRun.lenA tabOk rfl rfl nd rfl | exact PRun.buildZ (by exact ⟨rfl, rfl⟩) rfl | exact PRun.ifaceW (by kernel_rfl) rfl rfl nd rfl | exact PRun.buildW tabOk rfl rfl nds | exact std1) (by exact rfl) ?_)
  · exact ⟨rfl, _, rfl, rfl, Nat.le_refl _, rfl⟩
  all_goals (exfalso; omega)
set_option maxHeartbeats 1600000 in
set_option maxRecDepth 20000 in
theorem take1_T (e : Ev) (l : List Int) (hl : 1 ≤ l.length) (hb : l.length ≤ 1000000) : TCall Try.prog 30 [.ptr 2 0, .sla 4 1 0 1 0] [.var (encE e), .var [.int 0], .var (encR noMark l), .arr 1 0 ps3, .arr 1 0 ps1]
    (fun r s => r = .tup [] ∧ s = [.var (encE (evN e l 1)), .var [.int 0], .var (encR noMark (l.drop 1)), .arr 1 0 ps3, .arr 1 0 ps1]) := by
  refine TCall.body Try.func30 rfl rfl Try.ntmps30 rfl rfl ?_
  repeat' (first
    | refine AWP.regionPan rfl rfl (fun K' hK => ?_)
    | refine AOps.q rfl rfl rfl (fun hg => by first | exact std0 | exact PRun.lenA tabOk rfl rfl nd rfl | exact PRun.buildZ (by exact ⟨rfl, rfl⟩) rfl | exact PRun.ifaceW (by kernel_rfl) rfl rfl nd rfl | exact PRun.buildW tabOk rfl rfl nds | exact std1) (by exact rfl) ?_
    | refine AWP.seq ?_
    | refine AWP.regionK (fun K' hK => ?_)
    | (refine AOps.nil (hK _ _ ?_); clear hK K')
    | refine AOps.e (EStep.boxW rfl rfl rfl rfl rfl True.intro rfl rfl ?_)
    | refine AOps.e (EStep.storeW tabOk rfl rfl rfl True.intro rfl rfl True.intro rfl rfl rfl rfl rfl rfl rfl ?_)
    | refine AOps.e (EStep.allocW tabOk rfl rfl rfl rfl rfl rfl ?_)
    | refine DStep.panic rfl rfl rfl True.intro ?_
    | (refine AWP.condW rfl True.intro (fun hc => ?_) (fun hc => ?_) <;> (first | (simp only [decide_eq_true_eq] at hc) | (simp only [decide_eq_false_iff_not, Int.not_lt, Int.not_le] at hc) | skip))
    | refine AWP.block ?_
    | refine AWP.exit ?_
    | refine AWP.skip ?_
    | refine AWP.ret ?_
    | refine AWP.drawK2 (by decide +kernel) (by kernel_rfl) (by decide +kernel) rfl (fun K' hK => ?_)
    | refine AWP.drawL2 (by kernel_rfl) (by decide +kernel) rfl (fun K' hK => ?_)
    | (refine AQ.nil (hK _ ?_); clear hK K')
    | refine AQ.nil ?_
    | refine AQ.q rfl rfl (fun hg => by first | exact std0 | exact PRun.lenA tabOk rfl rfl nd rfl | exact PRun.buildZ (by exact ⟨rfl, rfl⟩) rfl | exact PRun.ifaceW (by kernel_rfl) rfl rfl nd rfl | exact PRun.buildW tabOk rfl rfl nds | exact std1) (by exact rfl) ?_)
  · exfalso; omega
  clear hc
  refine AWP.loopW (ι := Nat) (fun k => [(0, .ptr 2 0), (1, .sla 4 1 0 1 0), (16, .sla 4 1 0 1 0), (17, .int 1), (18, .int k)]) (fun k => [.var (encE (evN e l k)), .var [.int 0], .var (encR noMark l), .arr 1 0 ps3, .arr 1 0 ps1]) (fun k => k ≤ 1) (fun k => 1 - k) 0 (Nat.zero_le _) ⟨rfl, rfl, rfl, rfl, rfl, True.intro⟩ rfl ?_
  intro k hk
  have hk4 : k = 0 ∨ k = 1 := by omega
  rcases hk4 with rfl | rfl
  all_goals repeat' (first  | refine AOps.q rfl rfl rfl (fun hg => by first | exact std0 | exact PRun.lenA tabOk rfl rfl nd rfl | exact PRun.indexA0 (es := ps1) tabOk rfl rfl nd rfl nd rfl (by decide) rfl ⟨by decide, by decide⟩ | exact PRun.loadE (es := ps1) tabOk rfl rfl nd rfl (by decide) rfl rfl rfl | exact PRun.sliceLoM tabOk rfl rfl nd rfl nd rfl (by omega) | exact PRun.sliceHiM tabOk rfl rfl nd rfl nd rfl (by omega) | exact PRun.sliceM tabOk rfl rfl nd rfl nd rfl nd rfl (by omega) | exact std1) (by exact rfl) ?_  | refine AWP.seq ?_  | refine AWP.regionK (fun K' hK => ?_)  | (refine AOps.nil (hK _ _ ?_); clear hK K')  | refine AOps.e (EStep.boxW rfl rfl rfl rfl rfl True.intro rfl rfl ?_)  | refine AOps.e (EStep.storeW tabOk rfl rfl rfl True.intro rfl rfl True.intro rfl rfl rfl rfl rfl rfl rfl ?_)  | refine AOps.e (EStep.allocW tabOk rfl rfl rfl rfl rfl rfl ?_)  | (refine AWP.condW rfl True.intro (fun hc => ?_) (fun hc => ?_) <;> (first | (simp only [decide_eq_true_eq] at hc) | (simp only [decide_eq_false_iff_not, Int.not_lt, Int.not_le] at hc) | skip))  | refine AWP.block ?_  | refine AWP.exit ?_  | refine AWP.skip ?_  | refine AWP.ret ?_  | refine AWP.drawK2 (by decide +kernel) (by kernel_rfl) (by decide +kernel) rfl (fun K' hK => ?_)  | refine AWP.drawL2 (by kernel_rfl) (by decide +kernel) rfl (fun K' hK => ?_)  | (refine AQ.nil (hK _ ?_); clear hK K')  | refine AQ.nil ?_  | refine AQ.q rfl rfl (fun hg => by first | exact std0 | exact PRun.lenA tabOk rfl rfl nd rfl | exact PRun.indexA0 (es := ps1) tabOk rfl rfl nd rfl nd rfl (by decide) rfl ⟨by decide, by decide⟩ | exact PRun.loadE (es := ps1) tabOk rfl rfl nd rfl (by decide) rfl rfl rfl | exact PRun.sliceLoM tabOk rfl rfl nd rfl nd rfl (by omega) | exact PRun.sliceHiM tabOk rfl rfl nd rfl nd rfl (by omega) | exact PRun.sliceM tabOk rfl rfl nd rfl nd rfl nd rfl (by omega) | exact std1) (by exact rfl) ?_)
  all_goals first
    | (exfalso; omega)
    | exact ⟨_ + 1, by omega, by omega, ⟨rfl, rfl, rfl, rfl, rfl, True.intro⟩, rfl⟩
    | exact ⟨.inl rfl, _, _, ⟨rfl, rfl⟩, rfl, Nat.le_refl _, rfl, rfl, rfl⟩
set_option maxRecDepth 20000 in
theorem take1_D (e : Ev) (l : List Int) (hl : l.length < 1) : TDies Try.prog 30 [.ptr 2 0, .sla 4 1 0 1 0] [.var (encE e), .var [.int 0], .var (encR noMark l), .arr 1 0 ps3, .arr 1 0 ps1] brkJ (fun s => s = [.var (encE e), .var [.int 0], .var (encR noMark l), .arr 1 0 ps3, .arr 1 0 ps1]) := by
  refine TDies.body Try.func30 rfl rfl Try.ntmps30 rfl ?_
  repeat' (first
    | refine AWP.regionPan rfl rfl (fun K' hK => ?_)
    | refine AOps.q rfl rfl rfl (fun hg => by first | exact std0 | exact PRun.lenA tabOk rfl rfl nd rfl | exact PRun.buildZ (by exact ⟨rfl, rfl⟩) rfl | exact PRun.ifaceW (by kernel_rfl) rfl rfl nd rfl | exact PRun.buildW tabOk rfl rfl nds | exact std1) (by exact rfl) ?_
    | refine AWP.seq ?_
    | refine AWP.regionK (fun K' hK => ?_)
    | (refine AOps.nil (hK _ _ ?_); clear hK K')
    | refine AOps.e (EStep.boxW rfl rfl rfl rfl rfl True.intro rfl rfl ?_)
    | refine AOps.e (EStep.storeW tabOk rfl rfl rfl True.intro rfl rfl True.intro rfl rfl rfl rfl rfl rfl rfl ?_)
    | refine AOps.e (EStep.allocW tabOk rfl rfl rfl rfl rfl rfl ?_)
    | refine DStep.panic rfl rfl rfl True.intro ?_
    | (refine AWP.condW rfl True.intro (fun hc => ?_) (fun hc => ?_) <;> (first | (simp only [decide_eq_true_eq] at hc) | (simp only [decide_eq_false_iff_not, Int.not_lt, Int.not_le] at hc) | skip))
    | refine AWP.block ?_
    | refine AWP.exit ?_
    | refine AWP.skip ?_
    | refine AWP.ret ?_
    | refine AWP.drawK2 (by decide +kernel) (by kernel_rfl) (by decide +kernel) rfl (fun K' hK => ?_)
    | refine AWP.drawL2 (by kernel_rfl) (by decide +kernel) rfl (fun K' hK => ?_)
    | (refine AQ.nil (hK _ ?_); clear hK K')
    | refine AQ.nil ?_
    | refine AQ.q rfl rfl (fun hg => by first | exact std0 | exact PRun.lenA tabOk rfl rfl nd rfl | exact PRun.buildZ (by exact ⟨rfl, rfl⟩) rfl | exact PRun.ifaceW (by kernel_rfl) rfl rfl nd rfl | exact PRun.buildW tabOk rfl rfl nds | exact std1) (by exact rfl) ?_)
  · exact ⟨rfl, _, rfl, rfl, Nat.le_refl _, rfl⟩
  all_goals (exfalso; omega)
set_option maxHeartbeats 1600000 in
set_option maxRecDepth 20000 in
theorem take9_T (e : Ev) (l : List Int) (hl : 9 ≤ l.length) (hb : l.length ≤ 1000000) : TCall Try.prog 30 [.ptr 2 0, .sla 4 1 0 9 0] [.var (encE e), .var [.int 0], .var (encR noMark l), .arr 1 0 ps3, .arr 1 0 ps9]
    (fun r s => r = .tup [] ∧ s = [.var (encE e), .var [.int 0], .var (encR (mk9 l 9) (l.drop 9)), .arr 1 0 ps3, .arr 1 0 ps9]) := by
  refine TCall.body Try.func30 rfl rfl Try.ntmps30 rfl rfl ?_
  repeat' (first
    | refine AWP.regionPan rfl rfl (fun K' hK => ?_)
    | refine AOps.q rfl rfl rfl (fun hg => by first | exact std0 | exact PRun.lenA tabOk rfl rfl nd rfl | exact PRun.buildZ (by exact ⟨rfl, rfl⟩) rfl | exact PRun.ifaceW (by kernel_rfl) rfl rfl nd rfl | exact PRun.buildW tabOk rfl rfl nds | exact std1) (by exact rfl) ?_
    | refine AWP.seq ?_
    | refine AWP.regionK (fun K' hK => ?_)
    | (refine AOps.nil (hK _ _ ?_); clear hK K')
    | refine AOps.e (EStep.boxW rfl rfl rfl rfl rfl True.intro rfl rfl ?_)
    | refine AOps.e (EStep.storeW tabOk rfl rfl rfl True.intro rfl rfl True.intro rfl rfl rfl rfl rfl rfl rfl ?_)
    | refine AOps.e (EStep.allocW tabOk rfl rfl rfl rfl rfl rfl ?_)
    | refine DStep.panic rfl rfl rfl True.intro ?_
    | (refine AWP.condW rfl True.intro (fun hc => ?_) (fun hc => ?_) <;> (first | (simp only [decide_eq_true_eq] at hc) | (simp only [decide_eq_false_iff_not, Int.not_lt, Int.not_le] at hc) | skip))
    | refine AWP.block ?_
    | refine AWP.exit ?_
    | refine AWP.skip ?_
    | refine AWP.ret ?_
    | refine AWP.drawK2 (by decide +kernel) (by kernel_rfl) (by decide +kernel) rfl (fun K' hK => ?_)
    | refine AWP.drawL2 (by kernel_rfl) (by decide +kernel) rfl (fun K' hK => ?_)
    | (refine AQ.nil (hK _ ?_); clear hK K')
    | refine AQ.nil ?_
    | refine AQ.q rfl rfl (fun hg => by first | exact std0 | exact PRun.lenA tabOk rfl rfl nd rfl | exact PRun.buildZ (by exact ⟨rfl, rfl⟩) rfl | exact PRun.ifaceW (by kernel_rfl) rfl rfl nd rfl | exact PRun.buildW tabOk rfl rfl nds | exact std1) (by exact rfl) ?_)
  · exfalso; omega
  clear hc
  refine AWP.loopW (ι := Nat) (fun k => [(0, .ptr 2 0), (1, .sla 4 1 0 9 0), (16, .sla 4 1 0 9 0), (17, .int 9), (18, .int k)]) (fun k => [.var (encE e), .var [.int 0], .var (encR (mk9 l k) l), .arr 1 0 ps3, .arr 1 0 ps9]) (fun k => k ≤ 9) (fun k => 9 - k) 0 (Nat.zero_le _) ⟨rfl, rfl, rfl, rfl, rfl, True.intro⟩ rfl ?_
  intro k hk
  have hk4 : k = 0 ∨ k = 1 ∨ k = 2 ∨ k = 3 ∨ k = 4 ∨ k = 5 ∨ k = 6 ∨ k = 7 ∨ k = 8 ∨ k = 9 := by omega
  rcases hk4 with rfl | rfl | rfl | rfl | rfl | rfl | rfl | rfl | rfl | rfl
  all_goals repeat' (first  | refine AOps.q rfl rfl rfl (fun hg => by first | exact std0 | exact PRun.lenA tabOk rfl rfl nd rfl | exact PRun.indexA0 (es := ps9) tabOk rfl rfl nd rfl nd rfl (by decide) rfl ⟨by decide, by decide⟩ | exact PRun.loadE (es := ps9) tabOk rfl rfl nd rfl (by decide) rfl rfl rfl | exact PRun.sliceLoM tabOk rfl rfl nd rfl nd rfl (by omega) | exact PRun.sliceHiM tabOk rfl rfl nd rfl nd rfl (by omega) | exact PRun.sliceM tabOk rfl rfl nd rfl nd rfl nd rfl (by omega) | exact std1) (by exact rfl) ?_  | refine AWP.seq ?_  | refine AWP.regionK (fun K' hK => ?_)  | (refine AOps.nil (hK _ _ ?_); clear hK K')  | refine AOps.e (EStep.boxW rfl rfl rfl rfl rfl True.intro rfl rfl ?_)  | refine AOps.e (EStep.storeW tabOk rfl rfl rfl True.intro rfl rfl True.intro rfl rfl rfl rfl rfl rfl rfl ?_)  | refine AOps.e (EStep.allocW tabOk rfl rfl rfl rfl rfl rfl ?_)  | (refine AWP.condW rfl True.intro (fun hc => ?_) (fun hc => ?_) <;> (first | (simp only [decide_eq_true_eq] at hc) | (simp only [decide_eq_false_iff_not, Int.not_lt, Int.not_le] at hc) | skip))  | refine AWP.block ?_  | refine AWP.exit ?_  | refine AWP.skip ?_  | refine AWP.ret ?_  | refine AWP.drawK2 (by decide +kernel) (by kernel_rfl) (by decide +kernel) rfl (fun K' hK => ?_)  | refine AWP.drawL2 (by kernel_rfl) (by decide +kernel) rfl (fun K' hK => ?_)  | (refine AQ.nil (hK _ ?_); clear hK K')  | refine AQ.nil ?_  | refine AQ.q rfl rfl (fun hg => by first | exact std0 | exact PRun.lenA tabOk rfl rfl nd rfl | exact PRun.indexA0 (es := ps9) tabOk rfl rfl nd rfl nd rfl (by decide) rfl ⟨by decide, by decide⟩ | exact PRun.loadE (es := ps9) tabOk rfl rfl nd rfl (by decide) rfl rfl rfl | exact PRun.sliceLoM tabOk rfl rfl nd rfl nd rfl (by omega) | exact PRun.sliceHiM tabOk rfl rfl nd rfl nd rfl (by omega) | exact PRun.sliceM tabOk rfl rfl nd rfl nd rfl nd rfl (by omega) | exact std1) (by exact rfl) ?_)
  all_goals first
    | (exfalso; omega)
    | exact ⟨_ + 1, by omega, by omega, ⟨rfl, rfl, rfl, rfl, rfl, True.intro⟩, rfl⟩
    | exact ⟨.inl rfl, _, _, ⟨rfl, rfl⟩, rfl, Nat.le_refl _, rfl, rfl, rfl⟩
set_option maxRecDepth 20000 in
theorem take9_D (e : Ev) (l : List Int) (hl : l.length < 9) : TDies Try.prog 30 [.ptr 2 0, .sla 4 1 0 9 0] [.var (encE e), .var [.int 0], .var (encR noMark l), .arr 1 0 ps3, .arr 1 0 ps9] brkJ (fun s => s = [.var (encE e), .var [.int 0], .var (encR noMark l), .arr 1 0 ps3, .arr 1 0 ps9]) := by
  refine TDies.body Try.func30 rfl rfl Try.ntmps30 rfl ?_
  repeat' (first
    | refine AWP.regionPan rfl rfl (fun K' hK => ?_)
    | refine AOps.q rfl rfl rfl (fun hg => by first | exact std0 | exact PRun.lenA tabOk rfl rfl nd rfl | exact PRun.buildZ (by exact ⟨rfl, rfl⟩) rfl | exact PRun.ifaceW (by kernel_rfl) rfl rfl nd rfl | exact PRun.buildW tabOk rfl rfl nds | exact std1) (by exact rfl) ?_
    | refine AWP.seq ?_
    | refine AWP.regionK (fun K' hK => ?_)
    | (refine AOps.nil (hK _ _ ?_); clear hK K')
    | refine AOps.e (EStep.boxW rfl rfl rfl rfl rfl True.intro rfl rfl ?_)
    | refine AOps.e (EStep.storeW tabOk rfl rfl rfl True.intro rfl rfl True.intro rfl rfl rfl rfl rfl rfl rfl ?_)
    | refine AOps.e (EStep.allocW tabOk rfl rfl rfl rfl rfl rfl ?_)
    | refine DStep.panic rfl rfl rfl True.intro ?_
    | (refine AWP.condW rfl True.intro (fun hc => ?_) (fun hc => ?_) <;> (first | (simp only [decide_eq_true_eq] at hc) | (simp only [decide_eq_false_iff_not, Int.not_lt, Int.not_le] at hc) | skip))
    | refine AWP.block ?_
    | refine AWP.exit ?_
    | refine AWP.skip ?_
    | refine AWP.ret ?_
    | refine AWP.drawK2 (by decide +kernel) (by kernel_rfl) (by decide +kernel) rfl (fun K' hK => ?_)
    | refine AWP.drawL2 (by kernel_rfl) (by decide +kernel) rfl (fun K' hK => ?_)
    | (refine AQ.nil (hK _ ?_); clear hK K')
    | refine AQ.nil ?_
    | refine AQ.q rfl rfl (fun hg => by first | exact std0 | exact PRun.lenA tabOk rfl rfl nd rfl | exact PRun.buildZ (by exact ⟨rfl, rfl⟩) rfl | exact PRun.ifaceW (by kernel_rfl) rfl rfl nd rfl | exact PRun.buildW tabOk rfl rfl nds | exact std1) (by exact rfl) ?_)
  · exact ⟨rfl, _, rfl, rfl, Nat.le_refl _, rfl⟩
  all_goals (exfalso; omega)
end Go.Proofs.Ytpkolkfglgalpaa
