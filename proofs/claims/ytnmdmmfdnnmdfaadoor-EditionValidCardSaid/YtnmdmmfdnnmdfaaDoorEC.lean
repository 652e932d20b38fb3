/- Contracts by content: the index functions over printed bars and letters, formed; that formed is Form. No statement is proved here. -/
import Derived.Test.YtnmdmmfdnnmdfaaDoorEB
set_option linter.unusedVariables false
set_option linter.unusedSimpArgs false
namespace Go.Proofs.YtnmdmmfdnnmdfaaDoor.Ed
open Go.Ab
attribute [local irreducible] AWP AOps EStep AQ PStep PRun PCall TCall VCall

theorem getD_mem {α : Type} [Inhabited α] {l : List α} {k : Nat} (h : k < l.length) : l.getD k default ∈ l := by
  rw [getD_lt h]; exact List.getElem_mem h

theorem idxP_spec (l : List Printed) (fv : AV) (p : Printed → Bool) (hp : ∀ x ∈ l, FnCall Tryd.prog fv [.agg (encP x)] (.b (p x))) (hl : l.length ≤ 9223372036854775807) :
    PCall Tryd.prog 76 [.sl 3 (l.map encP) .no, fv] (.int (findI p l)) := by
  refine PCall.bodyX [1] Tryd.func76 rfl rfl Tryd.ntmps76 rfl rfl ?_
  repeat' (first | refine AOps.q rfl rfl rfl (fun hg => by first | exact std0 | exact std1) (by exact rfl) ?_ | refine AWP.seq ?_ | refine AWP.regionK (fun K' hK => ?_) | (refine AOps.nil (hK _ _ ?_); clear hK K') | refine AOps.e (EStep.boxW rfl rfl rfl rfl rfl True.intro rfl rfl ?_) | refine AOps.e (EStep.storeW tabOk rfl rfl rfl True.intro rfl rfl True.intro rfl rfl rfl rfl rfl rfl rfl ?_) | refine AOps.e (EStep.allocW tabOk rfl rfl rfl rfl rfl rfl ?_) | (refine AWP.condW rfl True.intro (fun hc => ?_) (fun hc => ?_) <;> (first | (simp only [decide_eq_true_eq] at hc) | (simp only [decide_eq_false_iff_not, Int.not_lt, Int.not_le] at hc) | skip)) | refine AWP.block ?_ | refine AWP.exit ?_ | refine AWP.skip ?_ | refine AWP.ret ?_ | refine AWP.drawK2 (by decide +kernel) (by kernel_rfl) (by decide +kernel) rfl (fun K' hK => ?_) | refine AWP.drawL2 (by kernel_rfl) (by decide +kernel) rfl (fun K' hK => ?_) | (refine AQ.nil (hK _ ?_); clear hK K') | refine AQ.nil ?_ | refine AQ.q rfl rfl (fun hg => by first | exact std0 | exact std1) (by exact rfl) ?_)
  refine AWP.loopW (ι := Nat) (fun k => [(0, .sl 3 (l.map encP) .no), (1, .ext fv), (7, .int l.length), (8, .int k)]) (fun _ => []) (fun k => k ≤ l.length ∧ ∀ j, j < k → p (l.getD j default) = false) (fun k => l.length - k) 0 ⟨Nat.zero_le _, fun j h => absurd h (by omega)⟩ ⟨rfl, rfl, rfl, rfl, True.intro⟩ rfl ?_
  rintro k ⟨hk, hall⟩
  by_cases hlt : k < l.length
  · repeat' (first | refine AOps.q rfl rfl rfl (fun hg => by first | exact std0 | exact PRun.callV (hp _ (getD_mem hlt)) rfl rfl nd rfl nds | exact std1) (by exact rfl) ?_ | refine AWP.seq ?_ | refine AWP.regionK (fun K' hK => ?_) | (refine AOps.nil (hK _ _ ?_); clear hK K') | refine AOps.e (EStep.boxW rfl rfl rfl rfl rfl True.intro rfl rfl ?_) | refine AOps.e (EStep.storeW tabOk rfl rfl rfl True.intro rfl rfl True.intro rfl rfl rfl rfl rfl rfl rfl ?_) | refine AOps.e (EStep.allocW tabOk rfl rfl rfl rfl rfl rfl ?_) | (refine AWP.condW rfl True.intro (fun hc => ?_) (fun hc => ?_) <;> (first | (simp only [decide_eq_true_eq] at hc) | (simp only [decide_eq_false_iff_not, Int.not_lt, Int.not_le] at hc) | skip)) | refine AWP.block ?_ | refine AWP.exit ?_ | refine AWP.skip ?_ | refine AWP.ret ?_ | refine AWP.drawK2 (by decide +kernel) (by kernel_rfl) (by decide +kernel) rfl (fun K' hK => ?_) | refine AWP.drawL2 (by kernel_rfl) (by decide +kernel) rfl (fun K' hK => ?_) | (refine AQ.nil (hK _ ?_); clear hK K') | refine AQ.nil ?_ | refine AQ.q rfl rfl (fun hg => by first | exact std0 | exact PRun.callV (hp _ (getD_mem hlt)) rfl rfl nd rfl nds | exact std1) (by exact rfl) ?_)
    · refine ⟨.inr rfl, ?_⟩
      rw [show findI p l = k from findI_at hlt hc hall]
      exact fun _ _ h => h
    · exact ⟨k + 1, ⟨by omega, fun j hj => lt_succ_cases hall hc hj⟩, by omega, ⟨rfl, rfl, rfl, rfl, True.intro⟩, rfl⟩
    · exfalso; omega
  · repeat' (first | refine AOps.q rfl rfl rfl (fun hg => by first | exact std0 | exact std1) (by exact rfl) ?_ | refine AWP.seq ?_ | refine AWP.regionK (fun K' hK => ?_) | (refine AOps.nil (hK _ _ ?_); clear hK K') | refine AOps.e (EStep.boxW rfl rfl rfl rfl rfl True.intro rfl rfl ?_) | refine AOps.e (EStep.storeW tabOk rfl rfl rfl True.intro rfl rfl True.intro rfl rfl rfl rfl rfl rfl rfl ?_) | refine AOps.e (EStep.allocW tabOk rfl rfl rfl rfl rfl rfl ?_) | (refine AWP.condW rfl True.intro (fun hc => ?_) (fun hc => ?_) <;> (first | (simp only [decide_eq_true_eq] at hc) | (simp only [decide_eq_false_iff_not, Int.not_lt, Int.not_le] at hc) | skip)) | refine AWP.block ?_ | refine AWP.exit ?_ | refine AWP.skip ?_ | refine AWP.ret ?_ | refine AWP.drawK2 (by decide +kernel) (by kernel_rfl) (by decide +kernel) rfl (fun K' hK => ?_) | refine AWP.drawL2 (by kernel_rfl) (by decide +kernel) rfl (fun K' hK => ?_) | (refine AQ.nil (hK _ ?_); clear hK K') | refine AQ.nil ?_ | refine AQ.q rfl rfl (fun hg => by first | exact std0 | exact std1) (by exact rfl) ?_)
    · exfalso; omega
    · refine ⟨.inr rfl, ?_⟩
      rw [show findI p l = -1 from findI_no fun j hj => hall j (by omega)]
      exact fun _ _ h => h
theorem idxL_spec (l : List Letter) (fv : AV) (p : Letter → Bool) (hp : ∀ x ∈ l, FnCall Tryd.prog fv [.agg (encL x)] (.b (p x))) (hl : l.length ≤ 9223372036854775807) :
    PCall Tryd.prog 128 [.sl 2 (l.map encL) .no, fv] (.int (findI p l)) := by
  refine PCall.bodyX [1] Tryd.func128 rfl rfl Tryd.ntmps128 rfl rfl ?_
  repeat' (first | refine AOps.q rfl rfl rfl (fun hg => by first | exact std0 | exact std1) (by exact rfl) ?_ | refine AWP.seq ?_ | refine AWP.regionK (fun K' hK => ?_) | (refine AOps.nil (hK _ _ ?_); clear hK K') | refine AOps.e (EStep.boxW rfl rfl rfl rfl rfl True.intro rfl rfl ?_) | refine AOps.e (EStep.storeW tabOk rfl rfl rfl True.intro rfl rfl True.intro rfl rfl rfl rfl rfl rfl rfl ?_) | refine AOps.e (EStep.allocW tabOk rfl rfl rfl rfl rfl rfl ?_) | (refine AWP.condW rfl True.intro (fun hc => ?_) (fun hc => ?_) <;> (first | (simp only [decide_eq_true_eq] at hc) | (simp only [decide_eq_false_iff_not, Int.not_lt, Int.not_le] at hc) | skip)) | refine AWP.block ?_ | refine AWP.exit ?_ | refine AWP.skip ?_ | refine AWP.ret ?_ | refine AWP.drawK2 (by decide +kernel) (by kernel_rfl) (by decide +kernel) rfl (fun K' hK => ?_) | refine AWP.drawL2 (by kernel_rfl) (by decide +kernel) rfl (fun K' hK => ?_) | (refine AQ.nil (hK _ ?_); clear hK K') | refine AQ.nil ?_ | refine AQ.q rfl rfl (fun hg => by first | exact std0 | exact std1) (by exact rfl) ?_)
  refine AWP.loopW (ι := Nat) (fun k => [(0, .sl 2 (l.map encL) .no), (1, .ext fv), (7, .int l.length), (8, .int k)]) (fun _ => []) (fun k => k ≤ l.length ∧ ∀ j, j < k → p (l.getD j default) = false) (fun k => l.length - k) 0 ⟨Nat.zero_le _, fun j h => absurd h (by omega)⟩ ⟨rfl, rfl, rfl, rfl, True.intro⟩ rfl ?_
  rintro k ⟨hk, hall⟩
  by_cases hlt : k < l.length
  · repeat' (first | refine AOps.q rfl rfl rfl (fun hg => by first | exact std0 | exact PRun.callV (hp _ (getD_mem hlt)) rfl rfl nd rfl nds | exact std1) (by exact rfl) ?_ | refine AWP.seq ?_ | refine AWP.regionK (fun K' hK => ?_) | (refine AOps.nil (hK _ _ ?_); clear hK K') | refine AOps.e (EStep.boxW rfl rfl rfl rfl rfl True.intro rfl rfl ?_) | refine AOps.e (EStep.storeW tabOk rfl rfl rfl True.intro rfl rfl True.intro rfl rfl rfl rfl rfl rfl rfl ?_) | refine AOps.e (EStep.allocW tabOk rfl rfl rfl rfl rfl rfl ?_) | (refine AWP.condW rfl True.intro (fun hc => ?_) (fun hc => ?_) <;> (first | (simp only [decide_eq_true_eq] at hc) | (simp only [decide_eq_false_iff_not, Int.not_lt, Int.not_le] at hc) | skip)) | refine AWP.block ?_ | refine AWP.exit ?_ | refine AWP.skip ?_ | refine AWP.ret ?_ | refine AWP.drawK2 (by decide +kernel) (by kernel_rfl) (by decide +kernel) rfl (fun K' hK => ?_) | refine AWP.drawL2 (by kernel_rfl) (by decide +kernel) rfl (fun K' hK => ?_) | (refine AQ.nil (hK _ ?_); clear hK K') | refine AQ.nil ?_ | refine AQ.q rfl rfl (fun hg => by first | exact std0 | exact PRun.callV (hp _ (getD_mem hlt)) rfl rfl nd rfl nds | exact std1) (by exact rfl) ?_)
    · refine ⟨.inr rfl, ?_⟩
      rw [show findI p l = k from findI_at hlt hc hall]
      exact fun _ _ h => h
    · exact ⟨k + 1, ⟨by omega, fun j hj => lt_succ_cases hall hc hj⟩, by omega, ⟨rfl, rfl, rfl, rfl, True.intro⟩, rfl⟩
    · exfalso; omega
  · repeat' (first | refine AOps.q rfl rfl rfl (fun hg => by first | exact std0 | exact std1) (by exact rfl) ?_ | refine AWP.seq ?_ | refine AWP.regionK (fun K' hK => ?_) | (refine AOps.nil (hK _ _ ?_); clear hK K') | refine AOps.e (EStep.boxW rfl rfl rfl rfl rfl True.intro rfl rfl ?_) | refine AOps.e (EStep.storeW tabOk rfl rfl rfl True.intro rfl rfl True.intro rfl rfl rfl rfl rfl rfl rfl ?_) | refine AOps.e (EStep.allocW tabOk rfl rfl rfl rfl rfl rfl ?_) | (refine AWP.condW rfl True.intro (fun hc => ?_) (fun hc => ?_) <;> (first | (simp only [decide_eq_true_eq] at hc) | (simp only [decide_eq_false_iff_not, Int.not_lt, Int.not_le] at hc) | skip)) | refine AWP.block ?_ | refine AWP.exit ?_ | refine AWP.skip ?_ | refine AWP.ret ?_ | refine AWP.drawK2 (by decide +kernel) (by kernel_rfl) (by decide +kernel) rfl (fun K' hK => ?_) | refine AWP.drawL2 (by kernel_rfl) (by decide +kernel) rfl (fun K' hK => ?_) | (refine AQ.nil (hK _ ?_); clear hK K') | refine AQ.nil ?_ | refine AQ.q rfl rfl (fun hg => by first | exact std0 | exact std1) (by exact rfl) ?_)
    · exfalso; omega
    · refine ⟨.inr rfl, ?_⟩
      rw [show findI p l = -1 from findI_no fun j hj => hall j (by omega)]
      exact fun _ _ h => h

theorem contP_spec (l : List Printed) (fv : AV) (p : Printed → Bool) (hp : ∀ x ∈ l, FnCall Tryd.prog fv [.agg (encP x)] (.b (p x))) (hl : l.length ≤ 9223372036854775807) :
    PCall Tryd.prog 83 [.sl 3 (l.map encP) .no, fv] (.b (decide (findI p l ≥ 0))) := by
  refine PCall.bodyX [1] Tryd.func83 rfl rfl Tryd.ntmps83 rfl rfl ?_
  repeat' (first | refine AOps.q rfl rfl rfl (fun hg => by first | exact std0 | exact PRun.callW (idxP_spec l fv p hp hl) rfl rfl nd rfl nds | exact std1) (by exact rfl) ?_ | refine AWP.seq ?_ | refine AWP.regionK (fun K' hK => ?_) | (refine AOps.nil (hK _ _ ?_); clear hK K') | refine AOps.e (EStep.boxW rfl rfl rfl rfl rfl True.intro rfl rfl ?_) | refine AOps.e (EStep.storeW tabOk rfl rfl rfl True.intro rfl rfl True.intro rfl rfl rfl rfl rfl rfl rfl ?_) | refine AOps.e (EStep.allocW tabOk rfl rfl rfl rfl rfl rfl ?_) | (refine AWP.condW rfl True.intro (fun hc => ?_) (fun hc => ?_) <;> (first | (simp only [decide_eq_true_eq] at hc) | (simp only [decide_eq_false_iff_not, Int.not_lt, Int.not_le] at hc) | skip)) | refine AWP.block ?_ | refine AWP.exit ?_ | refine AWP.skip ?_ | refine AWP.ret ?_ | refine AWP.drawK2 (by decide +kernel) (by kernel_rfl) (by decide +kernel) rfl (fun K' hK => ?_) | refine AWP.drawL2 (by kernel_rfl) (by decide +kernel) rfl (fun K' hK => ?_) | (refine AQ.nil (hK _ ?_); clear hK K') | refine AQ.nil ?_ | refine AQ.q rfl rfl (fun hg => by first | exact std0 | exact PRun.callW (idxP_spec l fv p hp hl) rfl rfl nd rfl nds | exact std1) (by exact rfl) ?_)
  exact ⟨.inr rfl, fun _ _ h => h⟩
theorem contL_spec (l : List Letter) (fv : AV) (p : Letter → Bool) (hp : ∀ x ∈ l, FnCall Tryd.prog fv [.agg (encL x)] (.b (p x))) (hl : l.length ≤ 9223372036854775807) :
    PCall Tryd.prog 113 [.sl 2 (l.map encL) .no, fv] (.b (decide (findI p l ≥ 0))) := by
  refine PCall.bodyX [1] Tryd.func113 rfl rfl Tryd.ntmps113 rfl rfl ?_
  repeat' (first | refine AOps.q rfl rfl rfl (fun hg => by first | exact std0 | exact PRun.callW (idxL_spec l fv p hp hl) rfl rfl nd rfl nds | exact std1) (by exact rfl) ?_ | refine AWP.seq ?_ | refine AWP.regionK (fun K' hK => ?_) | (refine AOps.nil (hK _ _ ?_); clear hK K') | refine AOps.e (EStep.boxW rfl rfl rfl rfl rfl True.intro rfl rfl ?_) | refine AOps.e (EStep.storeW tabOk rfl rfl rfl True.intro rfl rfl True.intro rfl rfl rfl rfl rfl rfl rfl ?_) | refine AOps.e (EStep.allocW tabOk rfl rfl rfl rfl rfl rfl ?_) | (refine AWP.condW rfl True.intro (fun hc => ?_) (fun hc => ?_) <;> (first | (simp only [decide_eq_true_eq] at hc) | (simp only [decide_eq_false_iff_not, Int.not_lt, Int.not_le] at hc) | skip)) | refine AWP.block ?_ | refine AWP.exit ?_ | refine AWP.skip ?_ | refine AWP.ret ?_ | refine AWP.drawK2 (by decide +kernel) (by kernel_rfl) (by decide +kernel) rfl (fun K' hK => ?_) | refine AWP.drawL2 (by kernel_rfl) (by decide +kernel) rfl (fun K' hK => ?_) | (refine AQ.nil (hK _ ?_); clear hK K') | refine AQ.nil ?_ | refine AQ.q rfl rfl (fun hg => by first | exact std0 | exact PRun.callW (idxL_spec l fv p hp hl) rfl rfl nd rfl nds | exact std1) (by exact rfl) ?_)
  exact ⟨.inr rfl, fun _ _ h => h⟩
theorem anyP_spec (l : List Printed) (fv : AV) (p : Printed → Bool) (hp : ∀ x ∈ l, FnCall Tryd.prog fv [.agg (encP x)] (.b (p x))) (hl : l.length ≤ 9223372036854775807) :
    PCall Tryd.prog 41 [.sl 3 (l.map encP) .no, fv] (.b (decide (findI p l ≥ 0))) := by
  refine PCall.bodyX [1] Tryd.func41 rfl rfl Tryd.ntmps41 rfl rfl ?_
  repeat' (first | refine AOps.q rfl rfl rfl (fun hg => by first | exact std0 | exact PRun.callW (contP_spec l fv p hp hl) rfl rfl nd rfl nds | exact std1) (by exact rfl) ?_ | refine AWP.seq ?_ | refine AWP.regionK (fun K' hK => ?_) | (refine AOps.nil (hK _ _ ?_); clear hK K') | refine AOps.e (EStep.boxW rfl rfl rfl rfl rfl True.intro rfl rfl ?_) | refine AOps.e (EStep.storeW tabOk rfl rfl rfl True.intro rfl rfl True.intro rfl rfl rfl rfl rfl rfl rfl ?_) | refine AOps.e (EStep.allocW tabOk rfl rfl rfl rfl rfl rfl ?_) | (refine AWP.condW rfl True.intro (fun hc => ?_) (fun hc => ?_) <;> (first | (simp only [decide_eq_true_eq] at hc) | (simp only [decide_eq_false_iff_not, Int.not_lt, Int.not_le] at hc) | skip)) | refine AWP.block ?_ | refine AWP.exit ?_ | refine AWP.skip ?_ | refine AWP.ret ?_ | refine AWP.drawK2 (by decide +kernel) (by kernel_rfl) (by decide +kernel) rfl (fun K' hK => ?_) | refine AWP.drawL2 (by kernel_rfl) (by decide +kernel) rfl (fun K' hK => ?_) | (refine AQ.nil (hK _ ?_); clear hK K') | refine AQ.nil ?_ | refine AQ.q rfl rfl (fun hg => by first | exact std0 | exact PRun.callW (contP_spec l fv p hp hl) rfl rfl nd rfl nds | exact std1) (by exact rfl) ?_)
  exact ⟨.inr rfl, fun _ _ h => h⟩
theorem anyL_spec (l : List Letter) (fv : AV) (p : Letter → Bool) (hp : ∀ x ∈ l, FnCall Tryd.prog fv [.agg (encL x)] (.b (p x))) (hl : l.length ≤ 9223372036854775807) :
    PCall Tryd.prog 82 [.sl 2 (l.map encL) .no, fv] (.b (decide (findI p l ≥ 0))) := by
  refine PCall.bodyX [1] Tryd.func82 rfl rfl Tryd.ntmps82 rfl rfl ?_
  repeat' (first | refine AOps.q rfl rfl rfl (fun hg => by first | exact std0 | exact PRun.callW (contL_spec l fv p hp hl) rfl rfl nd rfl nds | exact std1) (by exact rfl) ?_ | refine AWP.seq ?_ | refine AWP.regionK (fun K' hK => ?_) | (refine AOps.nil (hK _ _ ?_); clear hK K') | refine AOps.e (EStep.boxW rfl rfl rfl rfl rfl True.intro rfl rfl ?_) | refine AOps.e (EStep.storeW tabOk rfl rfl rfl True.intro rfl rfl True.intro rfl rfl rfl rfl rfl rfl rfl ?_) | refine AOps.e (EStep.allocW tabOk rfl rfl rfl rfl rfl rfl ?_) | (refine AWP.condW rfl True.intro (fun hc => ?_) (fun hc => ?_) <;> (first | (simp only [decide_eq_true_eq] at hc) | (simp only [decide_eq_false_iff_not, Int.not_lt, Int.not_le] at hc) | skip)) | refine AWP.block ?_ | refine AWP.exit ?_ | refine AWP.skip ?_ | refine AWP.ret ?_ | refine AWP.drawK2 (by decide +kernel) (by kernel_rfl) (by decide +kernel) rfl (fun K' hK => ?_) | refine AWP.drawL2 (by kernel_rfl) (by decide +kernel) rfl (fun K' hK => ?_) | (refine AQ.nil (hK _ ?_); clear hK K') | refine AQ.nil ?_ | refine AQ.q rfl rfl (fun hg => by first | exact std0 | exact PRun.callW (contL_spec l fv p hp hl) rfl rfl nd rfl nds | exact std1) (by exact rfl) ?_)
  exact ⟨.inr rfl, fun _ _ h => h⟩

def badBar (b : Printed) : Bool := !inB b.number 0 100000 || !inB b.bar 1 1000000 || !inB b.pass 0 9
def badLet (e : Edition) (l : Letter) : Bool := !nameB l.name || !inB l.pos 0 ((e.bars.length : Int) - 1)
theorem badBar_spec (b : Printed) : PCall Tryd.prog 80 [.agg (encP b)] (.b (badBar b)) := by
  refine PCall.body Tryd.func80 rfl rfl Tryd.ntmps80 rfl rfl ?_
  repeat' (first | refine AOps.q rfl rfl rfl (fun hg => by first | exact std0 | exact PRun.callW (within_spec _ _ _) rfl rfl nd rfl nds | exact std1) (by exact rfl) ?_ | refine AWP.seq ?_ | refine AWP.regionK (fun K' hK => ?_) | (refine AOps.nil (hK _ _ ?_); clear hK K') | refine AOps.e (EStep.boxW rfl rfl rfl rfl rfl True.intro rfl rfl ?_) | refine AOps.e (EStep.storeW tabOk rfl rfl rfl True.intro rfl rfl True.intro rfl rfl rfl rfl rfl rfl rfl ?_) | refine AOps.e (EStep.allocW tabOk rfl rfl rfl rfl rfl rfl ?_) | (refine AWP.condW rfl True.intro (fun hc => ?_) (fun hc => ?_) <;> (first | (simp only [decide_eq_true_eq] at hc) | (simp only [decide_eq_false_iff_not, Int.not_lt, Int.not_le] at hc) | skip)) | refine AWP.block ?_ | refine AWP.exit ?_ | refine AWP.skip ?_ | refine AWP.ret ?_ | refine AWP.drawK2 (by decide +kernel) (by kernel_rfl) (by decide +kernel) rfl (fun K' hK => ?_) | refine AWP.drawL2 (by kernel_rfl) (by decide +kernel) rfl (fun K' hK => ?_) | (refine AQ.nil (hK _ ?_); clear hK K') | refine AQ.nil ?_ | refine AQ.q rfl rfl (fun hg => by first | exact std0 | exact PRun.callW (within_spec _ _ _) rfl rfl nd rfl nds | exact std1) (by exact rfl) ?_)
  exact ⟨.inr rfl, fun _ _ h => h⟩
theorem badLet_spec (e : Edition) (l : Letter) (hn : l.name.size ≤ 9223372036854775807) (hb : e.bars.length ≤ 9223372036854775807) : PCall Tryd.prog 81 [.agg (encL l), .iptr (encE e)] (.b (badLet e l)) := by
  refine PCall.body Tryd.func81 rfl rfl Tryd.ntmps81 rfl rfl ?_
  repeat' (first | refine AOps.q rfl rfl rfl (fun hg => by first | exact std0 | exact PRun.callW (within_spec _ _ _) rfl rfl nd rfl nds | exact PRun.callW (isName_spec l.name hn) rfl rfl nd rfl nds | exact std1) (by exact rfl) ?_ | refine AWP.seq ?_ | refine AWP.regionK (fun K' hK => ?_) | (refine AOps.nil (hK _ _ ?_); clear hK K') | refine AOps.e (EStep.boxW rfl rfl rfl rfl rfl True.intro rfl rfl ?_) | refine AOps.e (EStep.storeW tabOk rfl rfl rfl True.intro rfl rfl True.intro rfl rfl rfl rfl rfl rfl rfl ?_) | refine AOps.e (EStep.allocW tabOk rfl rfl rfl rfl rfl rfl ?_) | (refine AWP.condW rfl True.intro (fun hc => ?_) (fun hc => ?_) <;> (first | (simp only [decide_eq_true_eq] at hc) | (simp only [decide_eq_false_iff_not, Int.not_lt, Int.not_le] at hc) | skip)) | refine AWP.block ?_ | refine AWP.exit ?_ | refine AWP.skip ?_ | refine AWP.ret ?_ | refine AWP.drawK2 (by decide +kernel) (by kernel_rfl) (by decide +kernel) rfl (fun K' hK => ?_) | refine AWP.drawL2 (by kernel_rfl) (by decide +kernel) rfl (fun K' hK => ?_) | (refine AQ.nil (hK _ ?_); clear hK K') | refine AQ.nil ?_ | refine AQ.q rfl rfl (fun hg => by first | exact std0 | exact PRun.callW (within_spec _ _ _) rfl rfl nd rfl nds | exact PRun.callW (isName_spec l.name hn) rfl rfl nd rfl nds | exact std1) (by exact rfl) ?_)
  exact ⟨.inr rfl, fun _ _ h => h⟩

structure Wf (e : Edition) : Prop where
  bars : e.bars.length ≤ 9223372036854775807
  letters : e.letters.length ≤ 9223372036854775807
  names : ∀ x ∈ e.letters, x.name.size ≤ 9223372036854775807

def formed' (e : Edition) : Bool := !decide (findI badBar e.bars ≥ 0) && !decide (findI (badLet e) e.letters ≥ 0) && ((lettersAL e.letters).length : Int) == (e.letters.length : Int)

theorem formed_spec (e : Edition) (hw : Wf e) : PCall Tryd.prog 40 [.agg (encE e)] (.b (headOk e && formed' e)) := by
  refine PCall.body Tryd.func40 rfl rfl Tryd.ntmps40 rfl rfl ?_
  have hbar : ∀ x ∈ e.bars, FnCall Tryd.prog (.fn (.func 80) [] []) [.agg (encP x)] (.b (badBar x)) := fun x _ => ⟨80, [], [], rfl, badBar_spec x⟩
  have hlet : ∀ x ∈ e.letters, FnCall Tryd.prog (.fn (.func 81) [] [.iptr (encE e)]) [.agg (encL x)] (.b (badLet e x)) := fun x hx => ⟨81, [], [.iptr (encE e)], rfl, badLet_spec e x (hw.names x hx) hw.bars⟩
  repeat' (first | refine AOps.q rfl rfl rfl (fun hg => by first | exact std0 | exact PRun.callW (within_spec _ _ _) rfl rfl nd rfl nds | exact PRun.callW (anyP_spec e.bars (.fn (.func 80) [] []) badBar hbar hw.bars) rfl rfl nd rfl nds | exact PRun.callBW (anyL_spec e.letters (.fn (.func 81) [] [.iptr (encE e)]) (badLet e) hlet hw.letters) rfl rfl nd rfl rfl nds | exact PRun.callW (letters_spec e hw.letters) rfl rfl nd rfl nds | exact PRun.lenMap rfl (Rd.w rfl nd) (Or.inl rfl) (LOk.of (tabOk.get rfl)) | exact std1) (by exact rfl) ?_ | refine AWP.seq ?_ | refine AWP.regionK (fun K' hK => ?_) | (refine AOps.nil (hK _ _ ?_); clear hK K') | refine AOps.e (EStep.boxW rfl rfl rfl rfl rfl True.intro rfl rfl ?_) | refine AOps.e (EStep.storeW tabOk rfl rfl rfl True.intro rfl rfl True.intro rfl rfl rfl rfl rfl rfl rfl ?_) | refine AOps.e (EStep.allocW tabOk rfl rfl rfl rfl rfl rfl ?_) | (refine AWP.condW rfl True.intro (fun hc => ?_) (fun hc => ?_) <;> (first | (simp only [decide_eq_true_eq] at hc) | (simp only [decide_eq_false_iff_not, Int.not_lt, Int.not_le] at hc) | skip)) | refine AWP.block ?_ | refine AWP.exit ?_ | refine AWP.skip ?_ | refine AWP.ret ?_ | refine AWP.drawK2 (by decide +kernel) (by kernel_rfl) (by decide +kernel) rfl (fun K' hK => ?_) | refine AWP.drawL2 (by kernel_rfl) (by decide +kernel) rfl (fun K' hK => ?_) | (refine AQ.nil (hK _ ?_); clear hK K') | refine AQ.nil ?_ | refine AQ.q rfl rfl (fun hg => by first | exact std0 | exact PRun.callW (within_spec _ _ _) rfl rfl nd rfl nds | exact PRun.callW (anyP_spec e.bars (.fn (.func 80) [] []) badBar hbar hw.bars) rfl rfl nd rfl nds | exact PRun.callBW (anyL_spec e.letters (.fn (.func 81) [] [.iptr (encE e)]) (badLet e) hlet hw.letters) rfl rfl nd rfl rfl nds | exact PRun.callW (letters_spec e hw.letters) rfl rfl nd rfl nds | exact PRun.lenMap rfl (Rd.w rfl nd) (Or.inl rfl) (LOk.of (tabOk.get rfl)) | exact std1) (by exact rfl) ?_)
  · have : headOk e = false := by simp [headOk, inB] at hc ⊢; omega
    refine ⟨.inr rfl, ?_⟩
    rw [this]; exact fun _ _ h => h
  · have : headOk e = true := by simp [headOk, inB] at hc ⊢; omega
    refine ⟨.inr rfl, ?_⟩
    rw [this]; exact fun _ _ h => h

/-! ### The two ways of saying 'well-formed' are one -/
theorem findI_any {α : Type} [Inhabited α] (p : α → Bool) (l : List α) : (!decide (findI p l ≥ 0)) = l.all fun x => !p x := by
  rw [Bool.eq_iff_iff]
  simp only [Bool.not_eq_true', decide_eq_false_iff_not, List.all_eq_true]
  constructor
  · intro h x hx
    cases hpx : p x with
    | false => rfl
    | true =>
      exfalso; apply h
      unfold findI
      cases hf : l.findIdx? p with
      | none => rw [List.findIdx?_eq_none_iff] at hf; have := hf x hx; rw [hpx] at this; cases this
      | some i => simp
  · intro h h2
    obtain ⟨k, _, hk, hpk, _⟩ := findI_lt h2
    have := h _ (getD_mem hk)
    rw [hpk] at this; cases this

theorem ins_keys {κ α : Type} [DecidableEq κ] (al : List (κ × α)) (k : κ) (v : α) : (ins al k v).map (·.1) = if k ∈ al.map (·.1) then al.map (·.1) else al.map (·.1) ++ [k] := by
  induction al with
  | nil => simp [ins]
  | cons p r ih =>
    obtain ⟨k', v'⟩ := p
    simp only [ins]
    by_cases h : k' = k
    · subst h; simp
    · rw [if_neg h]
      simp only [List.map_cons, ih, List.mem_cons]
      have h' : ¬ k = k' := fun e => h e.symm
      by_cases h2 : k ∈ r.map (·.1)
      · simp [h2]
      · simp [h2, h']

theorem fold_len (l : List Letter) : ∀ (acc : List (ByteArray × Int)), (l.foldl (fun al x => ins al x.name x.pos) acc).length ≤ acc.length + l.length ∧
    ((l.foldl (fun al x => ins al x.name x.pos) acc).length = acc.length + l.length ↔ (l.map (·.name)).Nodup ∧ ∀ x ∈ l, x.name ∉ acc.map (·.1)) := by
  induction l with
  | nil => intro acc; simp
  | cons x r ih =>
    intro acc
    simp only [List.foldl_cons, List.length_cons]
    obtain ⟨h1, h2⟩ := ih (ins acc x.name x.pos)
    have hk := ins_keys acc x.name x.pos
    by_cases hx : x.name ∈ acc.map (·.1)
    · rw [if_pos hx] at hk
      have hlen : (ins acc x.name x.pos).length = acc.length := by have := congrArg List.length hk; simpa using this
      rw [hlen] at h1
      refine ⟨by omega, ⟨fun h => by omega, fun h => absurd hx (h.2 x (List.mem_cons_self ..))⟩⟩
    · rw [if_neg hx] at hk
      have hlen : (ins acc x.name x.pos).length = acc.length + 1 := by have := congrArg List.length hk; simpa using this
      rw [hlen] at h1 h2
      refine ⟨by omega, ?_⟩
      rw [show acc.length + (r.length + 1) = acc.length + 1 + r.length by omega, h2, hk]
      simp only [List.map_cons, List.nodup_cons, List.mem_append, List.mem_singleton, not_or, List.mem_cons]
      constructor
      · rintro ⟨h3, h4⟩
        refine ⟨⟨fun hm => ?_, h3⟩, fun y hy => ?_⟩
        · obtain ⟨y, hy, he⟩ := List.mem_map.1 hm
          exact (h4 y hy).2.1 he
        · rcases hy with rfl | hy
          · exact hx
          · exact (h4 y hy).1
      · rintro ⟨⟨h3, h4⟩, h5⟩
        exact ⟨h4, fun y hy => ⟨h5 y (.inr hy), fun he => h3 (List.mem_map.2 ⟨y, hy, he⟩), by simp⟩⟩

theorem nodup_iff (l : List Letter) : ((lettersAL l).length : Int) = (l.length : Int) ↔ ∀ i, i < l.length → letterI l (l.getD i default).name = i := by
  have h := (fold_len l []).2
  simp only [List.length_nil, Nat.zero_add] at h
  have e : ((lettersAL l).length : Int) = (l.length : Int) ↔ (lettersAL l).length = l.length := by omega
  rw [e]
  unfold lettersAL
  rw [h]
  simp only [List.map_nil, List.not_mem_nil, not_false_eq_true, implies_true, and_true]
  constructor
  · intro hn i hi
    refine findI_at hi (by simp) fun j hj => ?_
    cases hb : (l.getD j default).name.toList == (l.getD i default).name.toList with
    | false => rfl
    | true =>
      exfalso
      have he := bytes_toList hb
      have hj' : j < l.length := by omega
      rw [getD_lt hj', getD_lt hi] at he
      rw [List.nodup_iff_pairwise_ne, List.pairwise_iff_getElem] at hn
      exact hn j i (by simpa using hj') (by simpa using hi) hj (by simpa using he)
  · intro hall
    rw [List.nodup_iff_pairwise_ne, List.pairwise_iff_getElem]
    intro i j hi hj hij he
    simp at hi hj he
    have h1 := hall j hj
    obtain ⟨k, hk1, hk2, hk3, hk4⟩ := findI_lt (p := fun x : Letter => x.name.toList == (l.getD j default).name.toList) (l := l) (by show 0 ≤ letterI l _; rw [h1]; omega)
    have h2 : (k : Int) = j := by rw [← hk1]; exact h1
    have h3 := hk4 i (by omega)
    rw [getD_lt hi, getD_lt hj, he] at h3
    simp at h3

theorem formed_eq (e : Edition) : (headOk e && formed' e) = formB e := by
  unfold formB formed'
  rw [findI_any, findI_any, Bool.and_assoc (headOk e)]
  congr 1
  have e1 : (e.bars.all fun x => !badBar x) = e.bars.all barOk := by
    congr 1; funext x; unfold badBar barOk
    cases inB x.number 0 100000 <;> cases inB x.bar 1 1000000 <;> cases inB x.pass 0 9 <;> rfl
  rw [e1, Bool.and_assoc]
  congr 1
  rw [Bool.eq_iff_iff]
  simp only [Bool.and_eq_true, List.all_eq_true, List.mem_range, beq_iff_eq, nodup_iff]
  constructor
  · rintro ⟨h1, h2⟩ i hi
    have := h1 _ (getD_mem hi)
    unfold badLet at this
    unfold letOk
    rw [h2 i hi]
    revert this
    cases nameB (e.letters.getD i default).name <;> cases inB (e.letters.getD i default).pos 0 (↑e.bars.length - 1) <;> simp
  · intro h
    refine ⟨fun x hx => ?_, fun i hi => ?_⟩
    · obtain ⟨i, hi, rfl⟩ := List.mem_iff_getElem.1 hx
      have := h i hi
      rw [← getD_lt hi]
      unfold letOk at this
      unfold badLet
      revert this
      cases nameB (e.letters.getD i default).name <;> cases inB (e.letters.getD i default).pos 0 (↑e.bars.length - 1) <;> simp
    · have := h i hi
      unfold letOk at this
      simp only [Bool.and_eq_true, beq_iff_eq] at this
      exact this.2

theorem formed_form (e : Edition) (hw : Wf e) : PCall Tryd.prog 40 [.agg (encE e)] (.b (formB e)) := formed_eq e ▸ formed_spec e hw
end Go.Proofs.YtnmdmmfdnnmdfaaDoor.Ed
