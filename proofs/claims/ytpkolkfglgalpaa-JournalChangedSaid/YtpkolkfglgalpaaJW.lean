/- Contracts by content: the marks of the program. No statement is proved here. -/
import Derived.Test.YtpkolkfglgalpaaJV
set_option linter.unusedVariables false
set_option linter.unusedSimpArgs false
namespace Go.Proofs.Ytpkolkfglgalpaa
open Go.Ab Go.Jo
attribute [local irreducible] AWP AOps EStep AQ PStep PRun PCall TCall VCall DStep TDies AWD DCall

theorem badF (r : Nat) : PCall Try.prog 72 [.prim (.int .i32 (r : Int))] (.b (badR r)) := by
  refine PCall.body Try.func72 rfl rfl Try.ntmps72 rfl rfl ?_
  repeat' (first
    | refine AOps.q rfl rfl rfl (fun hg => by first | exact std0 | exact std1) (by exact rfl) ?_
    | refine AWP.seq ?_
    | refine AWP.regionK (fun K' hK => ?_)
    | (refine AOps.nil (hK _ _ ?_); clear hK K')
    | refine AOps.e (EStep.boxW rfl rfl rfl rfl rfl True.intro rfl rfl ?_)
    | refine AOps.e (EStep.storeW tabOk rfl rfl rfl True.intro rfl rfl True.intro rfl rfl rfl rfl rfl rfl rfl ?_)
    | refine AOps.e (EStep.allocW tabOk rfl rfl rfl rfl rfl rfl ?_)
    | (refine AWP.condW rfl True.intro (fun hc => ?_) (fun hc => ?_) <;> (first | (simp only [decide_eq_true_eq] at hc) | (simp only [decide_eq_false_iff_not, Int.not_lt, Int.not_le] at hc) | skip))
    | refine AWP.block ?_
    | refine AWP.exit ?_
    | refine AWP.skip ?_
    | refine AWP.ret ?_
    | refine AWP.drawK2 (by decide +kernel) (by kernel_rfl) (by decide +kernel) rfl (fun K' hK => ?_)
    | refine AWP.drawL2 (by kernel_rfl) (by decide +kernel) rfl (fun K' hK => ?_)
    | (refine AQ.nil (hK _ ?_); clear hK K')
    | refine AQ.nil ?_
    | refine AQ.q rfl rfl (fun hg => by first | exact std0 | exact std1) (by exact rfl) ?_)
  refine ⟨.inr rfl, Ent.b ?_⟩
  unfold badR
  show (decide ((r : Int) < 32) || decide ((r : Int) > 126)) = _
  rw [Bool.eq_iff_iff]; simp; omega
def idxR (rs : List Nat) : Int := if rs.any badR then ((rs.findIdx badR : Nat) : Int) else -1
theorem index_spec (rs : List Nat) (hl : rs.length ≤ 9223372036854775807) : PCall Try.prog 87 [.sl 1 (rs.map r4) .no, .fn (.func 72) [] []] (.int (idxR rs)) := by
  refine PCall.body Try.func87 rfl rfl Try.ntmps87 rfl rfl ?_
  repeat' (first
    | refine AOps.q rfl rfl rfl (fun hg => by first | exact std0 | exact std1) (by exact rfl) ?_
    | refine AWP.seq ?_
    | refine AWP.regionK (fun K' hK => ?_)
    | (refine AOps.nil (hK _ _ ?_); clear hK K')
    | refine AOps.e (EStep.boxW rfl rfl rfl rfl rfl True.intro rfl rfl ?_)
    | refine AOps.e (EStep.storeW tabOk rfl rfl rfl True.intro rfl rfl True.intro rfl rfl rfl rfl rfl rfl rfl ?_)
    | refine AOps.e (EStep.allocW tabOk rfl rfl rfl rfl rfl rfl ?_)
    | (refine AWP.condW rfl True.intro (fun hc => ?_) (fun hc => ?_) <;> (first | (simp only [decide_eq_true_eq] at hc) | (simp only [decide_eq_false_iff_not, Int.not_lt, Int.not_le] at hc) | skip))
    | refine AWP.block ?_
    | refine AWP.exit ?_
    | refine AWP.skip ?_
    | refine AWP.ret ?_
    | refine AWP.drawK2 (by decide +kernel) (by kernel_rfl) (by decide +kernel) rfl (fun K' hK => ?_)
    | refine AWP.drawL2 (by kernel_rfl) (by decide +kernel) rfl (fun K' hK => ?_)
    | (refine AQ.nil (hK _ ?_); clear hK K')
    | refine AQ.nil ?_
    | refine AQ.q rfl rfl (fun hg => by first | exact std0 | exact std1) (by exact rfl) ?_)
  refine AWP.loopW (ι := Nat) (fun k => [(0, .sl 1 (rs.map r4) .no), (1, .fn (.func 72) [] []), (7, .int rs.length), (8, .int k)]) (fun _ => []) (fun k => k ≤ rs.length ∧ ∀ (j : Nat) (h : j < rs.length), j < k → badR rs[j] = false) (fun k => rs.length - k) 0 ⟨Nat.zero_le _, fun j _ h => absurd h (by omega)⟩ ⟨rfl, rfl, rfl, rfl, True.intro⟩ rfl ?_
  rintro k ⟨hk, hall⟩
  have hv := badF (rs.getD k default)
  by_cases hlt : k < rs.length
  · repeat' (first
      | refine AOps.q rfl rfl rfl (fun hg => by first | exact std0 | exact PRun.callW (hv) rfl rfl nd rfl nds | exact std1) (by exact rfl) ?_
      | refine AWP.seq ?_
      | refine AWP.regionK (fun K' hK => ?_)
      | (refine AOps.nil (hK _ _ ?_); clear hK K')
      | refine AOps.e (EStep.boxW rfl rfl rfl rfl rfl True.intro rfl rfl ?_)
      | refine AOps.e (EStep.storeW tabOk rfl rfl rfl True.intro rfl rfl True.intro rfl rfl rfl rfl rfl rfl rfl ?_)
      | refine AOps.e (EStep.allocW tabOk rfl rfl rfl rfl rfl rfl ?_)
      | (refine AWP.condW rfl True.intro (fun hc => ?_) (fun hc => ?_) <;> (first | (simp only [decide_eq_true_eq] at hc) | (simp only [decide_eq_false_iff_not, Int.not_lt, Int.not_le] at hc) | skip))
      | refine AWP.block ?_
      | refine AWP.exit ?_
      | refine AWP.skip ?_
      | refine AWP.ret ?_
      | refine AWP.drawK2 (by decide +kernel) (by kernel_rfl) (by decide +kernel) rfl (fun K' hK => ?_)
      | refine AWP.drawL2 (by kernel_rfl) (by decide +kernel) rfl (fun K' hK => ?_)
      | (refine AQ.nil (hK _ ?_); clear hK K')
      | refine AQ.nil ?_
      | refine AQ.q rfl rfl (fun hg => by first | exact std0 | exact PRun.callW (hv) rfl rfl nd rfl nds | exact std1) (by exact rfl) ?_)
    · refine ⟨.inr rfl, Ent.int ?_⟩
      have hc' : badR rs[k] = true := by rw [← getD_lt hlt]; exact hc
      have h1 : rs.findIdx badR = k := (List.findIdx_eq hlt).2 ⟨hc', fun j hj => hall j (by omega) hj⟩
      unfold idxR
      rw [if_pos (List.any_eq_true.2 ⟨rs[k], List.getElem_mem hlt, hc'⟩), h1]
    · have hc' : badR rs[k] = false := by rw [← getD_lt hlt]; exact hc
      refine ⟨k + 1, ⟨by omega, fun j h hj => ?_⟩, by omega, ⟨rfl, rfl, rfl, rfl, True.intro⟩, rfl⟩
      rcases Nat.lt_succ_iff_lt_or_eq.1 hj with h1 | h1
      · exact hall j h h1
      · subst h1; exact hc'
    · exfalso; omega
  · repeat' (first
      | refine AOps.q rfl rfl rfl (fun hg => by first | exact std0 | exact std1) (by exact rfl) ?_
      | refine AWP.seq ?_
      | refine AWP.regionK (fun K' hK => ?_)
      | (refine AOps.nil (hK _ _ ?_); clear hK K')
      | refine AOps.e (EStep.boxW rfl rfl rfl rfl rfl True.intro rfl rfl ?_)
      | refine AOps.e (EStep.storeW tabOk rfl rfl rfl True.intro rfl rfl True.intro rfl rfl rfl rfl rfl rfl rfl ?_)
      | refine AOps.e (EStep.allocW tabOk rfl rfl rfl rfl rfl rfl ?_)
      | (refine AWP.condW rfl True.intro (fun hc => ?_) (fun hc => ?_) <;> (first | (simp only [decide_eq_true_eq] at hc) | (simp only [decide_eq_false_iff_not, Int.not_lt, Int.not_le] at hc) | skip))
      | refine AWP.block ?_
      | refine AWP.exit ?_
      | refine AWP.skip ?_
      | refine AWP.ret ?_
      | refine AWP.drawK2 (by decide +kernel) (by kernel_rfl) (by decide +kernel) rfl (fun K' hK => ?_)
      | refine AWP.drawL2 (by kernel_rfl) (by decide +kernel) rfl (fun K' hK => ?_)
      | (refine AQ.nil (hK _ ?_); clear hK K')
      | refine AQ.nil ?_
      | refine AQ.q rfl rfl (fun hg => by first | exact std0 | exact std1) (by exact rfl) ?_)
    all_goals (first | (exfalso; omega) | skip)
    refine ⟨.inr rfl, Ent.int ?_⟩
    unfold idxR
    rw [if_neg]
    intro h
    obtain ⟨x, hx, hb⟩ := List.any_eq_true.1 h
    obtain ⟨j, hj, rfl⟩ := List.mem_iff_getElem.1 hx
    rw [hall j hj (by omega)] at hb; cases hb
theorem contains_spec (rs : List Nat) (hl : rs.length ≤ 9223372036854775807) : PCall Try.prog 75 [.sl 1 (rs.map r4) .no, .fn (.func 72) [] []] (.b (rs.any badR)) := by
  have hv := index_spec rs hl
  refine PCall.body Try.func75 rfl rfl Try.ntmps75 rfl rfl ?_
  repeat' (first
    | refine AOps.q rfl rfl rfl (fun hg => by first | exact std0 | exact PRun.callW (hv) rfl rfl nd rfl nds | exact std1) (by exact rfl) ?_
    | refine AWP.seq ?_
    | refine AWP.regionK (fun K' hK => ?_)
    | (refine AOps.nil (hK _ _ ?_); clear hK K')
    | refine AOps.e (EStep.boxW rfl rfl rfl rfl rfl True.intro rfl rfl ?_)
    | refine AOps.e (EStep.storeW tabOk rfl rfl rfl True.intro rfl rfl True.intro rfl rfl rfl rfl rfl rfl rfl ?_)
    | refine AOps.e (EStep.allocW tabOk rfl rfl rfl rfl rfl rfl ?_)
    | (refine AWP.condW rfl True.intro (fun hc => ?_) (fun hc => ?_) <;> (first | (simp only [decide_eq_true_eq] at hc) | (simp only [decide_eq_false_iff_not, Int.not_lt, Int.not_le] at hc) | skip))
    | refine AWP.block ?_
    | refine AWP.exit ?_
    | refine AWP.skip ?_
    | refine AWP.ret ?_
    | refine AWP.drawK2 (by decide +kernel) (by kernel_rfl) (by decide +kernel) rfl (fun K' hK => ?_)
    | refine AWP.drawL2 (by kernel_rfl) (by decide +kernel) rfl (fun K' hK => ?_)
    | (refine AQ.nil (hK _ ?_); clear hK K')
    | refine AQ.nil ?_
    | refine AQ.q rfl rfl (fun hg => by first | exact std0 | exact PRun.callW (hv) rfl rfl nd rfl nds | exact std1) (by exact rfl) ?_)
  refine ⟨.inr rfl, Ent.b ?_⟩
  unfold idxR
  cases rs.any badR with
  | true => rw [if_pos rfl]; simp
  | false => rfl
end Go.Proofs.Ytpkolkfglgalpaa
