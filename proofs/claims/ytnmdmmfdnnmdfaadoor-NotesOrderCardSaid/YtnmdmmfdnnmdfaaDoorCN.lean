/- Contracts by content: score.areParts. No statement is proved here. -/
import Derived.Test.YtnmdmmfdnnmdfaaDoorCM
import Derived.Test.YtnmdmmfdnnmdfaaDoorM6
set_option linter.unusedVariables false
set_option linter.unusedSimpArgs false
namespace Go.Proofs.YtnmdmmfdnnmdfaaDoor
open Go.Ab
attribute [local irreducible] AWP AOps EStep AQ PStep PRun PCall TCall VCall

abbrev evP (p : Part) : AV := .agg (encP p)
/-- A part that doubles one that is not there, or that doubles itself another one. -/
def lost (al : List (Int × Part)) (p : Part) : Bool := p.of_ != 0 && (!(lk al p.of_).isSome || ((lk al p.of_).getD default).of_ != 0)
theorem lost_spec (al : List (Int × Part)) (x : Part) : PCall Tryd.prog 111 [.agg (encP x), .iptr [.imap (encM ekI evP al)]] (.b (lost al x)) := by
  refine PCall.body Tryd.func111 rfl rfl Tryd.ntmps111 rfl rfl ?_
  repeat' (first | refine AOps.q rfl rfl rfl (fun hg => by first | exact std0 | exact PRun.lookup (ek := ekI) (ev := evP) (zv := (default : Part)) (keyLaw_int (LOk.of (tabOk.get rfl))) (LOk.of (tabOk.get rfl)) (LOk.of (tabOk.get rfl)) rfl rfl (Rd.w rfl nd) (Or.inl rfl) (Rd.w rfl nd) rfl | exact std1) (by exact rfl) ?_ | refine AWP.seq ?_ | refine AWP.regionK (fun K' hK => ?_) | (refine AOps.nil (hK _ _ ?_); clear hK K') | refine AOps.e (EStep.boxW rfl rfl rfl rfl rfl True.intro rfl rfl ?_) | refine AOps.e (EStep.storeW tabOk rfl rfl rfl True.intro rfl rfl True.intro rfl rfl rfl rfl rfl rfl rfl ?_) | refine AOps.e (EStep.allocW tabOk rfl rfl rfl rfl rfl rfl ?_) | (refine AWP.condW rfl True.intro (fun hc => ?_) (fun hc => ?_) <;> (first | (simp only [decide_eq_true_eq] at hc) | (simp only [decide_eq_false_iff_not, Int.not_lt, Int.not_le] at hc) | skip)) | refine AWP.block ?_ | refine AWP.exit ?_ | refine AWP.skip ?_ | refine AWP.ret ?_ | refine AWP.drawK2 (by decide +kernel) (by kernel_rfl) (by decide +kernel) rfl (fun K' hK => ?_) | refine AWP.drawL2 (by kernel_rfl) (by decide +kernel) rfl (fun K' hK => ?_) | (refine AQ.nil (hK _ ?_); clear hK K') | refine AQ.nil ?_ | refine AQ.q rfl rfl (fun hg => by first | exact std0 | exact PRun.lookup (ek := ekI) (ev := evP) (zv := (default : Part)) (keyLaw_int (LOk.of (tabOk.get rfl))) (LOk.of (tabOk.get rfl)) (LOk.of (tabOk.get rfl)) rfl rfl (Rd.w rfl nd) (Or.inl rfl) (Rd.w rfl nd) rfl | exact std1) (by exact rfl) ?_)
  exact ⟨.inr rfl, Ent.b rfl⟩
def partsAL (l : List Part) : List (Int × Part) := l.foldl (fun al p => ins al p.id p) []
theorem partsAL_succ (l : List Part) (k : Nat) (h : k < l.length) : partsAL (l.take (k + 1)) = ins (partsAL (l.take k)) (l.getD k default).id (l.getD k default) := by
  have e : l.take (k + 1) = l.take k ++ [l.getD k default] := by
    rw [List.take_add_one, show l[k]? = some (l.getD k default) by simp [List.getD, h]]; rfl
  rw [e]; unfold partsAL; rw [List.foldl_append]; rfl
def partsOk (l : List Part) : Bool := inB l.length 1 60 && l.all partOk && (((partsAL l).length : Int) == (l.length : Int) && !decide (findI (lost (partsAL l)) l ≥ 0))
theorem areParts_spec (l : List Part) (hl : l.length ≤ 9223372036854775807) : PCall Tryd.prog 78 [.sl 13 (l.map encP) .no] (.b (partsOk l)) := by
  have hf : ∀ x : Part, FnCall Tryd.prog (.fn (.func 111) [] [.iptr [.imap (encM ekI evP (partsAL l))]]) [.agg (encP x)] (.b (lost (partsAL l) x)) := fun x => ⟨_, [], _, rfl, lost_spec (partsAL l) x⟩
  have h := contPart_spec l _ (lost (partsAL l)) (fun x _ => hf x) hl
  refine PCall.body Tryd.func78 rfl rfl Tryd.ntmps78 rfl rfl ?_
  repeat' (first | refine AOps.q rfl rfl rfl (fun hg => by first | exact std0 | exact PRun.callW (swithin_spec _ _ _) rfl rfl nd rfl nds | exact std1) (by exact rfl) ?_ | refine AWP.seq ?_ | refine AWP.regionK (fun K' hK => ?_) | (refine AOps.nil (hK _ _ ?_); clear hK K') | refine AOps.e (EStep.boxW rfl rfl rfl rfl rfl True.intro rfl rfl ?_) | refine AOps.e (EStep.storeW tabOk rfl rfl rfl True.intro rfl rfl True.intro rfl rfl rfl rfl rfl rfl rfl ?_) | refine AOps.e (EStep.allocW tabOk rfl rfl rfl rfl rfl rfl ?_) | refine AOps.e (EStep.makeMapW rfl rfl rfl rfl ?_) | (refine AWP.condW rfl True.intro (fun hc => ?_) (fun hc => ?_) <;> (first | (simp only [decide_eq_true_eq] at hc) | (simp only [decide_eq_false_iff_not, Int.not_lt, Int.not_le] at hc) | skip)) | refine AWP.block ?_ | refine AWP.exit ?_ | refine AWP.skip ?_ | refine AWP.ret ?_ | refine AWP.drawK2 (by decide +kernel) (by kernel_rfl) (by decide +kernel) rfl (fun K' hK => ?_) | refine AWP.drawL2 (by kernel_rfl) (by decide +kernel) rfl (fun K' hK => ?_) | (refine AQ.nil (hK _ ?_); clear hK K') | refine AQ.nil ?_ | refine AQ.q rfl rfl (fun hg => by first | exact std0 | exact PRun.callW (swithin_spec _ _ _) rfl rfl nd rfl nds | exact std1) (by exact rfl) ?_)
  · refine ⟨.inr rfl, Ent.b (Eq.symm ?_)⟩
    unfold partsOk
    rw [show inB (l.length : Int) 1 60 = false by simpa using hc]; rfl
  have h0 : inB (l.length : Int) 1 60 = true := by simpa using hc
  clear hc
  refine AWP.loopD (ι := Nat) (fun k => [(0, .sl 13 (l.map encP) .no), (3, .ptr 1 0), (12, .sl 13 (l.map encP) .no), (13, .int l.length), (14, .int k)]) (fun k => [.map (encM ekI evP (partsAL (l.take k))), .var [.map 0]])
    (fun k => k ≤ l.length ∧ ∀ j, j < k → partOk (l.getD j default) = true) (fun k => l.length - k) 2 (fun _ => rfl) 0 ⟨Nat.zero_le _, fun j h => absurd h (by omega)⟩ ⟨rfl, rfl, rfl, rfl, rfl, True.intro⟩ rfl (fun _ _ => rfl) (fun k _ => by simp [okObj, encM, okRef, encP]) ?_
  rintro k ⟨hk, hall⟩
  by_cases hlt : k < l.length
  · repeat' (first | refine AOps.q rfl rfl rfl (fun hg => by first | exact std0 | exact PRun.callW (isPart_spec (l.getD k default)) rfl rfl nd rfl nds | exact std1) (by exact rfl) ?_ | refine AWP.seq ?_ | refine AWP.regionK (fun K' hK => ?_) | (refine AOps.nil (hK _ _ ?_); clear hK K') | refine AOps.e (EStep.boxW rfl rfl rfl rfl rfl True.intro rfl rfl ?_) | refine AOps.e (EStep.storeW tabOk rfl rfl rfl True.intro rfl rfl True.intro rfl rfl rfl rfl rfl rfl rfl ?_) | refine AOps.e (EStep.allocW tabOk rfl rfl rfl rfl rfl rfl ?_) | refine AOps.e (EStep.mapUpd (ek := ekI) (ev := evP) (v := l.getD k default) (keyLaw_int (LOk.of (tabOk.get rfl))) (LOk.of (tabOk.get rfl)) rfl rfl rfl (Rd.w rfl True.intro) rfl (Rd.w rfl True.intro) rfl (Rd.w rfl True.intro) ?_) | (refine AWP.condW rfl True.intro (fun hc => ?_) (fun hc => ?_) <;> (first | (simp only [decide_eq_true_eq] at hc) | (simp only [decide_eq_false_iff_not, Int.not_lt, Int.not_le] at hc) | skip)) | refine AWP.block ?_ | refine AWP.exit ?_ | refine AWP.skip ?_ | refine AWP.ret ?_ | refine AWP.drawK2 (by decide +kernel) (by kernel_rfl) (by decide +kernel) rfl (fun K' hK => ?_) | refine AWP.drawL2 (by kernel_rfl) (by decide +kernel) rfl (fun K' hK => ?_) | (refine AQ.nil (hK _ ?_); clear hK K') | refine AQ.nil ?_ | refine AQ.q rfl rfl (fun hg => by first | exact std0 | exact PRun.callW (isPart_spec (l.getD k default)) rfl rfl nd rfl nds | exact std1) (by exact rfl) ?_)
    · refine ⟨.inr rfl, Ent.b (Eq.symm ?_)⟩
      unfold partsOk
      rw [h0, all_no hlt (by simpa using hc)]; rfl
    · refine ⟨k + 1, ⟨by omega, fun j hj => lt_succ_cases hall (by simpa using hc) hj⟩, by omega, ⟨rfl, rfl, rfl, rfl, rfl, True.intro⟩, ?_⟩
      rw [partsAL_succ l k hlt]; rfl
    · exfalso; omega
  · have htk : l.take k = l := List.take_of_length_le (by omega)
    have e : partsAL l = partsAL (l.take k) := by rw [htk]
    rw [e] at h
    refine AWP.freezeMapV (ek := ekI) (ev := evP) (l := 0) (al := partsAL (l.take k)) rfl (pureE_flat fun _ => rfl) ?_
    refine AWP.keep [(0, .sl 13 (l.map encP) .no), (3, .ptr 1 0), (12, .sl 13 (l.map encP) .no), (13, .int l.length), (14, .int k)] ⟨rfl, rfl, rfl, rfl, rfl, True.intro⟩ ?_
    repeat' (first | refine AOps.q rfl rfl rfl (fun hg => by first | exact std0 | exact PRun.callBW (h) rfl rfl nd rfl rfl nds | exact PRun.lenMap (ek := ekI) (ev := evP) (al := partsAL (l.take k)) rfl (Rd.w rfl nd) (Or.inl rfl) (LOk.of (tabOk.get rfl)) | exact std1) (by exact rfl) ?_ | refine AWP.seq ?_ | refine AWP.regionK (fun K' hK => ?_) | (refine AOps.nil (hK _ _ ?_); clear hK K') | refine AOps.e (EStep.boxW rfl rfl rfl rfl rfl True.intro rfl rfl ?_) | refine AOps.e (EStep.storeW tabOk rfl rfl rfl True.intro rfl rfl True.intro rfl rfl rfl rfl rfl rfl rfl ?_) | refine AOps.e (EStep.allocW tabOk rfl rfl rfl rfl rfl rfl ?_) | (refine AWP.condW rfl True.intro (fun hc => ?_) (fun hc => ?_) <;> (first | (simp only [decide_eq_true_eq] at hc) | (simp only [decide_eq_false_iff_not, Int.not_lt, Int.not_le] at hc) | skip)) | refine AWP.block ?_ | refine AWP.exit ?_ | refine AWP.skip ?_ | refine AWP.ret ?_ | refine AWP.drawK2 (by decide +kernel) (by kernel_rfl) (by decide +kernel) rfl (fun K' hK => ?_) | refine AWP.drawL2 (by kernel_rfl) (by decide +kernel) rfl (fun K' hK => ?_) | (refine AQ.nil (hK _ ?_); clear hK K') | refine AQ.nil ?_ | refine AQ.q rfl rfl (fun hg => by first | exact std0 | exact PRun.callBW (h) rfl rfl nd rfl rfl nds | exact PRun.lenMap (ek := ekI) (ev := evP) (al := partsAL (l.take k)) rfl (Rd.w rfl nd) (Or.inl rfl) (LOk.of (tabOk.get rfl)) | exact std1) (by exact rfl) ?_)
    · exfalso; omega
    all_goals (first | (exfalso; omega) | skip)
    refine ⟨.inr rfl, Ent.b (Eq.symm ?_)⟩
    unfold partsOk
    rw [h0, all_yes fun j hj => hall j (by omega), e]; rfl
end Go.Proofs.YtnmdmmfdnnmdfaaDoor
