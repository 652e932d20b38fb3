/- Contracts by content: score.wrong. No statement is proved here. -/
import Derived.Test.YtnmdmmfdnnmdfaaDoorCN
set_option linter.unusedVariables false
set_option linter.unusedSimpArgs false
namespace Go.Proofs.YtnmdmmfdnnmdfaaDoor
open Go.Ab
attribute [local irreducible] AWP AOps EStep AQ PStep PRun PCall TCall VCall

def stranger (al : List (Int × Part)) (n : Note) : Bool := !(lk al n.part).isSome
def farN (al : List (Int × Part)) (n : Note) : Bool := !inB (numR2 n.pitch).1 (numR2 ((lk al n.part).getD default).low).1 (numR2 ((lk al n.part).getD default).high).1
theorem stranger_spec (al : List (Int × Part)) (x : Note) : PCall Tryd.prog 85 [.agg (encN x), .iptr [.imap (encM ekI evP al)]] (.b (stranger al x)) := by
  refine PCall.body Tryd.func85 rfl rfl Tryd.ntmps85 rfl rfl ?_
  repeat' (first | refine AOps.q rfl rfl rfl (fun hg => by first | exact std0 | exact PRun.lookup (ek := ekI) (ev := evP) (zv := (default : Part)) (keyLaw_int (LOk.of (tabOk.get rfl))) (LOk.of (tabOk.get rfl)) (LOk.of (tabOk.get rfl)) rfl rfl (Rd.w rfl nd) (Or.inl rfl) (Rd.w rfl nd) rfl | exact std1) (by exact rfl) ?_ | refine AWP.seq ?_ | refine AWP.regionK (fun K' hK => ?_) | (refine AOps.nil (hK _ _ ?_); clear hK K') | refine AOps.e (EStep.boxW rfl rfl rfl rfl rfl True.intro rfl rfl ?_) | refine AOps.e (EStep.storeW tabOk rfl rfl rfl True.intro rfl rfl True.intro rfl rfl rfl rfl rfl rfl rfl ?_) | refine AOps.e (EStep.allocW tabOk rfl rfl rfl rfl rfl rfl ?_) | (refine AWP.condW rfl True.intro (fun hc => ?_) (fun hc => ?_) <;> (first | (simp only [decide_eq_true_eq] at hc) | (simp only [decide_eq_false_iff_not, Int.not_lt, Int.not_le] at hc) | skip)) | refine AWP.block ?_ | refine AWP.exit ?_ | refine AWP.skip ?_ | refine AWP.ret ?_ | refine AWP.drawK2 (by decide +kernel) (by kernel_rfl) (by decide +kernel) rfl (fun K' hK => ?_) | refine AWP.drawL2 (by kernel_rfl) (by decide +kernel) rfl (fun K' hK => ?_) | (refine AQ.nil (hK _ ?_); clear hK K') | refine AQ.nil ?_ | refine AQ.q rfl rfl (fun hg => by first | exact std0 | exact PRun.lookup (ek := ekI) (ev := evP) (zv := (default : Part)) (keyLaw_int (LOk.of (tabOk.get rfl))) (LOk.of (tabOk.get rfl)) (LOk.of (tabOk.get rfl)) rfl rfl (Rd.w rfl nd) (Or.inl rfl) (Rd.w rfl nd) rfl | exact std1) (by exact rfl) ?_)
  exact ⟨.inr rfl, Ent.b rfl⟩
theorem farN_spec (al : List (Int × Part)) (x : Note) : PCall Tryd.prog 86 [.agg (encN x), .iptr [.imap (encM ekI evP al)]] (.b (farN al x)) := by
  refine PCall.body Tryd.func86 rfl rfl Tryd.ntmps86 rfl rfl ?_
  repeat' (first | refine AOps.q rfl rfl rfl (fun hg => by first | exact std0 | exact PRun.lookup (ek := ekI) (ev := evP) (zv := (default : Part)) (keyLaw_int (LOk.of (tabOk.get rfl))) (LOk.of (tabOk.get rfl)) (LOk.of (tabOk.get rfl)) rfl rfl (Rd.w rfl nd) (Or.inl rfl) (Rd.w rfl nd) rfl | exact PRun.callW (height_spec x.pitch) rfl rfl nd rfl nds | exact PRun.callW (height_spec ((lk al x.part).getD default).low) rfl rfl nd rfl nds | exact PRun.callW (height_spec ((lk al x.part).getD default).high) rfl rfl nd rfl nds | exact PRun.callW (swithin_spec _ _ _) rfl rfl nd rfl nds | exact std1) (by exact rfl) ?_ | refine AWP.seq ?_ | refine AWP.regionK (fun K' hK => ?_) | (refine AOps.nil (hK _ _ ?_); clear hK K') | refine AOps.e (EStep.boxW rfl rfl rfl rfl rfl True.intro rfl rfl ?_) | refine AOps.e (EStep.storeW tabOk rfl rfl rfl True.intro rfl rfl True.intro rfl rfl rfl rfl rfl rfl rfl ?_) | refine AOps.e (EStep.allocW tabOk rfl rfl rfl rfl rfl rfl ?_) | (refine AWP.condW rfl True.intro (fun hc => ?_) (fun hc => ?_) <;> (first | (simp only [decide_eq_true_eq] at hc) | (simp only [decide_eq_false_iff_not, Int.not_lt, Int.not_le] at hc) | skip)) | refine AWP.block ?_ | refine AWP.exit ?_ | refine AWP.skip ?_ | refine AWP.ret ?_ | refine AWP.drawK2 (by decide +kernel) (by kernel_rfl) (by decide +kernel) rfl (fun K' hK => ?_) | refine AWP.drawL2 (by kernel_rfl) (by decide +kernel) rfl (fun K' hK => ?_) | (refine AQ.nil (hK _ ?_); clear hK K') | refine AQ.nil ?_ | refine AQ.q rfl rfl (fun hg => by first | exact std0 | exact PRun.lookup (ek := ekI) (ev := evP) (zv := (default : Part)) (keyLaw_int (LOk.of (tabOk.get rfl))) (LOk.of (tabOk.get rfl)) (LOk.of (tabOk.get rfl)) rfl rfl (Rd.w rfl nd) (Or.inl rfl) (Rd.w rfl nd) rfl | exact PRun.callW (height_spec x.pitch) rfl rfl nd rfl nds | exact PRun.callW (height_spec ((lk al x.part).getD default).low) rfl rfl nd rfl nds | exact PRun.callW (height_spec ((lk al x.part).getD default).high) rfl rfl nd rfl nds | exact PRun.callW (swithin_spec _ _ _) rfl rfl nd rfl nds | exact std1) (by exact rfl) ?_)
  exact ⟨.inr rfl, Ent.b rfl⟩
/-- The parts with their own notes. -/
def ownAL (l : List Part) : List (Int × Part) := partsAL (l.filter fun p => p.of_ == 0)
theorem ownAL_succ (l : List Part) (k : Nat) (h : k < l.length) : ownAL (l.take (k + 1)) = if (l.getD k default).of_ == 0 then ins (ownAL (l.take k)) (l.getD k default).id (l.getD k default) else ownAL (l.take k) := by
  have e : l.take (k + 1) = l.take k ++ [l.getD k default] := by
    rw [List.take_add_one, show l[k]? = some (l.getD k default) by simp [List.getD, h]]; rfl
  unfold ownAL
  rw [e, List.filter_append]
  by_cases h2 : ((l.getD k default).of_ == 0) = true
  · rw [if_pos h2, List.filter_cons_of_pos (p := fun p : Part => p.of_ == 0) h2]
    unfold partsAL; rw [List.filter_nil, List.foldl_append]; rfl
  · rw [if_neg h2, List.filter_cons_of_neg (p := fun p : Part => p.of_ == 0) h2, List.filter_nil, List.append_nil]
def wrongR (parts : List Part) (l : List Note) : Int := if findI (stranger (ownAL parts)) l ≥ 0 then 22 else if findI (farN (ownAL parts)) l ≥ 0 then 20 else 0
theorem wrong_spec (parts : List Part) (l : List Note) (hp : parts.length ≤ 9223372036854775807) (hl : l.length ≤ 9223372036854775807) : PCall Tryd.prog 44 [.sl 13 (parts.map encP) .no, .sl 12 (l.map encN) .no] (.int (wrongR parts l)) := by
  have hf1 : ∀ x : Note, FnCall Tryd.prog (.fn (.func 85) [] [.iptr [.imap (encM ekI evP (ownAL parts))]]) [.agg (encN x)] (.b (stranger (ownAL parts) x)) := fun x => ⟨_, [], _, rfl, stranger_spec (ownAL parts) x⟩
  have hf2 : ∀ x : Note, FnCall Tryd.prog (.fn (.func 86) [] [.iptr [.imap (encM ekI evP (ownAL parts))]]) [.agg (encN x)] (.b (farN (ownAL parts) x)) := fun x => ⟨_, [], _, rfl, farN_spec (ownAL parts) x⟩
  have h1 := contNote_spec l _ (stranger (ownAL parts)) (fun x _ => hf1 x) hl
  have h2 := contNote_spec l _ (farN (ownAL parts)) (fun x _ => hf2 x) hl
  refine PCall.body Tryd.func44 rfl rfl Tryd.ntmps44 rfl rfl ?_
  repeat' (first | refine AOps.q rfl rfl rfl (fun hg => by first | exact std0 | exact std1) (by exact rfl) ?_ | refine AWP.seq ?_ | refine AWP.regionK (fun K' hK => ?_) | (refine AOps.nil (hK _ _ ?_); clear hK K') | refine AOps.e (EStep.boxW rfl rfl rfl rfl rfl True.intro rfl rfl ?_) | refine AOps.e (EStep.storeW tabOk rfl rfl rfl True.intro rfl rfl True.intro rfl rfl rfl rfl rfl rfl rfl ?_) | refine AOps.e (EStep.allocW tabOk rfl rfl rfl rfl rfl rfl ?_) | refine AOps.e (EStep.makeMapW rfl rfl rfl rfl ?_) | (refine AWP.condW rfl True.intro (fun hc => ?_) (fun hc => ?_) <;> (first | (simp only [decide_eq_true_eq] at hc) | (simp only [decide_eq_false_iff_not, Int.not_lt, Int.not_le] at hc) | skip)) | refine AWP.block ?_ | refine AWP.exit ?_ | refine AWP.skip ?_ | refine AWP.ret ?_ | refine AWP.drawK2 (by decide +kernel) (by kernel_rfl) (by decide +kernel) rfl (fun K' hK => ?_) | refine AWP.drawL2 (by kernel_rfl) (by decide +kernel) rfl (fun K' hK => ?_) | (refine AQ.nil (hK _ ?_); clear hK K') | refine AQ.nil ?_ | refine AQ.q rfl rfl (fun hg => by first | exact std0 | exact std1) (by exact rfl) ?_)
  refine AWP.loopD (ι := Nat) (fun k => [(1, .sl 12 (l.map encN) .no), (5, .ptr 1 0), (11, .sl 13 (parts.map encP) .no), (12, .int parts.length), (13, .int k)]) (fun k => [.map (encM ekI evP (ownAL (parts.take k))), .var [.map 0]])
    (fun k => k ≤ parts.length) (fun k => parts.length - k) 2 (fun _ => rfl) 0 (Nat.zero_le _) ⟨rfl, rfl, rfl, rfl, rfl, True.intro⟩ rfl (fun _ _ => rfl) (fun k _ => by simp [okObj, encM, okRef, encP]) ?_
  intro k hk
  by_cases hlt : k < parts.length
  · repeat' (first | refine AOps.q rfl rfl rfl (fun hg => by first | exact std0 | exact std1) (by exact rfl) ?_ | refine AWP.seq ?_ | refine AWP.regionK (fun K' hK => ?_) | (refine AOps.nil (hK _ _ ?_); clear hK K') | refine AOps.e (EStep.boxW rfl rfl rfl rfl rfl True.intro rfl rfl ?_) | refine AOps.e (EStep.storeW tabOk rfl rfl rfl True.intro rfl rfl True.intro rfl rfl rfl rfl rfl rfl rfl ?_) | refine AOps.e (EStep.allocW tabOk rfl rfl rfl rfl rfl rfl ?_) | refine AOps.e (EStep.mapUpd (ek := ekI) (ev := evP) (v := parts.getD k default) (keyLaw_int (LOk.of (tabOk.get rfl))) (LOk.of (tabOk.get rfl)) rfl rfl rfl (Rd.w rfl True.intro) rfl (Rd.w rfl True.intro) rfl (Rd.w rfl True.intro) ?_) | (refine AWP.condW rfl True.intro (fun hc => ?_) (fun hc => ?_) <;> (first | (simp only [decide_eq_true_eq] at hc) | (simp only [decide_eq_false_iff_not, Int.not_lt, Int.not_le] at hc) | skip)) | refine AWP.block ?_ | refine AWP.exit ?_ | refine AWP.skip ?_ | refine AWP.ret ?_ | refine AWP.drawK2 (by decide +kernel) (by kernel_rfl) (by decide +kernel) rfl (fun K' hK => ?_) | refine AWP.drawL2 (by kernel_rfl) (by decide +kernel) rfl (fun K' hK => ?_) | (refine AQ.nil (hK _ ?_); clear hK K') | refine AQ.nil ?_ | refine AQ.q rfl rfl (fun hg => by first | exact std0 | exact std1) (by exact rfl) ?_)
    · refine ⟨k + 1, by omega, by omega, ⟨rfl, rfl, rfl, rfl, rfl, True.intro⟩, ?_⟩
      rw [ownAL_succ parts k hlt, if_pos (by simpa using hc)]; rfl
    · refine ⟨k + 1, by omega, by omega, ⟨rfl, rfl, rfl, rfl, rfl, True.intro⟩, ?_⟩
      rw [ownAL_succ parts k hlt, if_neg (by simpa using hc)]; rfl
    · exfalso; omega
  · have htk : parts.take k = parts := List.take_of_length_le (by omega)
    have e : ownAL parts = ownAL (parts.take k) := by rw [htk]
    rw [e] at h1 h2
    refine AWP.freezeMapV (ek := ekI) (ev := evP) (l := 0) (al := ownAL (parts.take k)) rfl (pureE_flat fun _ => rfl) ?_
    refine AWP.keep [(1, .sl 12 (l.map encN) .no), (5, .ptr 1 0), (11, .sl 13 (parts.map encP) .no), (12, .int parts.length), (13, .int k)] ⟨rfl, rfl, rfl, rfl, rfl, True.intro⟩ ?_
    repeat' (first | refine AOps.q rfl rfl rfl (fun hg => by first | exact std0 | exact PRun.callBW (h1) rfl rfl nd rfl rfl nds | exact PRun.callBW (h2) rfl rfl nd rfl rfl nds | exact std1) (by exact rfl) ?_ | refine AWP.seq ?_ | refine AWP.regionK (fun K' hK => ?_) | (refine AOps.nil (hK _ _ ?_); clear hK K') | refine AOps.e (EStep.boxW rfl rfl rfl rfl rfl True.intro rfl rfl ?_) | refine AOps.e (EStep.storeW tabOk rfl rfl rfl True.intro rfl rfl True.intro rfl rfl rfl rfl rfl rfl rfl ?_) | refine AOps.e (EStep.allocW tabOk rfl rfl rfl rfl rfl rfl ?_) | (refine AWP.condW rfl True.intro (fun hc => ?_) (fun hc => ?_) <;> (first | (simp only [decide_eq_true_eq] at hc) | (simp only [decide_eq_false_iff_not, Int.not_lt, Int.not_le] at hc) | skip)) | refine AWP.block ?_ | refine AWP.exit ?_ | refine AWP.skip ?_ | refine AWP.ret ?_ | refine AWP.drawK2 (by decide +kernel) (by kernel_rfl) (by decide +kernel) rfl (fun K' hK => ?_) | refine AWP.drawL2 (by kernel_rfl) (by decide +kernel) rfl (fun K' hK => ?_) | (refine AQ.nil (hK _ ?_); clear hK K') | refine AQ.nil ?_ | refine AQ.q rfl rfl (fun hg => by first | exact std0 | exact PRun.callBW (h1) rfl rfl nd rfl rfl nds | exact PRun.callBW (h2) rfl rfl nd rfl rfl nds | exact std1) (by exact rfl) ?_)
    all_goals (first | (exfalso; omega) | skip)
    · refine ⟨.inr rfl, Ent.int (Eq.symm ?_)⟩
      unfold wrongR; rw [e, if_pos (by simpa using hc)]
    · rename_i hc0
      refine ⟨.inr rfl, Ent.int (Eq.symm ?_)⟩
      unfold wrongR; rw [e, if_neg (by simpa using hc0), if_pos (by simpa using hc)]
    · rename_i hc0
      refine ⟨.inr rfl, Ent.int (Eq.symm ?_)⟩
      unfold wrongR; rw [e, if_neg (by simpa using hc0), if_neg (by simpa using hc)]
end Go.Proofs.YtnmdmmfdnnmdfaaDoor
