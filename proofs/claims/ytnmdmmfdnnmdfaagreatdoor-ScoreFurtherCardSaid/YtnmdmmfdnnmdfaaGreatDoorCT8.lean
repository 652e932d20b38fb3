/- Contracts by content: slices.Clone of bars and parts; score.With. No statement is proved here. -/
import Derived.Test.YtnmdmmfdnnmdfaaGreatDoorCQ
set_option linter.unusedVariables false
set_option linter.unusedSimpArgs false
namespace Go.Ab
theorem Ent.agg {us vs : List AV} (hl : us.length = vs.length) (h : ∀ (i : Nat) (u v : AV), us[i]? = some u → vs[i]? = some v → Ent u v) : Ent (.agg us) (.agg vs) := fun M x hx => by
  cases hx with
  | agg _ xs h1 h2 =>
    refine .agg vs xs (by rw [h1, hl]) fun i c hi => ?_
    have hlt : i < us.length := by
      rw [hl]
      rcases Nat.lt_or_ge i vs.length with h | h
      · exact h
      · simp [List.getElem?_eq_none h] at hi
    exact h i us[i] c (List.getElem?_eq_getElem hlt) hi M _ (h2 i _ (List.getElem?_eq_getElem hlt))
end Go.Ab
namespace Go.Proofs.YtnmdmmfdnnmdfaaGreatDoor
open Go.Ab
attribute [local irreducible] AWP AOps EStep AQ PStep PRun PCall TCall VCall

theorem one_encB (l : List Bar) : ∀ x ∈ l.map encB, x.all oneAV = true := fun x hx => by
  obtain ⟨c, _, rfl⟩ := List.mem_map.1 hx; rfl
theorem one_encP (l : List Part) : ∀ x ∈ l.map encP, x.all oneAV = true := fun x hx => by
  obtain ⟨c, _, rfl⟩ := List.mem_map.1 hx; rfl
theorem pure_prims {es : List (List AV)} (h : ∀ e ∈ es, e.all pureC = true) : ∀ e ∈ es, ∀ a ∈ e, ∀ M B x, VRel M B a x → VRel M [] a x := fun e he a ha _ _ _ hx => pureC_rel (List.all_eq_true.1 (h e he) a ha) hx
theorem cloneB_spec (l : List Bar) (hl : l.length ≤ 1000000000) : PCall Tryz.prog 41 [.sl 4 (l.map encB) .no] (.sl 4 (l.map encB) .no) := by
  have hll : (l.map encB).length = l.length := by simp
  refine PCall.body Tryz.func41 rfl rfl Tryz.ntmps41 rfl rfl ?_
  repeat' (first | refine AOps.q rfl rfl rfl (fun hg => by first | exact std0 | exact std1) (by exact rfl) ?_ | refine AWP.seq ?_ | refine AWP.regionK (fun K' hK => ?_) | (refine AOps.nil (hK _ _ ?_); clear hK K') | refine AOps.e (EStep.boxW rfl rfl rfl rfl rfl True.intro rfl rfl ?_) | refine AOps.e (EStep.storeW tabOk rfl rfl rfl True.intro rfl rfl True.intro rfl rfl rfl rfl rfl rfl rfl ?_) | refine AOps.e (EStep.allocW tabOk rfl rfl rfl rfl rfl rfl ?_) | refine AOps.e (EStep.nilSl tabOk rfl rfl rfl rfl rfl True.intro rfl ?_) | (refine AWP.condW rfl True.intro (fun hc => ?_) (fun hc => ?_) <;> (first | (simp only [decide_eq_true_eq] at hc) | (simp only [decide_eq_false_iff_not, Int.not_lt, Int.not_le] at hc) | skip)) | refine AWP.block ?_ | refine AWP.exit ?_ | refine AWP.skip ?_ | refine AWP.drawK2 (by decide +kernel) (by kernel_rfl) (by decide +kernel) rfl (fun K' hK => ?_) | refine AWP.drawL2 (by kernel_rfl) (by decide +kernel) rfl (fun K' hK => ?_) | (refine AQ.nil (hK _ ?_); clear hK K') | refine AQ.nil ?_ | refine AQ.q rfl rfl (fun hg => by first | exact std0 | exact std1) (by exact rfl) ?_)
  intro b hb
  repeat' (first | refine AOps.q rfl rfl rfl (fun hg => by first | exact PRun.buildSl0 tabOk rfl rfl | exact std0 | exact std1) (by exact rfl) ?_ | refine AWP.seq ?_ | refine AWP.regionK (fun K' hK => ?_) | (refine AOps.nil (hK _ _ ?_); clear hK K') | refine AOps.e (EStep.boxW rfl rfl rfl rfl rfl True.intro rfl rfl ?_) | refine AOps.e (EStep.storeW tabOk rfl rfl rfl True.intro rfl rfl True.intro rfl rfl rfl rfl rfl rfl rfl ?_) | refine AOps.e (EStep.allocW tabOk rfl rfl rfl rfl rfl rfl ?_) | refine AOps.e (EStep.appendArrF tabOk rfl rfl rfl rfl (Rd.w rfl True.intro) (Rd.w rfl True.intro) (.sl rfl (one_encB _)) (LOk.of (tabOk.get rfl)) (LOk.of (tabOk.get rfl)) rfl rfl (by simp only [hll]; omega) (by omega) ?_) | (refine AWP.condW rfl True.intro (fun hc => ?_) (fun hc => ?_) <;> (first | (simp only [decide_eq_true_eq] at hc) | (simp only [decide_eq_false_iff_not, Int.not_lt, Int.not_le] at hc) | skip)) | refine AWP.block ?_ | refine AWP.exit ?_ | refine AWP.skip ?_ | refine AWP.drawK2 (by decide +kernel) (by kernel_rfl) (by decide +kernel) rfl (fun K' hK => ?_) | refine AWP.drawL2 (by kernel_rfl) (by decide +kernel) rfl (fun K' hK => ?_) | (refine AQ.nil (hK _ ?_); clear hK K') | refine AQ.nil ?_ | refine AQ.q rfl rfl (fun hg => by first | exact PRun.buildSl0 tabOk rfl rfl | exact std0 | exact std1) (by exact rfl) ?_)
  · have : l = [] := by simpa using hb hc
    subst this
    refine AWP.ret ⟨.inr rfl, Ent.nil⟩
  · refine AWP.freezeA (d := 2) (l := 0) (sz := 4) (ver := 0) (es := l.map encB) rfl rfl (pure_prims fun e he => by obtain ⟨c, _, rfl⟩ := List.mem_map.1 he; rfl) ?_
    exact AWP.ret ⟨.inr rfl, fun _ _ h => h⟩
theorem cloneP_spec (l : List Part) (hl : l.length ≤ 1000000000) : PCall Tryz.prog 42 [.sl 13 (l.map encP) .no] (.sl 13 (l.map encP) .no) := by
  have hll : (l.map encP).length = l.length := by simp
  refine PCall.body Tryz.func42 rfl rfl Tryz.ntmps42 rfl rfl ?_
  repeat' (first | refine AOps.q rfl rfl rfl (fun hg => by first | exact std0 | exact std1) (by exact rfl) ?_ | refine AWP.seq ?_ | refine AWP.regionK (fun K' hK => ?_) | (refine AOps.nil (hK _ _ ?_); clear hK K') | refine AOps.e (EStep.boxW rfl rfl rfl rfl rfl True.intro rfl rfl ?_) | refine AOps.e (EStep.storeW tabOk rfl rfl rfl True.intro rfl rfl True.intro rfl rfl rfl rfl rfl rfl rfl ?_) | refine AOps.e (EStep.allocW tabOk rfl rfl rfl rfl rfl rfl ?_) | refine AOps.e (EStep.nilSl tabOk rfl rfl rfl rfl rfl True.intro rfl ?_) | (refine AWP.condW rfl True.intro (fun hc => ?_) (fun hc => ?_) <;> (first | (simp only [decide_eq_true_eq] at hc) | (simp only [decide_eq_false_iff_not, Int.not_lt, Int.not_le] at hc) | skip)) | refine AWP.block ?_ | refine AWP.exit ?_ | refine AWP.skip ?_ | refine AWP.drawK2 (by decide +kernel) (by kernel_rfl) (by decide +kernel) rfl (fun K' hK => ?_) | refine AWP.drawL2 (by kernel_rfl) (by decide +kernel) rfl (fun K' hK => ?_) | (refine AQ.nil (hK _ ?_); clear hK K') | refine AQ.nil ?_ | refine AQ.q rfl rfl (fun hg => by first | exact std0 | exact std1) (by exact rfl) ?_)
  intro b hb
  repeat' (first | refine AOps.q rfl rfl rfl (fun hg => by first | exact PRun.buildSl0 tabOk rfl rfl | exact std0 | exact std1) (by exact rfl) ?_ | refine AWP.seq ?_ | refine AWP.regionK (fun K' hK => ?_) | (refine AOps.nil (hK _ _ ?_); clear hK K') | refine AOps.e (EStep.boxW rfl rfl rfl rfl rfl True.intro rfl rfl ?_) | refine AOps.e (EStep.storeW tabOk rfl rfl rfl True.intro rfl rfl True.intro rfl rfl rfl rfl rfl rfl rfl ?_) | refine AOps.e (EStep.allocW tabOk rfl rfl rfl rfl rfl rfl ?_) | refine AOps.e (EStep.appendArrF tabOk rfl rfl rfl rfl (Rd.w rfl True.intro) (Rd.w rfl True.intro) (.sl rfl (one_encP _)) (LOk.of (tabOk.get rfl)) (LOk.of (tabOk.get rfl)) rfl rfl (by simp only [hll]; omega) (by omega) ?_) | (refine AWP.condW rfl True.intro (fun hc => ?_) (fun hc => ?_) <;> (first | (simp only [decide_eq_true_eq] at hc) | (simp only [decide_eq_false_iff_not, Int.not_lt, Int.not_le] at hc) | skip)) | refine AWP.block ?_ | refine AWP.exit ?_ | refine AWP.skip ?_ | refine AWP.drawK2 (by decide +kernel) (by kernel_rfl) (by decide +kernel) rfl (fun K' hK => ?_) | refine AWP.drawL2 (by kernel_rfl) (by decide +kernel) rfl (fun K' hK => ?_) | (refine AQ.nil (hK _ ?_); clear hK K') | refine AQ.nil ?_ | refine AQ.q rfl rfl (fun hg => by first | exact PRun.buildSl0 tabOk rfl rfl | exact std0 | exact std1) (by exact rfl) ?_)
  · have : l = [] := by simpa using hb hc
    subst this
    refine AWP.ret ⟨.inr rfl, Ent.nil⟩
  · refine AWP.freezeA (d := 2) (l := 0) (sz := 13) (ver := 0) (es := l.map encP) rfl rfl (pure_prims fun e he => by obtain ⟨c, _, rfl⟩ := List.mem_map.1 he; rfl) ?_
    exact AWP.ret ⟨.inr rfl, fun _ _ h => h⟩
def noScore : Score := ⟨0, [], [], []⟩
theorem entNo : Ent (.agg [.int 0, .nils, .nils, .nils]) (.agg (encS noScore)) := Ent.agg rfl fun i u v hu hv => by
  match i, hu, hv with
  | 0, hu, hv => simp [encS, noScore] at hu hv; subst hu; subst hv; exact Ent.rfl' _
  | 1, hu, hv => simp [encS, noScore] at hu hv; subst hu; subst hv; exact Ent.nil
  | 2, hu, hv => simp [encS, noScore] at hu hv; subst hu; subst hv; exact Ent.nil
  | 3, hu, hv => simp [encS, noScore] at hu hv; subst hu; subst hv; exact Ent.nil
  | i + 4, hu, _ => simp at hu
/-- A score with other notes, and the error. -/
def withR (s : Score) (v : Int) (l : List Note) : Score × Int :=
  if (!scoreOk s || !inB v 1 1000000) || !notesOk s.bars l then (noScore, 1) else if wrongR s.parts l != 0 then (noScore, wrongR s.parts l) else (⟨v, s.bars, s.parts, (sortR s.bars l).1⟩, 0)
def tupS (r : Score × Int) : AV := .tup [.agg (encS r.1), .int r.2]
theorem with_spec (s : Score) (hs : s.Small) (v : Int) (l : List Note) (hl : l.length ≤ 1000000000) : PCall Tryz.prog 8 [.agg (encS s), .int v, .sl 12 (l.map encN) .no] (tupS (withR s v l)) := by
  have hv := svalid_spec s hs
  obtain ⟨h1, h2, h3⟩ := hs
  have hn := nvalid_spec s.bars l (by omega) (by omega)
  have hw := wrong_spec s.parts l (by omega) (by omega)
  have ho := Sort_spec s.bars l h1 hl
  have c1 := cloneB_spec s.bars h1
  have c2 := cloneP_spec s.parts h2
  refine PCall.bodyS tabOk Tryz.func8 rfl rfl Tryz.ntmps8 rfl ?_
  repeat' (first | refine AOps.q rfl rfl rfl (fun hg => by first | exact std0 | exact PRun.callW (hv) rfl rfl nd rfl nds | exact PRun.callW (sisID_spec _) rfl rfl nd rfl nds | exact PRun.callW (hn) rfl rfl nd rfl nds | exact PRun.callW (hw) rfl rfl nd rfl nds | exact PRun.callW (ho) rfl rfl nd rfl nds | exact PRun.callW (c1) rfl rfl nd rfl nds | exact PRun.callW (c2) rfl rfl nd rfl nds | exact PRun.buildW tabOk rfl rfl nds | exact std1) (by exact rfl) ?_ | refine AWP.seq ?_ | refine AWP.regionK (fun K' hK => ?_) | (refine AOps.nil (hK _ _ ?_); clear hK K') | refine AOps.e (EStep.boxW rfl rfl rfl rfl rfl True.intro rfl rfl ?_) | refine AOps.e (EStep.storeW tabOk rfl rfl rfl True.intro rfl rfl True.intro rfl rfl rfl rfl rfl rfl rfl ?_) | refine AOps.e (EStep.allocW tabOk rfl rfl rfl rfl rfl rfl ?_) | (refine AWP.condW rfl True.intro (fun hc => ?_) (fun hc => ?_) <;> (first | (simp only [decide_eq_true_eq] at hc) | (simp only [decide_eq_false_iff_not, Int.not_lt, Int.not_le] at hc) | skip)) | refine AWP.block ?_ | refine AWP.exit ?_ | refine AWP.skip ?_ | refine AWP.ret ?_ | refine AWP.drawK2 (by decide +kernel) (by kernel_rfl) (by decide +kernel) rfl (fun K' hK => ?_) | refine AWP.drawL2 (by kernel_rfl) (by decide +kernel) rfl (fun K' hK => ?_) | (refine AQ.nil (hK _ ?_); clear hK K') | refine AQ.nil ?_ | refine AQ.q rfl rfl (fun hg => by first | exact std0 | exact PRun.callW (hv) rfl rfl nd rfl nds | exact PRun.callW (sisID_spec _) rfl rfl nd rfl nds | exact PRun.callW (hn) rfl rfl nd rfl nds | exact PRun.callW (hw) rfl rfl nd rfl nds | exact PRun.callW (ho) rfl rfl nd rfl nds | exact PRun.callW (c1) rfl rfl nd rfl nds | exact PRun.callW (c2) rfl rfl nd rfl nds | exact PRun.buildW tabOk rfl rfl nds | exact std1) (by exact rfl) ?_)
  · refine ⟨.inr rfl, _, rfl, ?_⟩
    rw [show withR s v l = (noScore, 1) from if_pos hc]
    exact Ent.tup2 entNo (Ent.rfl' _)
  · rename_i hc0
    refine ⟨.inr rfl, _, rfl, ?_⟩
    rw [show withR s v l = (noScore, wrongR s.parts l) from by unfold withR; rw [if_neg (by rw [hc0]; decide), if_pos hc]]
    exact Ent.tup2 entNo (Ent.rfl' _)
  · rename_i hc0
    refine ⟨.inr rfl, _, rfl, ?_⟩
    rw [show withR s v l = (⟨v, s.bars, s.parts, (sortR s.bars l).1⟩, 0) from by unfold withR; rw [if_neg (by rw [hc0]; decide), if_neg (by rw [hc]; decide)]]
    exact Ent.of rfl
end Go.Proofs.YtnmdmmfdnnmdfaaGreatDoor
