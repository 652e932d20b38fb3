/- Contracts: slices.Clone of notes; notes.sorted. No statement is proved here. -/
import Derived.Test.YtnmdmmfdnnmdfaaDoorCG
import Derived.Test.YtnmdmmfdnnmdfaaDoorM6
import Derived.Test.YtnmdmmfdnnmdfaaDoorSL
set_option linter.unusedVariables false
set_option linter.unusedSimpArgs false
namespace Go.Proofs.YtnmdmmfdnnmdfaaDoor
open Go.Ab Go.Sort
attribute [local irreducible] AWP AOps EStep AQ PStep PRun PCall TCall VCall

theorem one_encN (l : List Note) : ∀ x ∈ l.map encN, x.all oneAV = true := fun x hx => by
  obtain ⟨c, _, rfl⟩ := List.mem_map.1 hx; rfl
theorem clone_T (l : List Note) (hl : l.length ≤ 1000000000) (u : AV) (hu : okObj 1 (.var [u]) = true) (hu2 : okObj 2 (.var [u]) = true) : TCall Tryd.prog 57 [.sl 12 (l.map encN) .no] [.var [u]]
    (fun r s => (l = [] ∧ r = .nils ∧ s = [.var [u]]) ∨ (r = .sla 1 12 0 l.length 0 ∧ s = [.var [u], .arr 12 0 (l.map encN)])) := by
  have hll : (l.map encN).length = l.length := by simp
  refine TCall.body Tryd.func57 rfl rfl Tryd.ntmps57 rfl rfl ?_
  repeat' (first | refine AOps.q rfl rfl rfl (fun hg => by first | exact std0 | exact std1) (by exact rfl) ?_ | refine AWP.seq ?_ | refine AWP.regionK (fun K' hK => ?_) | (refine AOps.nil (hK _ _ ?_); clear hK K') | refine AOps.e (EStep.boxW rfl rfl rfl rfl rfl True.intro rfl rfl ?_) | refine AOps.e (EStep.storeW tabOk rfl rfl rfl True.intro rfl rfl True.intro rfl rfl rfl rfl rfl rfl rfl ?_) | refine AOps.e (EStep.allocW tabOk rfl rfl rfl rfl rfl rfl ?_) | refine AOps.e (EStep.nilSl tabOk rfl rfl rfl rfl rfl True.intro rfl ?_) | (refine AWP.condW rfl True.intro (fun hc => ?_) (fun hc => ?_) <;> (first | (simp only [decide_eq_true_eq] at hc) | (simp only [decide_eq_false_iff_not, Int.not_lt, Int.not_le] at hc) | skip)) | refine AWP.block ?_ | refine AWP.exit ?_ | refine AWP.skip ?_ | refine AWP.ret ?_ | refine AWP.drawK2 (by decide +kernel) (by kernel_rfl) (by decide +kernel) rfl (fun K' hK => ?_) | refine AWP.drawL2 (by kernel_rfl) (by decide +kernel) rfl (fun K' hK => ?_) | (refine AQ.nil (hK _ ?_); clear hK K') | refine AQ.nil ?_ | refine AQ.q rfl rfl (fun hg => by first | exact std0 | exact std1) (by exact rfl) ?_)
  intro b hb
  repeat' (first | refine AOps.q rfl rfl rfl (fun hg => by first | exact PRun.buildSl0 tabOk rfl rfl | exact std0 | exact std1) (by exact rfl) ?_ | refine AWP.seq ?_ | refine AWP.regionK (fun K' hK => ?_) | (refine AOps.nil (hK _ _ ?_); clear hK K') | refine AOps.e (EStep.boxW rfl rfl rfl rfl rfl True.intro rfl rfl ?_) | refine AOps.e (EStep.storeW tabOk rfl rfl rfl True.intro rfl rfl True.intro rfl rfl rfl rfl rfl rfl rfl ?_) | refine AOps.e (EStep.allocW tabOk rfl rfl rfl rfl rfl rfl ?_) | refine AOps.e (EStep.appendArrF tabOk rfl rfl rfl rfl (Rd.w rfl True.intro) (Rd.w rfl True.intro) (.sl rfl (one_encN _)) (LOk.of (tabOk.get rfl)) (LOk.of (tabOk.get rfl)) rfl rfl (by simp only [hll]; omega) (by omega) ?_) | (refine AWP.condW rfl True.intro (fun hc => ?_) (fun hc => ?_) <;> (first | (simp only [decide_eq_true_eq] at hc) | (simp only [decide_eq_false_iff_not, Int.not_lt, Int.not_le] at hc) | skip)) | refine AWP.block ?_ | refine AWP.exit ?_ | refine AWP.skip ?_ | refine AWP.ret ?_ | refine AWP.drawK2 (by decide +kernel) (by kernel_rfl) (by decide +kernel) rfl (fun K' hK => ?_) | refine AWP.drawL2 (by kernel_rfl) (by decide +kernel) rfl (fun K' hK => ?_) | (refine AQ.nil (hK _ ?_); clear hK K') | refine AQ.nil ?_ | refine AQ.q rfl rfl (fun hg => by first | exact PRun.buildSl0 tabOk rfl rfl | exact std0 | exact std1) (by exact rfl) ?_)
  · exact ⟨.inr rfl, .nils, [.var [u]], .inl ⟨by simpa using hb hc, rfl, rfl⟩, rfl, Nat.le_refl _, by simpa using hu, rfl, rfl⟩
  · refine ⟨.inr rfl, .sla 1 12 0 (l.map encN).length 0, [.var [u], .arr 12 0 (l.map encN)], .inr ⟨by rw [hll], rfl⟩, rfl, by simp, ?_, rfl, rfl⟩
    simp only [List.all_cons, List.all_nil, List.length_cons, List.length_nil, Nat.zero_add, Nat.reduceAdd, hu2, Bool.true_and, Bool.and_true]
    simp [okObj, encN, okRef]

instance (n : Note) : Decidable (noteIn n) := by unfold noteIn; infer_instance
/-- A note in its ranges, whatever the note. -/
def fixN (n : Note) : Note := if noteIn n then n else ⟨1, 1, 0, 0, 0, ⟨0, 1⟩, ⟨0, 1⟩, ⟨0, 0, 0⟩⟩
theorem fixN_in (n : Note) : noteIn (fixN n) := by
  unfold fixN; split
  · assumption
  · decide
theorem fixN_eq {n : Note} (h : noteIn n) : fixN n = n := if_pos h
def encV (n : Note) : List Value := let m := fixN n; [.int .i64 m.id, .int .i64 m.part, .int .i64 m.bar, .int .i64 m.voice, .int .i64 m.ossia, .int .i64 m.start.n, .int .i64 m.start.d, .int .i64 m.len.n, .int .i64 m.len.d, .int .i64 m.pitch.step, .int .i64 m.pitch.alter, .int .i64 m.pitch.oct]
theorem encV_enc (n : Note) : (encV n).map AV.prim = encN (fixN n) := rfl
/-- Notes in their order. -/
def sortN (al : List (Int × Int)) (l : List Note) : List Note := sortL (fun x y => cmpN al (fixN x) (fixN y)) l
theorem sortN_len (al : List (Int × Int)) (l : List Note) : (sortN al l).length = l.length := by
  have := (sortL_spec _ (swoN al fixN) l).1.1
  simpa [sortN] using this
theorem sortN_perm (al : List (Int × Int)) (l : List Note) : (sortN al l).Perm l := by
  have h := (sortL_spec _ (swoN al fixN) l).1.2.2
  have hl := sortN_len al l
  rw [← hl] at h
  unfold sortN at h hl ⊢
  simp only [List.size_toArray, List.extract_toArray, List.extract_eq_take_drop, Nat.sub_zero, List.drop_zero] at h
  rw [List.take_of_length_le (Nat.le_refl _), hl, List.take_of_length_le (Nat.le_refl _)] at h
  exact h
theorem sortN_enc (al : List (Int × Int)) {l : List Note} (h : ∀ n ∈ l, noteIn n) : (sortN al l).map (fun x => (encV x).map AV.prim) = (sortN al l).map encN := by
  refine List.map_congr_left fun x hx => ?_
  rw [encV_enc, fixN_eq (h x ((sortN_perm al l).mem_iff.1 hx))]
theorem enc_fix {l : List Note} (h : ∀ n ∈ l, noteIn n) : l.map (fun x => (encV x).map AV.prim) = l.map encN := by
  refine List.map_congr_left fun x hx => ?_
  rw [encV_enc, fixN_eq (h x hx)]
theorem pureN (l : List Note) : ∀ e ∈ l.map encN, ∀ a ∈ e, ∀ M B x, VRel M B a x → VRel M [] a x := fun e he a ha M B x hx => by
  obtain ⟨n, _, rfl⟩ := List.mem_map.1 he
  simp only [encN, List.mem_cons, List.not_mem_nil, or_false] at ha
  rcases ha with rfl | rfl | rfl | rfl | rfl | rfl | rfl | rfl | rfl | rfl | rfl | rfl <;> (rw [VRel.prim_eq hx]; exact .prim _)
end Go.Proofs.YtnmdmmfdnnmdfaaDoor
