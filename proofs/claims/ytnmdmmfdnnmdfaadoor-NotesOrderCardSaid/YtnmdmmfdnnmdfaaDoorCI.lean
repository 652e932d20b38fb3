/- Contracts by content: notes.sorted, notes.Sort. No statement is proved here. -/
import Derived.Test.YtnmdmmfdnnmdfaaDoorCH
set_option linter.unusedVariables false
set_option linter.unusedSimpArgs false
namespace Go.Proofs.YtnmdmmfdnnmdfaaDoor
open Go.Ab Go.Sort
attribute [local irreducible] AWP AOps EStep AQ PStep PRun PCall TCall VCall

theorem fnOk_sort : FnOk Tryd.prog 89 := ⟨_, Tryd.func89, rfl, rfl⟩
theorem fnOk_cmp : FnOk Tryd.prog 90 := ⟨_, Tryd.func90, rfl, rfl⟩
theorem sortT (al : List (Int × Int)) (hal : ∀ k i, lk al k = some i → 0 ≤ i ∧ i < 4611686018427387904) (l : List Note) (hl : l.length ≤ 1000000000) (hin : ∀ n ∈ l, noteIn n) :
    TCall Tryd.prog 89 [.sla 1 12 0 l.length 0, .fn (.func 90) [] [.ptr 0 0]] [.var [.imap (encM ekI AV.int al)], .arr 12 0 (l.map encN)]
      (fun r s => r = .tup [] ∧ s = [.var [.imap (encM ekI AV.int al)], .arr 12 0 ((sortN al l).map encN)]) := by
  have h := TCall.sortA (P := Tryd.prog) (ρ := Tryd.sortNote_ren) Tryd.sortNote (sz := 12) Tryd.isAgg55 Tryd.sizeOf55 encV (fun _ => rfl) (fun x v hv => by
      simp only [encV, List.mem_cons, List.not_mem_nil, or_false] at hv
      rcases hv with rfl | rfl | rfl | rfl | rfl | rfl | rfl | rfl | rfl | rfl | rfl | rfl <;> rfl)
    (fun x y => cmpN al (fixN x) (fixN y)) (swoN al fixN) (g := 90) (caps := [.ptr 0 0]) (σ := [.var [.imap (encM ekI AV.int al)], .arr 12 0 (l.map encN)]) fnOk_sort fnOk_cmp
    (fun x y => cmpN_spec al hal (fixN x) (fixN y) (fixN_in x) (fixN_in y)) (l := 1) (ver := 0) (xs := l) (by rw [enc_fix hin]; rfl) (by omega)
  refine TCall.mono h ?_
  rintro r s ⟨h1, h2⟩
  refine ⟨h1, ?_⟩
  rw [h2]
  show [_, AObj.arr 12 0 ((sortN al l).map fun x => (encV x).map AV.prim)] = _
  rw [sortN_enc al hin]

theorem idx_small (bars : List Bar) (hb : bars.length ≤ 1000000000) : ∀ k i, lk (idxAL bars) k = some i → 0 ≤ i ∧ i < 4611686018427387904 := fun k i h => by
  rw [idxAL_eq] at h
  obtain ⟨j, h1, h2, _⟩ := lk_idx bars k _ i h
  omega
theorem sorted_spec (bars : List Bar) (l : List Note) (hb : bars.length ≤ 1000000000) (hl : l.length ≤ 1000000000) (hin : ∀ n ∈ l, noteIn n) :
    PCall Tryd.prog 49 [.sl 4 (bars.map encB) .no, .sl 12 (l.map encN) .no] (.sl 12 ((sortN (idxAL bars) l).map encN) .no) := by
  have hi := indexes_spec bars (by omega)
  have hc := TCall.val (first := []) (caps := []) (avs := [.sl 12 (l.map encN) .no]) (clone_T l hl (.imap (encM ekI AV.int (idxAL bars))) (by simp [okObj, okRef]) (by simp [okObj, okRef]))
  have hs := TCall.val (first := []) (caps := []) (avs := [.sla 1 12 0 l.length 0, .fn (.func 90) [] [.ptr 0 0]]) (sortT (idxAL bars) (idx_small bars hb) l hl hin)
  have h0 := fun u => PCall.sort0 (P := Tryd.prog) (ρ := Tryd.sortNote_ren) Tryd.sortNote fnOk_sort u
  refine PCall.body Tryd.func49 rfl rfl Tryd.ntmps49 rfl rfl ?_
  repeat' (first | refine AOps.q rfl rfl rfl (fun hg => by first | exact std0 | exact PRun.callW (hi) rfl rfl nd rfl nds | exact std1) (by exact rfl) ?_ | refine AWP.seq ?_ | refine AWP.regionK (fun K' hK => ?_) | (refine AOps.nil (hK _ _ ?_); clear hK K') | refine AOps.e (EStep.boxW rfl rfl rfl rfl rfl True.intro rfl rfl ?_) | refine AOps.e (EStep.storeW tabOk rfl rfl rfl True.intro rfl rfl True.intro rfl rfl rfl rfl rfl rfl rfl ?_) | refine AOps.e (EStep.allocW tabOk rfl rfl rfl rfl rfl rfl ?_) | refine AOps.e (EStep.callT (hc) rfl rfl rfl rfl rfl nd rfl rfl nds ?_) | (refine AWP.condW rfl True.intro (fun hc => ?_) (fun hc => ?_) <;> (first | (simp only [decide_eq_true_eq] at hc) | (simp only [decide_eq_false_iff_not, Int.not_lt, Int.not_le] at hc) | skip)) | refine AWP.block ?_ | refine AWP.exit ?_ | refine AWP.skip ?_ | refine AWP.ret ?_ | refine AWP.drawK2 (by decide +kernel) (by kernel_rfl) (by decide +kernel) rfl (fun K' hK => ?_) | refine AWP.drawL2 (by kernel_rfl) (by decide +kernel) rfl (fun K' hK => ?_) | (refine AQ.nil (hK _ ?_); clear hK K') | refine AQ.nil ?_ | refine AQ.q rfl rfl (fun hg => by first | exact std0 | exact PRun.callW (hi) rfl rfl nd rfl nds | exact std1) (by exact rfl) ?_)
  rintro r s (⟨h1, rfl, rfl⟩ | ⟨rfl, rfl⟩)
  · subst h1
    repeat' (first | refine AOps.q rfl rfl rfl (fun hg => by first | exact std0 | exact PRun.callW (h0 _) rfl rfl nd rfl nds | exact std1) (by exact rfl) ?_ | refine AWP.seq ?_ | refine AWP.regionK (fun K' hK => ?_) | (refine AOps.nil (hK _ _ ?_); clear hK K') | refine AOps.e (EStep.boxW rfl rfl rfl rfl rfl True.intro rfl rfl ?_) | refine AOps.e (EStep.storeW tabOk rfl rfl rfl True.intro rfl rfl True.intro rfl rfl rfl rfl rfl rfl rfl ?_) | refine AOps.e (EStep.allocW tabOk rfl rfl rfl rfl rfl rfl ?_) | (refine AWP.condW rfl True.intro (fun hc => ?_) (fun hc => ?_) <;> (first | (simp only [decide_eq_true_eq] at hc) | (simp only [decide_eq_false_iff_not, Int.not_lt, Int.not_le] at hc) | skip)) | refine AWP.block ?_ | refine AWP.exit ?_ | refine AWP.skip ?_ | refine AWP.ret ?_ | refine AWP.drawK2 (by decide +kernel) (by kernel_rfl) (by decide +kernel) rfl (fun K' hK => ?_) | refine AWP.drawL2 (by kernel_rfl) (by decide +kernel) rfl (fun K' hK => ?_) | (refine AQ.nil (hK _ ?_); clear hK K') | refine AQ.nil ?_ | refine AQ.q rfl rfl (fun hg => by first | exact std0 | exact PRun.callW (h0 _) rfl rfl nd rfl nds | exact std1) (by exact rfl) ?_)
    refine ⟨.inr rfl, ?_⟩
    rw [List.eq_nil_of_length_eq_zero (sortN_len (idxAL bars) [])]
    exact Ent.nil
  · repeat' (first | refine AOps.q rfl rfl rfl (fun hg => by first | exact std0 | exact std1) (by exact rfl) ?_ | refine AWP.seq ?_ | refine AWP.regionK (fun K' hK => ?_) | (refine AOps.nil (hK _ _ ?_); clear hK K') | refine AOps.e (EStep.boxW rfl rfl rfl rfl rfl True.intro rfl rfl ?_) | refine AOps.e (EStep.storeW tabOk rfl rfl rfl True.intro rfl rfl True.intro rfl rfl rfl rfl rfl rfl rfl ?_) | refine AOps.e (EStep.allocW tabOk rfl rfl rfl rfl rfl rfl ?_) | refine AOps.e (EStep.callT (hs) rfl rfl rfl rfl rfl nd rfl rfl nds ?_) | (refine AWP.condW rfl True.intro (fun hc => ?_) (fun hc => ?_) <;> (first | (simp only [decide_eq_true_eq] at hc) | (simp only [decide_eq_false_iff_not, Int.not_lt, Int.not_le] at hc) | skip)) | refine AWP.block ?_ | refine AWP.exit ?_ | refine AWP.skip ?_ | refine AWP.drawK2 (by decide +kernel) (by kernel_rfl) (by decide +kernel) rfl (fun K' hK => ?_) | refine AWP.drawL2 (by kernel_rfl) (by decide +kernel) rfl (fun K' hK => ?_) | (refine AQ.nil (hK _ ?_); clear hK K') | refine AQ.nil ?_ | refine AQ.q rfl rfl (fun hg => by first | exact std0 | exact std1) (by exact rfl) ?_)
    rintro r s ⟨rfl, rfl⟩
    repeat' (first | refine AOps.q rfl rfl rfl (fun hg => by first | exact std0 | exact std1) (by exact rfl) ?_ | refine AWP.seq ?_ | refine AWP.regionK (fun K' hK => ?_) | (refine AOps.nil (hK _ _ ?_); clear hK K') | refine AOps.e (EStep.boxW rfl rfl rfl rfl rfl True.intro rfl rfl ?_) | refine AOps.e (EStep.storeW tabOk rfl rfl rfl True.intro rfl rfl True.intro rfl rfl rfl rfl rfl rfl rfl ?_) | refine AOps.e (EStep.allocW tabOk rfl rfl rfl rfl rfl rfl ?_) | (refine AWP.condW rfl True.intro (fun hc => ?_) (fun hc => ?_) <;> (first | (simp only [decide_eq_true_eq] at hc) | (simp only [decide_eq_false_iff_not, Int.not_lt, Int.not_le] at hc) | skip)) | refine AWP.block ?_ | refine AWP.exit ?_ | refine AWP.skip ?_ | refine AWP.drawK2 (by decide +kernel) (by kernel_rfl) (by decide +kernel) rfl (fun K' hK => ?_) | refine AWP.drawL2 (by kernel_rfl) (by decide +kernel) rfl (fun K' hK => ?_) | (refine AQ.nil (hK _ ?_); clear hK K') | refine AQ.nil ?_ | refine AQ.q rfl rfl (fun hg => by first | exact std0 | exact std1) (by exact rfl) ?_)
    refine AWP.freezeA (d := 4) (l := 1) (sz := 12) (ver := 0) (es := (sortN (idxAL bars) l).map encN) (by show AV.sla 1 12 0 l.length 0 = _; rw [List.length_map, sortN_len]) rfl (pureN _) ?_
    refine AWP.ret ⟨.inr rfl, ?_⟩
    exact fun _ _ h => h

theorem notesOk_in {bars : List Bar} {l : List Note} (h : notesOk bars l = true) : ∀ n ∈ l, noteIn n := fun n hn => by
  unfold notesOk at h
  simp only [Bool.and_eq_true, List.all_eq_true] at h
  have h1 := h.1.2 n hn
  have hf : noteForm n = true := by
    unfold noteOk at h1
    split at h1
    · unfold nformed at h1; simp only [Bool.and_eq_true] at h1; exact h1.2
    · cases h1
  unfold noteForm at hf
  simp only [Bool.and_eq_true, inB, decide_eq_true_eq] at hf
  unfold noteIn
  omega
def sortR (bars : List Bar) (l : List Note) : List Note × Int := if notesOk bars l then (sortN (idxAL bars) l, 0) else ([], 1)
theorem Sort_spec (bars : List Bar) (l : List Note) (hb : bars.length ≤ 1000000000) (hl : l.length ≤ 1000000000) :
    PCall Tryd.prog 17 [.sl 4 (bars.map encB) .no, .sl 12 (l.map encN) .no] (.tup [.sl 12 ((sortR bars l).1.map encN) .no, .int (sortR bars l).2]) := by
  have v := nvalid_spec bars l (by omega) (by omega)
  refine PCall.body Tryd.func17 rfl rfl Tryd.ntmps17 rfl rfl ?_
  by_cases h : notesOk bars l = true
  · have w := sorted_spec bars l hb hl (notesOk_in h)
    repeat' (first | refine AOps.q rfl rfl rfl (fun hg => by first | exact std0 | exact PRun.callW (v) rfl rfl nd rfl nds | exact PRun.callW (w) rfl rfl nd rfl nds | exact std1) (by exact rfl) ?_ | refine AWP.seq ?_ | refine AWP.regionK (fun K' hK => ?_) | (refine AOps.nil (hK _ _ ?_); clear hK K') | refine AOps.e (EStep.boxW rfl rfl rfl rfl rfl True.intro rfl rfl ?_) | refine AOps.e (EStep.storeW tabOk rfl rfl rfl True.intro rfl rfl True.intro rfl rfl rfl rfl rfl rfl rfl ?_) | refine AOps.e (EStep.allocW tabOk rfl rfl rfl rfl rfl rfl ?_) | (refine AWP.condW rfl True.intro (fun hc => ?_) (fun hc => ?_) <;> (first | (simp only [decide_eq_true_eq] at hc) | (simp only [decide_eq_false_iff_not, Int.not_lt, Int.not_le] at hc) | skip)) | refine AWP.block ?_ | refine AWP.exit ?_ | refine AWP.skip ?_ | refine AWP.ret ?_ | refine AWP.drawK2 (by decide +kernel) (by kernel_rfl) (by decide +kernel) rfl (fun K' hK => ?_) | refine AWP.drawL2 (by kernel_rfl) (by decide +kernel) rfl (fun K' hK => ?_) | (refine AQ.nil (hK _ ?_); clear hK K') | refine AQ.nil ?_ | refine AQ.q rfl rfl (fun hg => by first | exact std0 | exact PRun.callW (v) rfl rfl nd rfl nds | exact PRun.callW (w) rfl rfl nd rfl nds | exact std1) (by exact rfl) ?_)
    · exfalso; simp [h] at hc
    · refine ⟨.inr rfl, Ent.of ?_⟩
      rw [show sortR bars l = (sortN (idxAL bars) l, 0) from by unfold sortR; rw [if_pos h]]; rfl
  · repeat' (first | refine AOps.q rfl rfl rfl (fun hg => by first | exact std0 | exact PRun.callW (v) rfl rfl nd rfl nds | exact std1) (by exact rfl) ?_ | refine AWP.seq ?_ | refine AWP.regionK (fun K' hK => ?_) | (refine AOps.nil (hK _ _ ?_); clear hK K') | refine AOps.e (EStep.boxW rfl rfl rfl rfl rfl True.intro rfl rfl ?_) | refine AOps.e (EStep.storeW tabOk rfl rfl rfl True.intro rfl rfl True.intro rfl rfl rfl rfl rfl rfl rfl ?_) | refine AOps.e (EStep.allocW tabOk rfl rfl rfl rfl rfl rfl ?_) | (refine AWP.condW rfl True.intro (fun hc => ?_) (fun hc => ?_) <;> (first | (simp only [decide_eq_true_eq] at hc) | (simp only [decide_eq_false_iff_not, Int.not_lt, Int.not_le] at hc) | skip)) | refine AWP.block ?_ | refine AWP.exit ?_ | refine AWP.skip ?_ | refine AWP.ret ?_ | refine AWP.drawK2 (by decide +kernel) (by kernel_rfl) (by decide +kernel) rfl (fun K' hK => ?_) | refine AWP.drawL2 (by kernel_rfl) (by decide +kernel) rfl (fun K' hK => ?_) | (refine AQ.nil (hK _ ?_); clear hK K') | refine AQ.nil ?_ | refine AQ.q rfl rfl (fun hg => by first | exact std0 | exact PRun.callW (v) rfl rfl nd rfl nds | exact std1) (by exact rfl) ?_)
    · refine ⟨.inr rfl, ?_⟩
      rw [show sortR bars l = ([], 1) from by unfold sortR; rw [if_neg h]]
      exact Ent.tup2 Ent.nil (Ent.rfl' _)
    · exfalso; simp [h] at hc
end Go.Proofs.YtnmdmmfdnnmdfaaDoor
