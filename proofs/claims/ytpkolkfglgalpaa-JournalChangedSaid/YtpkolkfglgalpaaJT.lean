/- Contracts by content: events out of integers: the reference. No statement is proved here. -/
import Derived.Test.YtpkolkfglgalpaaJS
set_option linter.unusedVariables false
set_option linter.unusedSimpArgs false
namespace Go.Proofs.Ytpkolkfglgalpaa
open Go.Ab Go.Jo
attribute [local irreducible] AWP AOps EStep AQ PStep PRun PCall TCall VCall DStep TDies AWD DCall

def eventR (l : List Int) : Ev × Int := match event l with
  | some e => (e, 0)
  | none => (noEv, 7)
theorem eventR_form {l : List Int} (h : formOk l = false) : eventR l = (noEv, 7) := by
  unfold eventR event; rw [h]; rfl
theorem eventR_ok {l : List Int} (h : formOk l = true) : eventR l = if evOk (rawEv l) then (rawEv l, 0) else (noEv, 7) := by
  unfold eventR event; rw [h]; cases evOk (rawEv l) <;> rfl
set_option maxHeartbeats 1600000 in
set_option maxRecDepth 20000 in
theorem event23_spec (l : List Int) (hl : l.length ≤ 1000000) : PCall Try.prog 16 [.sl 1 (l.map encN) .no] (.tup [.agg (encE (eventR l).1), .int (eventR l).2]) := by
  by_cases hr : 4 ≤ l.length ∧ l.length ≤ 212
  · obtain ⟨h4, h212⟩ := hr
    refine PCall.bodyS tabOk Try.func16 rfl rfl Try.ntmps16 rfl ?_
    repeat' (first
      | refine AOps.q rfl rfl rfl (fun hg => by first | exact std0 | exact PRun.buildW tabOk rfl rfl nds | exact std1) (by exact rfl) ?_
      | refine AWP.seq ?_
      | refine AWP.regionK (fun K' hK => ?_)
      | (refine AOps.nil (hK _ _ ?_); clear hK K')
      | refine AOps.e (EStep.boxW rfl rfl rfl rfl rfl True.intro rfl rfl ?_)
      | refine AOps.e (EStep.storeW tabOk rfl rfl rfl True.intro rfl rfl True.intro rfl rfl rfl rfl rfl rfl rfl ?_)
      | refine AOps.e (EStep.allocW tabOk rfl rfl rfl rfl rfl rfl ?_)
      | (refine AWP.condW rfl True.intro (fun hc => ?_) (fun hc => ?_) <;> (first | (simp only [decide_eq_true_eq] at hc) | (simp only [decide_eq_false_iff_not, Int.not_lt, Int.not_le] at hc) | skip))
      | refine AWP.block ?_
      | refine AWP.exit ?_
      | refine AWP.skip ?_
      | refine AWP.ret ?_
      | (refine AQ.nil (hK _ ?_); clear hK K')
      | refine AQ.nil ?_
      | refine AQ.q rfl rfl (fun hg => by first | exact std0 | exact PRun.buildW tabOk rfl rfl nds | exact std1) (by exact rfl) ?_)
    · (exfalso; first | omega | (simp at hc; done) | (simp only [Int.toNat_natCast, Bool.or_eq_true, Bool.and_eq_true, Bool.or_eq_false_iff, Bool.and_eq_false_iff, decide_eq_true_eq, decide_eq_false_iff_not, Bool.not_eq_true', Bool.not_eq_false', beq_iff_eq, beq_eq_false_iff_ne, bne_iff_ne, bne_eq_false_iff_eq, gt_iff_lt, ge_iff_le, ne_eq] at hc; omega))
    clear hc
    refine AWP.drawY (fun k => match k with | 0 => [.var (encE noEv)] | 1 => [.var (encE noEv), .var (encE noEv)] | _ => [.var (encE noEv), .var (encE ⟨l.getD 0 0, l.getD 1 0, l.getD 2 0, 0, noMark⟩)]) rfl (by kernel_rfl) (by decide +kernel) rfl (by decide +kernel) (fun K' hK => ?_)
    repeat' (first
      | refine YQ.q (a := 0) (b := 0) rfl (by decide +kernel) (by decide +kernel) rfl rfl rfl (fun k h1 h2 hg => by (have hk : k = 0 := (by omega)); (rcases hk with rfl) <;> (first | exact std0 | exact PRun.buildW tabOk rfl rfl nds | exact std1)) (by exact rfl) ?_
      | refine YQ.q (a := 0) (b := 1) rfl (by decide +kernel) (by decide +kernel) rfl rfl rfl (fun k h1 h2 hg => by (have hk : k = 0 ∨ k = 1 := (by omega)); (rcases hk with rfl | rfl) <;> (first | exact std0 | exact PRun.buildW tabOk rfl rfl nds | exact std1)) (by exact rfl) ?_
      | refine YQ.q (a := 1) (b := 1) rfl (by decide +kernel) (by decide +kernel) rfl rfl rfl (fun k h1 h2 hg => by (have hk : k = 1 := (by omega)); (rcases hk with rfl) <;> (first | exact std0 | exact PRun.buildW tabOk rfl rfl nds | exact std1)) (by exact rfl) ?_
      | refine YQ.q (a := 0) (b := 2) rfl (by decide +kernel) (by decide +kernel) rfl rfl rfl (fun k h1 h2 hg => by (have hk : k = 0 ∨ k = 1 ∨ k = 2 := (by omega)); (rcases hk with rfl | rfl | rfl) <;> (first | exact std0 | exact PRun.buildW tabOk rfl rfl nds | exact std1)) (by exact rfl) ?_
      | refine YQ.q (a := 1) (b := 2) rfl (by decide +kernel) (by decide +kernel) rfl rfl rfl (fun k h1 h2 hg => by (have hk : k = 1 ∨ k = 2 := (by omega)); (rcases hk with rfl | rfl) <;> (first | exact std0 | exact PRun.buildW tabOk rfl rfl nds | exact std1)) (by exact rfl) ?_
      | refine YQ.q (a := 2) (b := 2) rfl (by decide +kernel) (by decide +kernel) rfl rfl rfl (fun k h1 h2 hg => by (have hk : k = 2 := (by omega)); (rcases hk with rfl) <;> (first | exact std0 | exact PRun.buildW tabOk rfl rfl nds | exact std1)) (by exact rfl) ?_)
    refine YQ.e (v := .ptr 1 0) (d := some 4) rfl rfl rfl ?_ ?_
    · intro env' he
      exact EStep.allocW tabOk rfl rfl rfl rfl rfl rfl ⟨rfl, rfl⟩
    refine YQ.e (v := .any) (d := none) rfl rfl rfl ?_ ?_
    · intro env' he
      exact EStep.storeW tabOk rfl rfl ((rdv_congr (he 4 (by decide +kernel))).trans rfl) (by rw [rdn_congr (he 4 (by decide +kernel))]; exact True.intro) rfl ((rdv_congr (he 26 (by decide +kernel))).trans rfl) (by rw [rdn_congr (he 26 (by decide +kernel))]; exact True.intro) rfl rfl rfl rfl rfl rfl rfl ⟨rfl, rfl⟩
    refine YQ.nil (hK _ _ ?_)
    clear hK K'
    refine AWP.keep [(0, .sl 1 (l.map encN) .no), (2, .ptr 0 0), (4, .ptr 1 0)] ⟨rfl, rfl, rfl, True.intro⟩ ?_
    show AWP _ _ _ _ _ [.var (encE noEv), .var (encE ⟨l.getD 0 0, l.getD 1 0, l.getD 2 0, 0, noMark⟩)]
    have hdef : ∀ i, l.getD i default = l.getD i 0 := fun _ => rfl
    by_cases hk : l.getD 2 0 = 1
    · by_cases h12 : 12 ≤ l.length
      · have ht := text23_spec (l.drop 12) (by rw [List.length_drop]; omega)
        cases hT : (l.drop 12).all (fun n => inR n 32 126) with
        | false =>
          rw [show textR (l.drop 12) = ([], false) by unfold textR; rw [hT]; rfl] at ht
          dsimp only at ht
          have hf : formOk l = false := by unfold formOk; rw [if_pos hk, hT]; simp
          rw [eventR_form hf]
          repeat' (first
            | refine AOps.q rfl rfl rfl (fun hg => by first | exact std0 | exact PRun.buildW tabOk rfl rfl nds | exact PRun.sliceLoM tabOk rfl rfl nd rfl nd rfl (by omega) | exact PRun.sliceHiM tabOk rfl rfl nd rfl nd rfl (by omega) | exact PRun.sliceM tabOk rfl rfl nd rfl nd rfl nd rfl (by omega) | exact PRun.callW (ht) rfl rfl nd rfl nds | exact std1) (by exact rfl) ?_
            | refine AWP.seq ?_
            | refine AWP.regionK (fun K' hK => ?_)
            | (refine AOps.nil (hK _ _ ?_); clear hK K')
            | refine AOps.e (EStep.boxW rfl rfl rfl rfl rfl True.intro rfl rfl ?_)
            | refine AOps.e (EStep.storeW tabOk rfl rfl rfl True.intro rfl rfl True.intro rfl rfl rfl rfl rfl rfl rfl ?_)
            | refine AOps.e (EStep.allocW tabOk rfl rfl rfl rfl rfl rfl ?_)
            | (refine AWP.condW rfl True.intro (fun hc => ?_) (fun hc => ?_) <;> (first | (simp only [decide_eq_true_eq] at hc) | (simp only [decide_eq_false_iff_not, Int.not_lt, Int.not_le] at hc) | skip))
            | refine AWP.block ?_
            | refine AWP.exit ?_
            | refine AWP.skip ?_
            | refine AWP.ret ?_
            | refine AWP.drawK2 (by decide +kernel) (by kernel_rfl) (by decide +kernel) rfl (fun K' hK => ?_)
            | refine AWP.drawL2 (by kernel_rfl) (by decide +kernel) rfl (fun K' hK => ?_)
            | (refine AQ.nil (hK _ ?_); clear hK K')
            | refine AQ.nil ?_
            | refine AQ.q rfl rfl (fun hg => by first | exact std0 | exact PRun.buildW tabOk rfl rfl nds | exact PRun.sliceLoM tabOk rfl rfl nd rfl nd rfl (by omega) | exact PRun.sliceHiM tabOk rfl rfl nd rfl nd rfl (by omega) | exact PRun.sliceM tabOk rfl rfl nd rfl nd rfl nd rfl (by omega) | exact PRun.callW (ht) rfl rfl nd rfl nds | exact std1) (by exact rfl) ?_)
          all_goals first
            | (exfalso; omega)
            | (exfalso; simp at hc; done)
            | (exfalso; rename_i h; rw [hk] at h; cases h; done)
            | (exfalso; rename_i h _; rw [hk] at h; cases h; done)
            | (exfalso; rename_i h _ _; rw [hk] at h; cases h; done)
            | exact ⟨.inr rfl, _, rfl, Ent.of rfl⟩
            | (rw [if_neg (by simpa using hc)]; exact ⟨.inr rfl, _, rfl, Ent.of rfl⟩)
            | (rw [if_pos (by simpa using hc)]; exact ⟨.inr rfl, _, rfl, Ent.of rfl⟩)
        | true =>
          rw [show textR (l.drop 12) = (untxt (l.drop 12), true) by unfold textR; rw [hT]; rfl] at ht
          dsimp only at ht
          have hf : formOk l = true := by unfold formOk; rw [if_pos hk, hT]; simp; omega
          have hv := event22_spec ⟨l.getD 0 0, l.getD 1 0, l.getD 2 0, 0, ⟨l.getD 3 0, l.getD 4 0, l.getD 5 0, ⟨l.getD 6 0, l.getD 7 0, l.getD 8 0⟩, l.getD 9 0, l.getD 10 0, l.getD 11 0, untxt (l.drop 12)⟩⟩ (by simp [untxt]; omega)
          have hr1 : rawEv l = ⟨l.getD 0 0, l.getD 1 0, l.getD 2 0, 0, ⟨l.getD 3 0, l.getD 4 0, l.getD 5 0, ⟨l.getD 6 0, l.getD 7 0, l.getD 8 0⟩, l.getD 9 0, l.getD 10 0, l.getD 11 0, untxt (l.drop 12)⟩⟩ := by unfold rawEv; rw [if_pos hk, hk]
          rw [eventR_ok hf, hr1]
          repeat' (first
            | refine AOps.q rfl rfl rfl (fun hg => by first | exact std0 | exact PRun.buildW tabOk rfl rfl nds | exact PRun.sliceLoM tabOk rfl rfl nd rfl nd rfl (by omega) | exact PRun.sliceHiM tabOk rfl rfl nd rfl nd rfl (by omega) | exact PRun.sliceM tabOk rfl rfl nd rfl nd rfl nd rfl (by omega) | exact PRun.callW (ht) rfl rfl nd rfl nds | exact PRun.callW (hv) rfl rfl nd rfl nds | exact std1) (by exact rfl) ?_
            | refine AWP.seq ?_
            | refine AWP.regionK (fun K' hK => ?_)
            | (refine AOps.nil (hK _ _ ?_); clear hK K')
            | refine AOps.e (EStep.boxW rfl rfl rfl rfl rfl True.intro rfl rfl ?_)
            | refine AOps.e (EStep.storeW tabOk rfl rfl rfl True.intro rfl rfl True.intro rfl rfl rfl rfl rfl rfl rfl ?_)
            | refine AOps.e (EStep.allocW tabOk rfl rfl rfl rfl rfl rfl ?_)
            | (refine AWP.condW rfl True.intro (fun hc => ?_) (fun hc => ?_) <;> (first | (simp only [decide_eq_true_eq] at hc) | (simp only [decide_eq_false_iff_not, Int.not_lt, Int.not_le] at hc) | skip))
            | refine AWP.block ?_
            | refine AWP.exit ?_
            | refine AWP.skip ?_
            | refine AWP.ret ?_
            | refine AWP.drawK2 (by decide +kernel) (by kernel_rfl) (by decide +kernel) rfl (fun K' hK => ?_)
            | refine AWP.drawL2 (by kernel_rfl) (by decide +kernel) rfl (fun K' hK => ?_)
            | (refine AQ.nil (hK _ ?_); clear hK K')
            | refine AQ.nil ?_
            | refine AQ.q rfl rfl (fun hg => by first | exact std0 | exact PRun.buildW tabOk rfl rfl nds | exact PRun.sliceLoM tabOk rfl rfl nd rfl nd rfl (by omega) | exact PRun.sliceHiM tabOk rfl rfl nd rfl nd rfl (by omega) | exact PRun.sliceM tabOk rfl rfl nd rfl nd rfl nd rfl (by omega) | exact PRun.callW (ht) rfl rfl nd rfl nds | exact PRun.callW (hv) rfl rfl nd rfl nds | exact std1) (by exact rfl) ?_)
          all_goals first
            | (exfalso; omega)
            | (exfalso; simp at hc; done)
            | (exfalso; rename_i h; rw [hk] at h; cases h; done)
            | (exfalso; rename_i h _; rw [hk] at h; cases h; done)
            | (exfalso; rename_i h _ _; rw [hk] at h; cases h; done)
            | exact ⟨.inr rfl, _, rfl, Ent.of rfl⟩
            | (rw [if_neg (by simpa using hc)]; exact ⟨.inr rfl, _, rfl, Ent.of rfl⟩)
            | (rw [if_pos (by simpa using hc)]; exact ⟨.inr rfl, _, rfl, Ent.of rfl⟩)
      · have hf : formOk l = false := by unfold formOk; rw [if_pos hk]; simp; omega
        rw [eventR_form hf]
        repeat' (first
          | refine AOps.q rfl rfl rfl (fun hg => by first | exact std0 | exact PRun.buildW tabOk rfl rfl nds | exact std1) (by exact rfl) ?_
          | refine AWP.seq ?_
          | refine AWP.regionK (fun K' hK => ?_)
          | (refine AOps.nil (hK _ _ ?_); clear hK K')
          | refine AOps.e (EStep.boxW rfl rfl rfl rfl rfl True.intro rfl rfl ?_)
          | refine AOps.e (EStep.storeW tabOk rfl rfl rfl True.intro rfl rfl True.intro rfl rfl rfl rfl rfl rfl rfl ?_)
          | refine AOps.e (EStep.allocW tabOk rfl rfl rfl rfl rfl rfl ?_)
          | (refine AWP.condW rfl True.intro (fun hc => ?_) (fun hc => ?_) <;> (first | (simp only [decide_eq_true_eq] at hc) | (simp only [decide_eq_false_iff_not, Int.not_lt, Int.not_le] at hc) | skip))
          | refine AWP.block ?_
          | refine AWP.exit ?_
          | refine AWP.skip ?_
          | refine AWP.ret ?_
          | refine AWP.drawK2 (by decide +kernel) (by kernel_rfl) (by decide +kernel) rfl (fun K' hK => ?_)
          | refine AWP.drawL2 (by kernel_rfl) (by decide +kernel) rfl (fun K' hK => ?_)
          | (refine AQ.nil (hK _ ?_); clear hK K')
          | refine AQ.nil ?_
          | refine AQ.q rfl rfl (fun hg => by first | exact std0 | exact PRun.buildW tabOk rfl rfl nds | exact std1) (by exact rfl) ?_)
        all_goals first
          | (exfalso; omega)
          | (exfalso; simp at hc; done)
          | (exfalso; rename_i h; rw [hk] at h; cases h; done)
          | (exfalso; rename_i h _; rw [hk] at h; cases h; done)
          | (exfalso; rename_i h _ _; rw [hk] at h; cases h; done)
          | exact ⟨.inr rfl, _, rfl, Ent.of rfl⟩
          | (rw [if_neg (by simpa using hc)]; exact ⟨.inr rfl, _, rfl, Ent.of rfl⟩)
          | (rw [if_pos (by simpa using hc)]; exact ⟨.inr rfl, _, rfl, Ent.of rfl⟩)
    · by_cases h44 : l.length = 4
      · have hf : formOk l = true := by unfold formOk; rw [if_neg hk]; simp; omega
        have hv := event22_spec ⟨l.getD 0 0, l.getD 1 0, l.getD 2 0, l.getD 3 0, noMark⟩ (by simp [noMark])
        have hr1 : rawEv l = ⟨l.getD 0 0, l.getD 1 0, l.getD 2 0, l.getD 3 0, noMark⟩ := if_neg hk
        rw [eventR_ok hf, hr1]
        repeat' (first
          | refine AOps.q rfl rfl rfl (fun hg => by first | exact std0 | exact PRun.buildW tabOk rfl rfl nds | exact PRun.callW (hv) rfl rfl nd rfl nds | exact std1) (by exact rfl) ?_
          | refine AWP.seq ?_
          | refine AWP.regionK (fun K' hK => ?_)
          | (refine AOps.nil (hK _ _ ?_); clear hK K')
          | refine AOps.e (EStep.boxW rfl rfl rfl rfl rfl True.intro rfl rfl ?_)
          | refine AOps.e (EStep.storeW tabOk rfl rfl rfl True.intro rfl rfl True.intro rfl rfl rfl rfl rfl rfl rfl ?_)
          | refine AOps.e (EStep.allocW tabOk rfl rfl rfl rfl rfl rfl ?_)
          | (refine AWP.condW rfl True.intro (fun hc => ?_) (fun hc => ?_) <;> (first | (simp only [decide_eq_true_eq] at hc) | (simp only [decide_eq_false_iff_not, Int.not_lt, Int.not_le] at hc) | skip))
          | refine AWP.block ?_
          | refine AWP.exit ?_
          | refine AWP.skip ?_
          | refine AWP.ret ?_
          | refine AWP.drawK2 (by decide +kernel) (by kernel_rfl) (by decide +kernel) rfl (fun K' hK => ?_)
          | refine AWP.drawL2 (by kernel_rfl) (by decide +kernel) rfl (fun K' hK => ?_)
          | (refine AQ.nil (hK _ ?_); clear hK K')
          | refine AQ.nil ?_
          | refine AQ.q rfl rfl (fun hg => by first | exact std0 | exact PRun.buildW tabOk rfl rfl nds | exact PRun.callW (hv) rfl rfl nd rfl nds | exact std1) (by exact rfl) ?_)
        all_goals first
          | (exfalso; omega)
          | (exfalso; simp at hc; omega)
          | (exfalso; simp at hc; done)
          | (exfalso; exact hk (eq_of_beq hc))
          | (exfalso; rename_i h; exact hk (eq_of_beq h))
          | (exfalso; rename_i h _; exact hk (eq_of_beq h))
          | (exfalso; rename_i h _ _; exact hk (eq_of_beq h))
          | (exfalso; rename_i h _ _ _; exact hk (eq_of_beq h))
          | exact ⟨.inr rfl, _, rfl, Ent.of rfl⟩
          | (rw [if_neg (by simpa using hc)]; exact ⟨.inr rfl, _, rfl, Ent.of rfl⟩)
          | (rw [if_pos (by simpa using hc)]; exact ⟨.inr rfl, _, rfl, Ent.of rfl⟩)
      · have hf : formOk l = false := by unfold formOk; rw [if_neg hk]; simp; omega
        rw [eventR_form hf]
        repeat' (first
          | refine AOps.q rfl rfl rfl (fun hg => by first | exact std0 | exact PRun.buildW tabOk rfl rfl nds | exact std1) (by exact rfl) ?_
          | refine AWP.seq ?_
          | refine AWP.regionK (fun K' hK => ?_)
          | (refine AOps.nil (hK _ _ ?_); clear hK K')
          | refine AOps.e (EStep.boxW rfl rfl rfl rfl rfl True.intro rfl rfl ?_)
          | refine AOps.e (EStep.storeW tabOk rfl rfl rfl True.intro rfl rfl True.intro rfl rfl rfl rfl rfl rfl rfl ?_)
          | refine AOps.e (EStep.allocW tabOk rfl rfl rfl rfl rfl rfl ?_)
          | (refine AWP.condW rfl True.intro (fun hc => ?_) (fun hc => ?_) <;> (first | (simp only [decide_eq_true_eq] at hc) | (simp only [decide_eq_false_iff_not, Int.not_lt, Int.not_le] at hc) | skip))
          | refine AWP.block ?_
          | refine AWP.exit ?_
          | refine AWP.skip ?_
          | refine AWP.ret ?_
          | refine AWP.drawK2 (by decide +kernel) (by kernel_rfl) (by decide +kernel) rfl (fun K' hK => ?_)
          | refine AWP.drawL2 (by kernel_rfl) (by decide +kernel) rfl (fun K' hK => ?_)
          | (refine AQ.nil (hK _ ?_); clear hK K')
          | refine AQ.nil ?_
          | refine AQ.q rfl rfl (fun hg => by first | exact std0 | exact PRun.buildW tabOk rfl rfl nds | exact std1) (by exact rfl) ?_)
        all_goals first
          | (exfalso; omega)
          | (exfalso; simp at hc; omega)
          | (exfalso; simp at hc; done)
          | (exfalso; exact hk (eq_of_beq hc))
          | (exfalso; rename_i h; exact hk (eq_of_beq h))
          | (exfalso; rename_i h _; exact hk (eq_of_beq h))
          | (exfalso; rename_i h _ _; exact hk (eq_of_beq h))
          | (exfalso; rename_i h _ _ _; exact hk (eq_of_beq h))
          | exact ⟨.inr rfl, _, rfl, Ent.of rfl⟩
          | (rw [if_neg (by simpa using hc)]; exact ⟨.inr rfl, _, rfl, Ent.of rfl⟩)
          | (rw [if_pos (by simpa using hc)]; exact ⟨.inr rfl, _, rfl, Ent.of rfl⟩)
  · have hf : formOk l = false := by
      unfold formOk
      cases h : decide (4 ≤ l.length) <;> cases h' : decide (l.length ≤ 212) <;> simp at h h' ⊢
      omega
    rw [eventR_form hf]
    refine PCall.bodyS tabOk Try.func16 rfl rfl Try.ntmps16 rfl ?_
    repeat' (first
      | refine AOps.q rfl rfl rfl (fun hg => by first | exact std0 | exact PRun.buildW tabOk rfl rfl nds | exact std1) (by exact rfl) ?_
      | refine AWP.seq ?_
      | refine AWP.regionK (fun K' hK => ?_)
      | (refine AOps.nil (hK _ _ ?_); clear hK K')
      | refine AOps.e (EStep.boxW rfl rfl rfl rfl rfl True.intro rfl rfl ?_)
      | refine AOps.e (EStep.storeW tabOk rfl rfl rfl True.intro rfl rfl True.intro rfl rfl rfl rfl rfl rfl rfl ?_)
      | refine AOps.e (EStep.allocW tabOk rfl rfl rfl rfl rfl rfl ?_)
      | (refine AWP.condW rfl True.intro (fun hc => ?_) (fun hc => ?_) <;> (first | (simp only [decide_eq_true_eq] at hc) | (simp only [decide_eq_false_iff_not, Int.not_lt, Int.not_le] at hc) | skip))
      | refine AWP.block ?_
      | refine AWP.exit ?_
      | refine AWP.skip ?_
      | refine AWP.ret ?_
      | (refine AQ.nil (hK _ ?_); clear hK K')
      | refine AQ.nil ?_
      | refine AQ.q rfl rfl (fun hg => by first | exact std0 | exact PRun.buildW tabOk rfl rfl nds | exact std1) (by exact rfl) ?_)
    all_goals first
      | (exfalso; omega)
      | (exfalso; simp at hc; omega)
      | (exfalso; simp at hc; done)
      | (exfalso; exact hk (eq_of_beq hc))
      | (exfalso; rename_i h; exact hk (eq_of_beq h))
      | (exfalso; rename_i h _; exact hk (eq_of_beq h))
      | (exfalso; rename_i h _ _; exact hk (eq_of_beq h))
      | (exfalso; rename_i h _ _ _; exact hk (eq_of_beq h))
      | exact ⟨.inr rfl, _, rfl, Ent.of rfl⟩
      | (rw [if_neg (by simpa using hc)]; exact ⟨.inr rfl, _, rfl, Ent.of rfl⟩)
      | (rw [if_pos (by simpa using hc)]; exact ⟨.inr rfl, _, rfl, Ent.of rfl⟩)
end Go.Proofs.Ytpkolkfglgalpaa
