/- Contracts by content: the reference's order and sort of notes. No statement is proved here. -/
import Derived.Test.YtnmdmmfdnnmdfaaGreatDoorSF
set_option linter.unusedVariables false
set_option linter.unusedSimpArgs false
namespace Go.Proofs.YtnmdmmfdnnmdfaaGreatDoor
open Go.Ab Go.Sort
attribute [local irreducible] AWP AOps EStep AQ PStep PRun PCall TCall VCall

theorem bneF {a b : Int} (h : (a != b) = false) : (a == b) = true := by simpa using h
theorem bneT {a b : Int} (h : (a != b) = true) : (a == b) = false := by simpa using h
theorem lk0_bar {bars : List Bar} {n : Note} (hb : barsOk bars = true) (h : noteOk bars n = true) : barAt bars n.bar = lk0 (idxAL bars) n.bar := by
  rcases lk_bar (barsOk_nodup hb) n.bar with ⟨h1, h2⟩ | ⟨j, h1, h2, h3, h4⟩
  · unfold noteOk at h; rw [h1] at h; cases h
  · unfold lk0; rw [h1, h2]; rfl
theorem noteOk_form {bars : List Bar} {n : Note} (h : noteOk bars n = true) : durOk n.start = true ∧ pitchOk n.pitch = true := by
  unfold noteOk at h
  split at h
  · unfold nformed fits noteForm noteP at h
    simp only [Bool.and_eq_true] at h
    refine ⟨?_, h.2.2.1.1⟩
    have := h.1.1.1.1
    unfold ticksR at this
    by_cases h2 : durOk n.start = true
    · exact h2
    · rw [if_neg h2] at this; cases this
  · cases h
set_option maxHeartbeats 4000000 in
theorem keys_spec (bars : List Bar) (n : Note) (hl : bars.length ≤ 9223372036854775807) (hb : barsOk bars = true) (h : noteOk bars n = true) : PCall Tryz.prog 76 [.sl 4 (bars.map encB) .no, .agg (encN n)] (.sl 1 ((keyN (idxAL bars) n).map fun n => [AV.int n]) .no) := by
  obtain ⟨f1, f2⟩ := noteOk_form h
  have h1 := r7bar_spec bars n.bar hl
  rw [lk0_bar hb h] at h1
  have h2 := ticks6_spec n.start
  have e2 : ticksX n.start = (ticksR n.start).1 := by unfold ticksX ticksR; rw [if_pos f1, if_pos f1]
  rw [e2] at h2
  have h3 := sound_spec n.pitch (pitchIn_ok f2)
  rw [soundR_num f2] at h3
  refine PCall.body Tryz.func76 rfl rfl Tryz.ntmps76 rfl rfl ?_
  repeat' (first | refine AOps.q rfl rfl rfl (fun hg => by first | exact std0 | exact PRun.callW (h1) rfl rfl nd rfl nds | exact PRun.callW (h2) rfl rfl nd rfl nds | exact PRun.callW (h3) rfl rfl nd rfl nds | exact PRun.buildSlW tabOk rfl rfl nds | exact std1) (by exact rfl) ?_ | refine AWP.seq ?_ | refine AWP.regionK (fun K' hK => ?_) | (refine AOps.nil (hK _ _ ?_); clear hK K') | refine AOps.e (EStep.boxW rfl rfl rfl rfl rfl True.intro rfl rfl ?_) | refine AOps.e (EStep.storeW tabOk rfl rfl rfl True.intro rfl rfl True.intro rfl rfl rfl rfl rfl rfl rfl ?_) | refine AOps.e (EStep.allocW tabOk rfl rfl rfl rfl rfl rfl ?_) | (refine AWP.condW rfl True.intro (fun hc => ?_) (fun hc => ?_) <;> (first | (simp only [decide_eq_true_eq] at hc) | (simp only [decide_eq_false_iff_not, Int.not_lt, Int.not_le] at hc) | skip)) | refine AWP.block ?_ | refine AWP.exit ?_ | refine AWP.skip ?_ | refine AWP.ret ?_ | refine AWP.drawK2 (by decide +kernel) (by kernel_rfl) (by decide +kernel) rfl (fun K' hK => ?_) | refine AWP.drawL2 (by kernel_rfl) (by decide +kernel) rfl (fun K' hK => ?_) | (refine AQ.nil (hK _ ?_); clear hK K') | refine AQ.nil ?_ | refine AQ.q rfl rfl (fun hg => by first | exact std0 | exact PRun.callW (h1) rfl rfl nd rfl nds | exact PRun.callW (h2) rfl rfl nd rfl nds | exact PRun.callW (h3) rfl rfl nd rfl nds | exact PRun.buildSlW tabOk rfl rfl nds | exact std1) (by exact rfl) ?_)
  exact ⟨.inr rfl, Ent.of rfl⟩
theorem cmpK_diff {a b : List Int} {k : Nat} (hl : a.length = b.length) (hk : k < a.length) (h : ∀ j, j < k → a.getD j default = b.getD j default) (h1 : a.getD k default ≠ b.getD k default) : cmpK a b = a.getD k default - b.getD k default := by
  unfold cmpK
  have hz : ∀ j, j < a.length → (List.zipWith (· - ·) a b).getD j default = a.getD j default - b.getD j default := fun j hj => by
    rw [getD_lt (show j < (List.zipWith (· - ·) a b).length by simp; omega), getD_lt hj, getD_lt (show j < b.length by omega), List.getElem_zipWith]
  rw [orL_first (k := k) (by simp; omega) (fun j hj => by rw [hz j (by omega), h j hj]; show _ - _ = (0 : Int); omega) (by rw [hz k hk]; omega), hz k hk]
theorem cmpK_same {a b : List Int} (hl : a.length = b.length) (h : ∀ j, j < a.length → a.getD j default = b.getD j default) : cmpK a b = 0 := by
  unfold cmpK
  refine orL_zero fun j hj => ?_
  simp only [List.length_zipWith] at hj
  rw [getD_lt (show j < (List.zipWith (· - ·) a b).length by simp; omega), List.getElem_zipWith]
  have := h j (by omega)
  rw [getD_lt (by omega), getD_lt (by omega)] at this
  omega
theorem before_spec (bars : List Bar) (a b : Note) (hl : bars.length ≤ 9223372036854775807) (hb : barsOk bars = true) (ha' : noteOk bars a = true) (hb' : noteOk bars b = true) :
    PCall Tryz.prog 36 [.sl 4 (bars.map encB) .no, .agg (encN a), .agg (encN b)] (.b (bef (idxAL bars) a b)) := by
  have h1 := keys_spec bars a hl hb ha'
  have h2 := keys_spec bars b hl hb hb'
  have l1 : (keyN (idxAL bars) a).length = 6 := rfl
  have l2 : (keyN (idxAL bars) b).length = 6 := rfl
  unfold bef
  generalize keyN (idxAL bars) a = x at *
  generalize keyN (idxAL bars) b = y at *
  refine PCall.body Tryz.func36 rfl rfl Tryz.ntmps36 rfl rfl ?_
  repeat' (first | refine AOps.q rfl rfl rfl (fun hg => by first | exact std0 | exact PRun.callW (h1) rfl rfl nd rfl nds | exact PRun.callW (h2) rfl rfl nd rfl nds | exact std1) (by exact rfl) ?_ | refine AWP.seq ?_ | refine AWP.regionK (fun K' hK => ?_) | (refine AOps.nil (hK _ _ ?_); clear hK K') | refine AOps.e (EStep.boxW rfl rfl rfl rfl rfl True.intro rfl rfl ?_) | refine AOps.e (EStep.storeW tabOk rfl rfl rfl True.intro rfl rfl True.intro rfl rfl rfl rfl rfl rfl rfl ?_) | refine AOps.e (EStep.allocW tabOk rfl rfl rfl rfl rfl rfl ?_) | (refine AWP.condW rfl True.intro (fun hc => ?_) (fun hc => ?_) <;> (first | (simp only [decide_eq_true_eq] at hc) | (simp only [decide_eq_false_iff_not, Int.not_lt, Int.not_le] at hc) | skip)) | refine AWP.block ?_ | refine AWP.exit ?_ | refine AWP.skip ?_ | refine AWP.ret ?_ | refine AWP.drawK2 (by decide +kernel) (by kernel_rfl) (by decide +kernel) rfl (fun K' hK => ?_) | refine AWP.drawL2 (by kernel_rfl) (by decide +kernel) rfl (fun K' hK => ?_) | (refine AQ.nil (hK _ ?_); clear hK K') | refine AQ.nil ?_ | refine AQ.q rfl rfl (fun hg => by first | exact std0 | exact PRun.callW (h1) rfl rfl nd rfl nds | exact PRun.callW (h2) rfl rfl nd rfl nds | exact std1) (by exact rfl) ?_)
  refine AWP.loopW (ι := Nat) (fun k => [(7, .sl 1 (x.map fun n => [AV.int n]) .no), (8, .sl 1 (y.map fun n => [AV.int n]) .no), (9, .int k)]) (fun _ => [.var (encN a), .var (encN b)]) (fun k => k ≤ x.length ∧ ∀ j, j < k → x.getD j default = y.getD j default) (fun k => x.length - k) 0 ⟨Nat.zero_le _, fun j h => absurd h (by omega)⟩ ⟨rfl, rfl, rfl, True.intro⟩ rfl ?_
  rintro k ⟨hk, hall⟩
  by_cases hlt : k < x.length
  · repeat' (first | refine AOps.q rfl rfl rfl (fun hg => by first | exact std0 | exact std1) (by exact rfl) ?_ | refine AWP.seq ?_ | refine AWP.regionK (fun K' hK => ?_) | (refine AOps.nil (hK _ _ ?_); clear hK K') | refine AOps.e (EStep.boxW rfl rfl rfl rfl rfl True.intro rfl rfl ?_) | refine AOps.e (EStep.storeW tabOk rfl rfl rfl True.intro rfl rfl True.intro rfl rfl rfl rfl rfl rfl rfl ?_) | refine AOps.e (EStep.allocW tabOk rfl rfl rfl rfl rfl rfl ?_) | (refine AWP.condW rfl True.intro (fun hc => ?_) (fun hc => ?_) <;> (first | (simp only [decide_eq_true_eq] at hc) | (simp only [decide_eq_false_iff_not, Int.not_lt, Int.not_le] at hc) | skip)) | refine AWP.block ?_ | refine AWP.exit ?_ | refine AWP.skip ?_ | refine AWP.ret ?_ | refine AWP.drawK2 (by decide +kernel) (by kernel_rfl) (by decide +kernel) rfl (fun K' hK => ?_) | refine AWP.drawL2 (by kernel_rfl) (by decide +kernel) rfl (fun K' hK => ?_) | (refine AQ.nil (hK _ ?_); clear hK K') | refine AQ.nil ?_ | refine AQ.q rfl rfl (fun hg => by first | exact std0 | exact std1) (by exact rfl) ?_)
    all_goals (first | (exfalso; omega) | skip)
    · refine ⟨.inr rfl, Ent.b ?_⟩
      have h5 : x.getD k default ≠ y.getD k default := by
        have := bneT hc
        rw [Int.toNat_natCast] at this
        simpa using this
      rw [cmpK_diff (by omega) hlt hall h5, Int.toNat_natCast, decide_eq_decide]
      omega
    · refine ⟨k + 1, ⟨by omega, fun j hj => lt_succ_cases hall ?_ hj⟩, by omega, ⟨rfl, rfl, rfl, True.intro⟩, rfl⟩
      have := bneF hc
      rw [Int.toNat_natCast] at this
      simpa using this
  · repeat' (first | refine AOps.q rfl rfl rfl (fun hg => by first | exact std0 | exact std1) (by exact rfl) ?_ | refine AWP.seq ?_ | refine AWP.regionK (fun K' hK => ?_) | (refine AOps.nil (hK _ _ ?_); clear hK K') | refine AOps.e (EStep.boxW rfl rfl rfl rfl rfl True.intro rfl rfl ?_) | refine AOps.e (EStep.storeW tabOk rfl rfl rfl True.intro rfl rfl True.intro rfl rfl rfl rfl rfl rfl rfl ?_) | refine AOps.e (EStep.allocW tabOk rfl rfl rfl rfl rfl rfl ?_) | (refine AWP.condW rfl True.intro (fun hc => ?_) (fun hc => ?_) <;> (first | (simp only [decide_eq_true_eq] at hc) | (simp only [decide_eq_false_iff_not, Int.not_lt, Int.not_le] at hc) | skip)) | refine AWP.block ?_ | refine AWP.exit ?_ | refine AWP.skip ?_ | refine AWP.ret ?_ | refine AWP.drawK2 (by decide +kernel) (by kernel_rfl) (by decide +kernel) rfl (fun K' hK => ?_) | refine AWP.drawL2 (by kernel_rfl) (by decide +kernel) rfl (fun K' hK => ?_) | (refine AQ.nil (hK _ ?_); clear hK K') | refine AQ.nil ?_ | refine AQ.q rfl rfl (fun hg => by first | exact std0 | exact std1) (by exact rfl) ?_)
    all_goals (first | (exfalso; omega) | skip)
    refine ⟨.inr rfl, Ent.b ?_⟩
    rw [cmpK_same (by omega) fun j hj => hall j (by omega)]; rfl
theorem gp {k : Nat} (h : (decide ((k : Int) > 0) == true) = true) : 0 < k := by simp at h; omega
theorem all_mem {α : Type} [Inhabited α] {p : α → Bool} {l : List α} (h : ∀ x ∈ l, p x = true) {k : Nat} (hk : k < l.length) : p (l.getD k default) = true := h _ (by rw [getD_lt hk]; exact List.getElem_mem hk)
end Go.Proofs.YtnmdmmfdnnmdfaaGreatDoor
