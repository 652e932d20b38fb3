/- Contracts by content: Valid of editions, of the program. No statement is proved here. -/
import Derived.Test.YtnmdmmfdnnmdfaaGreatDoorEH
set_option linter.unusedVariables false
set_option linter.unusedSimpArgs false
namespace Go.Proofs.YtnmdmmfdnnmdfaaGreatDoor.Ed
open Go.Ab
attribute [local irreducible] AWP AOps EStep AQ PStep PRun PCall TCall VCall

theorem evalid1_spec (b : Printed) (al : List (Int × Bool)) : PCall Tryz.prog 54 [.agg (encP b), .iptr [.imap (Go.Ab.encM ekI AV.b al)]] (.b (!((lk al b.bar).getD false))) := by
  refine PCall.body Tryz.func54 rfl rfl Tryz.ntmps54 rfl rfl ?_
  repeat' (first | refine AOps.q rfl rfl rfl (fun hg => by first | exact std0 | exact PRun.lookup (ek := ekI) (ev := AV.b) (zv := false) (keyLaw_int (LOk.of (tabOk.get rfl))) (LOk.of (tabOk.get rfl)) (LOk.of (tabOk.get rfl)) rfl rfl (Rd.w rfl nd) (Or.inl rfl) (Rd.w rfl nd) rfl | exact std1) (by exact rfl) ?_ | refine AWP.seq ?_ | refine AWP.regionK (fun K' hK => ?_) | (refine AOps.nil (hK _ _ ?_); clear hK K') | refine AOps.e (EStep.boxW rfl rfl rfl rfl rfl True.intro rfl rfl ?_) | refine AOps.e (EStep.storeW tabOk rfl rfl rfl True.intro rfl rfl True.intro rfl rfl rfl rfl rfl rfl rfl ?_) | refine AOps.e (EStep.allocW tabOk rfl rfl rfl rfl rfl rfl ?_) | (refine AWP.condW rfl True.intro (fun hc => ?_) (fun hc => ?_) <;> (first | (simp only [decide_eq_true_eq] at hc) | (simp only [decide_eq_false_iff_not, Int.not_lt, Int.not_le] at hc) | skip)) | refine AWP.block ?_ | refine AWP.exit ?_ | refine AWP.skip ?_ | refine AWP.ret ?_ | refine AWP.drawK2 (by decide +kernel) (by kernel_rfl) (by decide +kernel) rfl (fun K' hK => ?_) | refine AWP.drawL2 (by kernel_rfl) (by decide +kernel) rfl (fun K' hK => ?_) | (refine AQ.nil (hK _ ?_); clear hK K') | refine AQ.nil ?_ | refine AQ.q rfl rfl (fun hg => by first | exact std0 | exact PRun.lookup (ek := ekI) (ev := AV.b) (zv := false) (keyLaw_int (LOk.of (tabOk.get rfl))) (LOk.of (tabOk.get rfl)) (LOk.of (tabOk.get rfl)) rfl rfl (Rd.w rfl nd) (Or.inl rfl) (Rd.w rfl nd) rfl | exact std1) (by exact rfl) ?_)
  exact ⟨.inr rfl, Ent.b rfl⟩
theorem bar_known (bars : List Bar) (id : Int) : decide (id ∈ bars.map fun b : Bar => b.id) = decide (0 ≤ barAt bars id) := by
  rw [Bool.eq_iff_iff, decide_eq_true_eq, decide_eq_true_eq]
  constructor
  · intro h
    obtain ⟨b, hb, e⟩ := List.mem_map.1 h
    rcases Int.lt_or_le (barAt bars id) 0 with h2 | h2
    · exfalso
      have h3 := findI_any (fun b : Bar => b.id == id) bars
      rw [show decide (findI (fun b : Bar => b.id == id) bars ≥ 0) = false from decide_eq_false (by unfold barAt at h2; omega)] at h3
      have h4 := List.all_eq_true.1 h3.symm b hb
      have e' : b.id = id := e
      rw [e'] at h4
      simp at h4
    · exact h2
  · intro h
    obtain ⟨k, h1, h2, h3, _⟩ := findI_lt (p := fun b : Bar => b.id == id) (l := bars) h
    exact List.mem_map.2 ⟨bars.getD k default, by rw [getD_lt h2]; exact List.getElem_mem h2, by simpa using h3⟩
theorem score_bars {s : Score} (h : scoreOk s = true) : (s.bars.map fun b : Bar => b.id).Nodup := by
  unfold scoreOk scoreBad at h
  simp only [Bool.and_eq_true, Bool.not_eq_true', Bool.or_eq_false_iff, Bool.not_eq_false'] at h
  exact barsOk_nodup h.1.1.1.1.2
set_option maxHeartbeats 4000000 in
theorem evalid_spec (s : Score) (hs : s.Small) (e : Edition) (hw : Wf e) : PCall Tryz.prog 17 [.agg (encS s), .agg (encE e)] (.b (edOk s e)) := by
  have h1 := svalid_spec s hs
  obtain ⟨s1, s2, s3⟩ := hs
  have hb := hw.bars
  refine PCall.body Tryz.func17 rfl rfl Tryz.ntmps17 rfl rfl ?_
  repeat' (first | refine AOps.q rfl rfl rfl (fun hg => by first | exact std0 | exact PRun.callW (h1) rfl rfl nd rfl nds | exact PRun.callW (formed_form e hw) rfl rfl nd rfl nds | exact std1) (by exact rfl) ?_ | refine AWP.seq ?_ | refine AWP.regionK (fun K' hK => ?_) | (refine AOps.nil (hK _ _ ?_); clear hK K') | refine AOps.e (EStep.boxW rfl rfl rfl rfl rfl True.intro rfl rfl ?_) | refine AOps.e (EStep.storeW tabOk rfl rfl rfl True.intro rfl rfl True.intro rfl rfl rfl rfl rfl rfl rfl ?_) | refine AOps.e (EStep.allocW tabOk rfl rfl rfl rfl rfl rfl ?_) | refine AOps.e (EStep.makeMapW rfl rfl rfl rfl ?_) | (refine AWP.condW rfl True.intro (fun hc => ?_) (fun hc => ?_) <;> (first | (simp only [decide_eq_true_eq] at hc) | (simp only [decide_eq_false_iff_not, Int.not_lt, Int.not_le] at hc) | skip)) | refine AWP.block ?_ | refine AWP.exit ?_ | refine AWP.skip ?_ | refine AWP.ret ?_ | refine AWP.drawK2 (by decide +kernel) (by kernel_rfl) (by decide +kernel) rfl (fun K' hK => ?_) | refine AWP.drawL2 (by kernel_rfl) (by decide +kernel) rfl (fun K' hK => ?_) | (refine AQ.nil (hK _ ?_); clear hK K') | refine AQ.nil ?_ | refine AQ.q rfl rfl (fun hg => by first | exact std0 | exact PRun.callW (h1) rfl rfl nd rfl nds | exact PRun.callW (formed_form e hw) rfl rfl nd rfl nds | exact std1) (by exact rfl) ?_)
  · refine ⟨.inr rfl, Ent.b (Eq.symm ?_)⟩
    unfold edOk
    have h9 : ((!scoreOk s || !formB e) || e.version != s.version) = true := hc
    unfold bne at h9
    revert h9
    cases scoreOk s <;> cases formB e <;> cases e.version == s.version <;> simp
  have hok : ((scoreOk s && formB e) && e.version == s.version) = true := by
    have h9 : ((!scoreOk s || !formB e) || e.version != s.version) = false := hc
    unfold bne at h9
    revert h9
    cases scoreOk s <;> cases formB e <;> cases e.version == s.version <;> simp
  clear hc h1
  have hnd := score_bars (s := s) (by simp only [Bool.and_eq_true] at hok; exact hok.1.1)
  refine AWP.loopD (ι := Nat) (fun k => [(3, .ptr 1 0), (5, .ptr 3 0), (25, .sl 4 (s.bars.map encB) .no), (26, .int s.bars.length), (27, .int k)]) (fun k => [.var (encS s), .var (encE e), .map (Go.Ab.encM ekI AV.b (seenAL (fun b : Bar => b.id) (s.bars.take k))), .var [.map 2]])
    (fun k => k ≤ s.bars.length) (fun k => s.bars.length - k) 4 (fun _ => rfl) 0 (Nat.zero_le _) ⟨rfl, rfl, rfl, rfl, rfl, True.intro⟩ rfl (fun _ _ => rfl) (fun k _ => by
      simp only [List.all_cons, List.all_nil, Bool.and_true, Bool.and_eq_true]
      exact ⟨rfl, rfl, by simp [okObj, Go.Ab.encM, okRef], rfl⟩) ?_
  intro k hk
  by_cases hlt : k < s.bars.length
  · have hnew : (s.bars.getD k default).id ∉ (s.bars.take k).map (fun b : Bar => b.id) := by
      have h9 : ((s.bars.take (k + 1)).map (fun b : Bar => b.id)).Nodup := by
        rw [← List.take_append_drop (k + 1) s.bars, List.map_append] at hnd
        exact (List.nodup_append.1 hnd).1
      exact ((nodup_succ (fun b : Bar => b.id) s.bars k hlt).1 h9).2
    have hsucc := seen_succ (fun b : Bar => b.id) s.bars k hlt hnew
    repeat' (first | refine AOps.q rfl rfl rfl (fun hg => by first | exact std0 | exact std1) (by exact rfl) ?_ | refine AWP.seq ?_ | refine AWP.regionK (fun K' hK => ?_) | (refine AOps.nil (hK _ _ ?_); clear hK K') | refine AOps.e (EStep.boxW rfl rfl rfl rfl rfl True.intro rfl rfl ?_) | refine AOps.e (EStep.storeW tabOk rfl rfl rfl True.intro rfl rfl True.intro rfl rfl rfl rfl rfl rfl rfl ?_) | refine AOps.e (EStep.allocW tabOk rfl rfl rfl rfl rfl rfl ?_) | refine AOps.e (EStep.mapUpd (ek := ekI) (ev := AV.b) (v := true) (keyLaw_int (LOk.of (tabOk.get rfl))) (LOk.of (tabOk.get rfl)) rfl rfl rfl (Rd.w rfl True.intro) rfl (Rd.w rfl True.intro) rfl (Rd.w rfl True.intro) ?_) | (refine AWP.condW rfl True.intro (fun hc => ?_) (fun hc => ?_) <;> (first | (simp only [decide_eq_true_eq] at hc) | (simp only [decide_eq_false_iff_not, Int.not_lt, Int.not_le] at hc) | skip)) | refine AWP.block ?_ | refine AWP.exit ?_ | refine AWP.skip ?_ | refine AWP.ret ?_ | refine AWP.drawK2 (by decide +kernel) (by kernel_rfl) (by decide +kernel) rfl (fun K' hK => ?_) | refine AWP.drawL2 (by kernel_rfl) (by decide +kernel) rfl (fun K' hK => ?_) | (refine AQ.nil (hK _ ?_); clear hK K') | refine AQ.nil ?_ | refine AQ.q rfl rfl (fun hg => by first | exact std0 | exact std1) (by exact rfl) ?_)
    all_goals (first | (exfalso; omega) | skip)
    refine ⟨k + 1, by omega, by omega, ⟨rfl, rfl, rfl, rfl, rfl, True.intro⟩, ?_⟩
    rw [← hsucc]; rfl
  · obtain rfl : k = s.bars.length := by omega
    rw [List.take_length]
    have hp : ∀ b ∈ e.bars, FnCall Tryz.prog (.fn (.func 54) [] [.iptr [.imap (Go.Ab.encM ekI AV.b (seenAL (fun b : Bar => b.id) s.bars))]]) [.agg (encP b)] (.b (!((lk (seenAL (fun b : Bar => b.id) s.bars) b.bar).getD false))) := fun b _ =>
      ⟨54, [], [.iptr [.imap (Go.Ab.encM ekI AV.b (seenAL (fun b : Bar => b.id) s.bars))]], rfl, evalid1_spec b _⟩
    have ha := anyP_spec e.bars _ _ hp hw.bars
    refine AWP.freezeMapV (ek := ekI) (ev := AV.b) (l := 2) (al := seenAL (fun b : Bar => b.id) s.bars) rfl pureE_b ?_
    refine AWP.keep [(3, .ptr 1 0), (5, .ptr 3 0), (25, .sl 4 (s.bars.map encB) .no), (26, .int s.bars.length), (27, .int s.bars.length)] ⟨rfl, rfl, rfl, rfl, rfl, True.intro⟩ ?_
    repeat' (first | refine AOps.q rfl rfl rfl (fun hg => by first | exact std0 | exact PRun.callBW (ha) rfl rfl nd rfl rfl nds | exact std1) (by exact rfl) ?_ | refine AWP.seq ?_ | refine AWP.regionK (fun K' hK => ?_) | (refine AOps.nil (hK _ _ ?_); clear hK K') | refine AOps.e (EStep.boxW rfl rfl rfl rfl rfl True.intro rfl rfl ?_) | refine AOps.e (EStep.storeW tabOk rfl rfl rfl True.intro rfl rfl True.intro rfl rfl rfl rfl rfl rfl rfl ?_) | refine AOps.e (EStep.allocW tabOk rfl rfl rfl rfl rfl rfl ?_) | (refine AWP.condW rfl True.intro (fun hc => ?_) (fun hc => ?_) <;> (first | (simp only [decide_eq_true_eq] at hc) | (simp only [decide_eq_false_iff_not, Int.not_lt, Int.not_le] at hc) | skip)) | refine AWP.block ?_ | refine AWP.exit ?_ | refine AWP.skip ?_ | refine AWP.ret ?_ | refine AWP.drawK2 (by decide +kernel) (by kernel_rfl) (by decide +kernel) rfl (fun K' hK => ?_) | refine AWP.drawL2 (by kernel_rfl) (by decide +kernel) rfl (fun K' hK => ?_) | (refine AQ.nil (hK _ ?_); clear hK K') | refine AQ.nil ?_ | refine AQ.q rfl rfl (fun hg => by first | exact std0 | exact PRun.callBW (ha) rfl rfl nd rfl rfl nds | exact std1) (by exact rfl) ?_)
    all_goals (first | (exfalso; omega) | skip)
    refine ⟨.inr rfl, Ent.b (Eq.symm ?_)⟩
    unfold edOk
    rw [hok, Bool.true_and]
    refine Eq.trans ?_ (findI_any _ _).symm
    congr 1
    funext b
    rw [lk_seen, bar_known, Bool.not_not]
end Go.Proofs.YtnmdmmfdnnmdfaaGreatDoor.Ed
