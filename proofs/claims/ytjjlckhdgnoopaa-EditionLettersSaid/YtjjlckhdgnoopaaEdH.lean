/- The law of visits by content: for every edition, place and pass the function returns true. The row is joined in RowVisits. -/
import Derived.Test.YtjjlckhdgnoopaaEdE
namespace Go.Proofs.Ytjjlckhdgnoopaa
open Go.Ab
attribute [local irreducible] AWP AOps EStep AQ PStep PRun PCall

theorem inB_iff {n lo hi : Int} : inB n lo hi = true ↔ lo ≤ n ∧ n ≤ hi := by simp [inB]
theorem viR_bad {e : Edition} {i pass : Int} (h : (viR e i pass).err ≠ 0) : (viR e i pass).bar = 0 ∧ (viR e i pass).pass = 0 := by
  unfold viR at h ⊢
  split
  · rename_i h1
    rw [if_pos h1] at h
    split
    · rename_i h2; rw [if_pos h2] at h; exact absurd rfl h
    · rename_i h2; rw [if_neg h2] at h
      split
      · exact ⟨rfl, rfl⟩
      · rename_i h3; rw [if_neg h3] at h; exact absurd rfl h
  · exact ⟨rfl, rfl⟩

/-- What is printed at a place that has it is found, not after there, and printed there again. -/
theorem place_back {e : Edition} {vb vp : Int} (hf : formB e = true) (h1 : 1 ≤ vp) (h2 : vp ≤ 20000) (h3 : 1 ≤ vb) (h4 : vb ≤ 1000000) (k : Nat) (hk : plI e vb vp = k) :
    (plR e vb vp).err = 0 ∧ (plR e vb vp).ok = true ∧ (plR e vb vp).pos = k ∧ (plR e vb vp).pass ≠ 1 ∧ viR e k (plR e vb vp).pass = ⟨vb, vp, 0⟩ := by
  obtain ⟨k', e1, hlt, hp, _⟩ := findI_lt (p := plP vb vp) (l := e.bars) (by show 0 ≤ plI e vb vp; omega)
  have : k' = k := by have : plI e vb vp = k' := e1; omega
  subst this
  have hok : (formB e && inB vb 1 1000000 && inB vp 1 20000) = true := by
    simp only [Bool.and_eq_true, inB_iff]; exact ⟨⟨hf, h3, h4⟩, h1, h2⟩
  simp only [plP, Bool.and_eq_true, Bool.or_eq_true, beq_iff_eq] at hp
  obtain ⟨hb, hps⟩ := hp
  have hr : plR e vb vp = ⟨k', if (e.bars.getD k' default).pass == 0 && decide (vp > 1) then vp else 0, true, 0⟩ := by
    unfold plR
    rw [if_pos hok, if_neg (by omega), hk]; rfl
  rw [hr]
  have hlen : (k' : Int) ≤ (e.bars.length : Int) - 1 := by omega
  refine ⟨rfl, rfl, rfl, ?_, ?_⟩
  · simp only; split
    · rename_i h; simp at h; omega
    · omega
  simp only
  by_cases hz : (e.bars.getD k' default).pass = 0
  · by_cases hg : vp > 1
    · rw [if_pos (by rw [hz]; simp [hg])]
      unfold viR
      rw [if_pos (by simp only [Bool.and_eq_true, inB_iff]; exact ⟨⟨hf, by omega, hlen⟩, by omega, h2⟩)]
      simp only [Int.toNat_natCast]
      rw [if_pos hz, hb, Int.max_eq_right (by omega)]
    · rw [if_neg (by simp; omega)]
      unfold viR
      rw [if_pos (by simp only [Bool.and_eq_true, inB_iff]; exact ⟨⟨hf, by omega, hlen⟩, by omega, by omega⟩)]
      simp only [Int.toNat_natCast]
      rw [if_pos hz, hb, show vp = 1 by omega]; rfl
  · rw [if_neg (by rw [Bool.and_eq_true]; rintro ⟨h, _⟩; exact hz (by simpa only [beq_iff_eq] using h))]
    unfold viR
    rw [if_pos (by simp only [Bool.and_eq_true, inB_iff]; exact ⟨⟨hf, by omega, hlen⟩, by omega, by omega⟩)]
    simp only [Int.toNat_natCast]
    rw [if_neg hz, if_neg (by omega), hb]
    rcases hps with h | h
    · exact absurd h hz
    · rw [h]

theorem bars_ok {e : Edition} (hf : formB e = true) {b : Printed} (hb : b ∈ e.bars) : barOk b = true := by
  unfold formB at hf
  simp only [Bool.and_eq_true] at hf
  exact List.all_eq_true.1 hf.1.2 b hb

/-- A visit that is printed somewhere has a place, not after there. -/
theorem visits_plain {e : Edition} {i pass : Int} (h : (viR e i pass).err = 0) : ∃ k : Nat, plI e (viR e i pass).bar (viR e i pass).pass = k ∧ (k : Int) ≤ i ∧ formB e = true ∧
    1 ≤ (viR e i pass).pass ∧ (viR e i pass).pass ≤ 20000 ∧ 1 ≤ (viR e i pass).bar ∧ (viR e i pass).bar ≤ 1000000 := by
  have hok : (formB e && inB i 0 ((e.bars.length : Int) - 1) && inB pass 0 20000) = true := by
    cases hc : (formB e && inB i 0 ((e.bars.length : Int) - 1) && inB pass 0 20000) with
    | true => rfl
    | false => exfalso; unfold viR at h; rw [hc] at h; simp at h
  have hok' := hok
  simp only [Bool.and_eq_true, inB_iff] at hok'
  obtain ⟨⟨hf, hi1, hi2⟩, hp1, hp2⟩ := hok'
  have hlt : i.toNat < e.bars.length := by omega
  have hbo := bars_ok hf (getD_mem hlt)
  simp only [barOk, Bool.and_eq_true, inB_iff] at hbo
  obtain ⟨⟨_, hb1, hb2⟩, hb3, hb4⟩ := hbo
  have hv : (viR e i pass).bar = (e.bars.getD i.toNat default).bar ∧ 1 ≤ (viR e i pass).pass ∧ (viR e i pass).pass ≤ 20000 ∧ ((e.bars.getD i.toNat default).pass = 0 ∨ (e.bars.getD i.toNat default).pass = (viR e i pass).pass) := by
    unfold viR at h ⊢
    rw [if_pos hok] at h ⊢
    by_cases hz : (e.bars.getD i.toNat default).pass = 0
    · rw [if_pos hz]
      refine ⟨rfl, ?_, ?_, .inl hz⟩
      · simp only; omega
      · simp only; omega
    · rw [if_neg hz] at h ⊢
      by_cases hg : pass > 1
      · rw [if_pos hg] at h; simp at h
      · rw [if_neg hg]
        exact ⟨rfl, by simp only; omega, by simp only; omega, .inr rfl⟩
  obtain ⟨hv1, hv2, hv3, hv4⟩ := hv
  have hp : plP (viR e i pass).bar (viR e i pass).pass (e.bars.getD i.toNat default) = true := by
    simp only [plP, Bool.and_eq_true, Bool.or_eq_true, beq_iff_eq]
    exact ⟨hv1.symm, hv4⟩
  have hge : 0 ≤ plI e (viR e i pass).bar (viR e i pass).pass := by
    unfold plI
    rcases Int.lt_or_le (findI (plP (viR e i pass).bar (viR e i pass).pass) e.bars) 0 with hn | hn
    · exfalso
      have h1 := findI_any (plP (viR e i pass).bar (viR e i pass).pass) e.bars
      have h2 : (!decide (findI (plP (viR e i pass).bar (viR e i pass).pass) e.bars ≥ 0)) = true := by simp; omega
      rw [h2] at h1
      have := List.all_eq_true.1 h1.symm _ (getD_mem hlt)
      rw [hp] at this; cases this
    · exact hn
  obtain ⟨k, e1, _, _, hall⟩ := findI_lt hge
  refine ⟨k, e1, ?_, hf, hv2, hv3, by rw [hv1]; omega, by rw [hv1]; omega⟩
  rcases Nat.lt_or_ge i.toNat k with hn | hn
  · have := hall _ hn; rw [hp] at this; cases this
  · omega

theorem visits_law (e : Edition) (hw : Wf e) (i pass : Int) : PCall Try.prog 6 [.agg (encE e), .int i, .int pass] (.b true) := by
  refine PCall.body Try.func6 rfl rfl Try.ntmps6 rfl rfl ?_
  repeat' (first
    | refine AOps.q rfl rfl rfl (fun hg => by first | exact PRun.step tabOk rfl (by first | exact True.intro | exact ⟨True.intro, True.intro, True.intro⟩ | exact hg | exact ⟨True.intro, True.intro⟩ | exact ⟨hg, hg, True.intro⟩ | (repeat' (first | exact True.intro | exact hg | omega | decide | refine ⟨?_, ?_⟩ | (intro h; change (_ == _) = true; rw [h]; rfl) | (intro h; change (_ && (_ == _)) = true; rw [Bool.and_eq_true]; exact ⟨hg, by rw [h]; rfl⟩) | (exfalso; revert hg; simp [GG.holds]; done)))) | exact PRun.callW (head_spec) rfl rfl (by first | exact True.intro | exact hg) rfl (by first | exact True.intro | exact ⟨True.intro, True.intro⟩ | exact ⟨True.intro, True.intro, True.intro⟩ | (repeat' (first | exact True.intro | exact hg | refine ⟨?_, ?_⟩))) | exact PRun.callW (few_spec e) rfl rfl (by first | exact True.intro | exact hg) rfl (by first | exact True.intro | exact ⟨True.intro, True.intro⟩ | exact ⟨True.intro, True.intro, True.intro⟩ | (repeat' (first | exact True.intro | exact hg | refine ⟨?_, ?_⟩))) | exact PRun.callW (visit_spec e hw i pass) rfl rfl (by first | exact True.intro | exact hg) rfl (by first | exact True.intro | exact ⟨True.intro, True.intro⟩ | exact ⟨True.intro, True.intro, True.intro⟩ | (repeat' (first | exact True.intro | exact hg | refine ⟨?_, ?_⟩))) | exact PRun.callW (place_spec e hw (viR e i pass).bar (viR e i pass).pass) rfl rfl (by first | exact True.intro | exact hg) rfl (by first | exact True.intro | exact ⟨True.intro, True.intro⟩ | exact ⟨True.intro, True.intro, True.intro⟩ | (repeat' (first | exact True.intro | exact hg | refine ⟨?_, ?_⟩))) | exact PRun.callW (visit_spec e hw (plR e (viR e i pass).bar (viR e i pass).pass).pos (plR e (viR e i pass).bar (viR e i pass).pass).pass) rfl rfl (by first | exact True.intro | exact hg) rfl (by first | exact True.intro | exact ⟨True.intro, True.intro⟩ | exact ⟨True.intro, True.intro, True.intro⟩ | (repeat' (first | exact True.intro | exact hg | refine ⟨?_, ?_⟩))) | exact PRun.buildW tabOk rfl rfl (by first | exact True.intro | exact ⟨True.intro, True.intro⟩ | exact ⟨True.intro, True.intro, True.intro⟩ | (repeat' (first | exact True.intro | exact hg | refine ⟨?_, ?_⟩))) | exact PRun.eqS fl39 rfl rfl (by first | exact True.intro | exact hg) rfl (by first | exact True.intro | exact hg) rfl | exact PRun.indexMW tabOk rfl rfl (by first | exact True.intro | exact hg) rfl (by first | exact True.intro | exact hg) rfl rfl (by omega) | exact PRun.lenM tabOk rfl rfl (by first | exact True.intro | exact hg) rfl | exact PRun.lenW tabOk rfl rfl (by first | exact True.intro | exact hg) rfl | exact PRun.binW rfl rfl (by first | exact True.intro | exact hg) rfl (by first | exact True.intro | exact hg) rfl | exact PRun.negWr rfl rfl (by first | exact True.intro | exact hg)) (by exact rfl) ?_
    | refine AWP.seq ?_
    | refine AWP.regionK (fun K' hK => ?_)
    | (refine AOps.nil (hK _ _ ?_); clear hK K')
    | refine AOps.e (EStep.boxW rfl rfl rfl rfl rfl True.intro rfl rfl ?_)
    | refine AOps.e (EStep.storeW tabOk rfl rfl rfl True.intro rfl rfl True.intro rfl rfl rfl rfl rfl rfl rfl ?_)
    | refine AOps.e (EStep.allocW tabOk rfl rfl rfl rfl rfl rfl ?_)
    | (refine AWP.condW rfl True.intro (fun hc => ?_) (fun hc => ?_) <;> (first | (simp only [decide_eq_true_eq] at hc) | (simp only [decide_eq_false_iff_not, Int.not_lt, Int.not_le] at hc) | skip))
    | refine AWP.block ?_
    | refine AWP.exit ?_
    | refine AWP.skip ?_
    | refine AWP.ret ?_
    | refine AWP.drawK (by kernel_rfl) (by decide +kernel) rfl (fun K' hK => ?_)
    | (refine AQ.nil (hK _ ?_); clear hK K')
    | refine AQ.q rfl rfl (fun hg => by first | exact PRun.step tabOk rfl (by first | exact True.intro | exact ⟨True.intro, True.intro, True.intro⟩ | exact hg | exact ⟨True.intro, True.intro⟩ | exact ⟨hg, hg, True.intro⟩ | (repeat' (first | exact True.intro | exact hg | omega | decide | refine ⟨?_, ?_⟩ | (intro h; change (_ == _) = true; rw [h]; rfl) | (intro h; change (_ && (_ == _)) = true; rw [Bool.and_eq_true]; exact ⟨hg, by rw [h]; rfl⟩) | (exfalso; revert hg; simp [GG.holds]; done)))) | exact PRun.callW (head_spec) rfl rfl (by first | exact True.intro | exact hg) rfl (by first | exact True.intro | exact ⟨True.intro, True.intro⟩ | exact ⟨True.intro, True.intro, True.intro⟩ | (repeat' (first | exact True.intro | exact hg | refine ⟨?_, ?_⟩))) | exact PRun.callW (few_spec e) rfl rfl (by first | exact True.intro | exact hg) rfl (by first | exact True.intro | exact ⟨True.intro, True.intro⟩ | exact ⟨True.intro, True.intro, True.intro⟩ | (repeat' (first | exact True.intro | exact hg | refine ⟨?_, ?_⟩))) | exact PRun.callW (visit_spec e hw i pass) rfl rfl (by first | exact True.intro | exact hg) rfl (by first | exact True.intro | exact ⟨True.intro, True.intro⟩ | exact ⟨True.intro, True.intro, True.intro⟩ | (repeat' (first | exact True.intro | exact hg | refine ⟨?_, ?_⟩))) | exact PRun.callW (place_spec e hw (viR e i pass).bar (viR e i pass).pass) rfl rfl (by first | exact True.intro | exact hg) rfl (by first | exact True.intro | exact ⟨True.intro, True.intro⟩ | exact ⟨True.intro, True.intro, True.intro⟩ | (repeat' (first | exact True.intro | exact hg | refine ⟨?_, ?_⟩))) | exact PRun.callW (visit_spec e hw (plR e (viR e i pass).bar (viR e i pass).pass).pos (plR e (viR e i pass).bar (viR e i pass).pass).pass) rfl rfl (by first | exact True.intro | exact hg) rfl (by first | exact True.intro | exact ⟨True.intro, True.intro⟩ | exact ⟨True.intro, True.intro, True.intro⟩ | (repeat' (first | exact True.intro | exact hg | refine ⟨?_, ?_⟩))) | exact PRun.buildW tabOk rfl rfl (by first | exact True.intro | exact ⟨True.intro, True.intro⟩ | exact ⟨True.intro, True.intro, True.intro⟩ | (repeat' (first | exact True.intro | exact hg | refine ⟨?_, ?_⟩))) | exact PRun.eqS fl39 rfl rfl (by first | exact True.intro | exact hg) rfl (by first | exact True.intro | exact hg) rfl | exact PRun.indexMW tabOk rfl rfl (by first | exact True.intro | exact hg) rfl (by first | exact True.intro | exact hg) rfl rfl (by omega) | exact PRun.lenM tabOk rfl rfl (by first | exact True.intro | exact hg) rfl | exact PRun.lenW tabOk rfl rfl (by first | exact True.intro | exact hg) rfl | exact PRun.binW rfl rfl (by first | exact True.intro | exact hg) rfl (by first | exact True.intro | exact hg) rfl | exact PRun.negWr rfl rfl (by first | exact True.intro | exact hg)) (by exact rfl) ?_)
  · exact ⟨.inr rfl, fun _ _ h => h⟩
  · obtain ⟨h1, h2⟩ := viR_bad (e := e) (i := i) (pass := pass) (by simpa using hc)
    refine ⟨.inr rfl, fun M x h => ?_⟩
    have h' : VRel M [] (.b (((viR e i pass).bar == 0) && (((viR e i pass).pass == 0) && true))) x := h
    simpa [h1, h2] using h'
  · obtain ⟨k, g1, g2, g3, g4, g5, g6, g7⟩ := visits_plain (e := e) (i := i) (pass := pass) (by simpa using hc)
    obtain ⟨p1, p2, p3, p4, p5⟩ := place_back g3 g4 g5 g6 g7 k g1
    refine ⟨.inr rfl, fun M x h => ?_⟩
    have h' : VRel M [] (.b (((plR e (viR e i pass).bar (viR e i pass).pass).err == 0) && ((viR e (plR e (viR e i pass).bar (viR e i pass).pass).pos (plR e (viR e i pass).bar (viR e i pass).pass).pass).err == 0) && (plR e (viR e i pass).bar (viR e i pass).pass).ok &&
      decide ((plR e (viR e i pass).bar (viR e i pass).pass).pos ≤ i) && (((viR e (plR e (viR e i pass).bar (viR e i pass).pass).pos (plR e (viR e i pass).bar (viR e i pass).pass).pass).bar == (viR e i pass).bar) && (((viR e (plR e (viR e i pass).bar (viR e i pass).pass).pos (plR e (viR e i pass).bar (viR e i pass).pass).pass).pass == (viR e i pass).pass) && true)))) x := h
    rw [p3, p5, p1, p2] at h'
    simpa [g2] using h'
end Go.Proofs.Ytjjlckhdgnoopaa
