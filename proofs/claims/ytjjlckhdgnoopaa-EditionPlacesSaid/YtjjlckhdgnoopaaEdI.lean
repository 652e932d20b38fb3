/- The law of places by content: for every edition and visit the function returns true. The row is joined in RowPlaces. -/
import Derived.Test.YtjjlckhdgnoopaaEdH
import Derived.Test.YtjjlckhdgnoopaaEdK
namespace Go.Proofs.Ytjjlckhdgnoopaa
open Go.Ab
attribute [local irreducible] AWP AOps EStep AQ PStep PRun PCall

theorem plR_cases (e : Edition) (vb vp : Int) : plR e vb vp = ⟨0, 0, false, 1⟩ ∨ (plR e vb vp = ⟨0, 0, false, 0⟩ ∧ plI e vb vp < 0) ∨
    ((plR e vb vp).ok = true ∧ (plR e vb vp).err = 0 ∧ formB e = true ∧ 1 ≤ vb ∧ vb ≤ 1000000 ∧ 1 ≤ vp ∧ vp ≤ 20000 ∧ ∃ k : Nat, plI e vb vp = k) := by
  by_cases h : (formB e && inB vb 1 1000000 && inB vp 1 20000) = true
  · by_cases h2 : plI e vb vp < 0
    · exact .inr (.inl ⟨by unfold plR; rw [if_pos h, if_pos h2], h2⟩)
    · have hh := h
      simp only [Bool.and_eq_true, inB_iff] at hh
      exact .inr (.inr ⟨by unfold plR; rw [if_pos h, if_neg h2], by unfold plR; rw [if_pos h, if_neg h2], hh.1.1, hh.1.2.1, hh.1.2.2, hh.2.1, hh.2.2, (plI e vb vp).toNat, by omega⟩)
  · exact .inl (by unfold plR; rw [if_neg h])

theorem not_there {e : Edition} {vb vp : Int} (h : plI e vb vp < 0) (i n : Int) : ((viR e i n).err != 0 || !(((viR e i n).bar == vb) && (((viR e i n).pass == vp) && true))) = true := by
  by_cases h0 : (viR e i n).err = 0
  · obtain ⟨k, g1, _⟩ := visits_plain h0
    by_cases h1 : (viR e i n).bar = vb
    · by_cases h2 : (viR e i n).pass = vp
      · rw [h1, h2] at g1; omega
      · simp [h2]
    · simp [h1]
  · simp [h0]

theorem places_law (e : Edition) (hw : Wf e) (vb vp : Int) : PCall Try.prog 5 [.agg (encE e), .agg [.int vb, .int vp]] (.b true) := by
  refine PCall.body Try.func5 rfl rfl Try.ntmps5 rfl rfl ?_
  have hb := hw.bars
  repeat' (first
    | refine AOps.q rfl rfl rfl (fun hg => by first | exact PRun.step tabOk rfl (by first | exact True.intro | exact ⟨True.intro, True.intro, True.intro⟩ | exact hg | exact ⟨True.intro, True.intro⟩ | exact ⟨hg, hg, True.intro⟩ | (repeat' (first | exact True.intro | exact hg | omega | decide | refine ⟨?_, ?_⟩ | (intro h; change (_ == _) = true; rw [h]; rfl) | (intro h; change (_ && (_ == _)) = true; rw [Bool.and_eq_true]; exact ⟨hg, by rw [h]; rfl⟩) | (exfalso; revert hg; simp [GG.holds]; done)))) | exact PRun.callW (head_spec) rfl rfl (by first | exact True.intro | exact hg) rfl (by first | exact True.intro | exact ⟨True.intro, True.intro⟩ | exact ⟨True.intro, True.intro, True.intro⟩ | (repeat' (first | exact True.intro | exact hg | refine ⟨?_, ?_⟩))) | exact PRun.callW (few_spec e) rfl rfl (by first | exact True.intro | exact hg) rfl (by first | exact True.intro | exact ⟨True.intro, True.intro⟩ | exact ⟨True.intro, True.intro, True.intro⟩ | (repeat' (first | exact True.intro | exact hg | refine ⟨?_, ?_⟩))) | exact PRun.callW (place_spec e hw vb vp) rfl rfl (by first | exact True.intro | exact hg) rfl (by first | exact True.intro | exact ⟨True.intro, True.intro⟩ | exact ⟨True.intro, True.intro, True.intro⟩ | (repeat' (first | exact True.intro | exact hg | refine ⟨?_, ?_⟩))) | exact PRun.callW (visit_spec e hw _ _) rfl rfl (by first | exact True.intro | exact hg) rfl (by first | exact True.intro | exact ⟨True.intro, True.intro⟩ | exact ⟨True.intro, True.intro, True.intro⟩ | (repeat' (first | exact True.intro | exact hg | refine ⟨?_, ?_⟩))) | exact PRun.eqS fl39 rfl rfl (by first | exact True.intro | exact hg) rfl (by first | exact True.intro | exact hg) rfl | exact PRun.indexMW tabOk rfl rfl (by first | exact True.intro | exact hg) rfl (by first | exact True.intro | exact hg) rfl rfl (by omega) | exact PRun.lenM tabOk rfl rfl (by first | exact True.intro | exact hg) rfl | exact PRun.lenW tabOk rfl rfl (by first | exact True.intro | exact hg) rfl | exact PRun.binW rfl rfl (by first | exact True.intro | exact hg) rfl (by first | exact True.intro | exact hg) rfl | exact PRun.negWr rfl rfl (by first | exact True.intro | exact hg)) (by exact rfl) ?_
    | refine AWP.seq ?_
    | refine AWP.regionK (fun K' hK => ?_)
    | (refine AOps.nil (hK _ _ ?_); clear hK K')
    | refine AOps.e (EStep.boxW rfl rfl rfl rfl rfl True.intro rfl rfl ?_)
    | refine AOps.e (EStep.storeW tabOk rfl rfl rfl True.intro rfl rfl True.intro rfl rfl rfl rfl rfl rfl rfl ?_)
    | refine AOps.e (EStep.allocW tabOk rfl rfl rfl rfl rfl rfl ?_)
    | (refine AWP.condW rfl True.intro (fun hc => ?_) (fun hc => ?_) <;> (first | (simp only [decide_eq_true_eq] at hc) | (simp only [decide_eq_false_iff_not, Int.not_lt, Int.not_le] at hc) | skip))
    | refine AWP.block ?_
    | refine AWP.exit ?_
    | refine AWP.skip ?_
    | refine AWP.ret ?_
    | refine AWP.drawK (by kernel_rfl) (by decide +kernel) rfl (fun K' hK => ?_)
    | (refine AQ.nil (hK _ ?_); clear hK K')
    | refine AQ.q rfl rfl (fun hg => by first | exact PRun.step tabOk rfl (by first | exact True.intro | exact ⟨True.intro, True.intro, True.intro⟩ | exact hg | exact ⟨True.intro, True.intro⟩ | exact ⟨hg, hg, True.intro⟩ | (repeat' (first | exact True.intro | exact hg | omega | decide | refine ⟨?_, ?_⟩ | (intro h; change (_ == _) = true; rw [h]; rfl) | (intro h; change (_ && (_ == _)) = true; rw [Bool.and_eq_true]; exact ⟨hg, by rw [h]; rfl⟩) | (exfalso; revert hg; simp [GG.holds]; done)))) | exact PRun.callW (head_spec) rfl rfl (by first | exact True.intro | exact hg) rfl (by first | exact True.intro | exact ⟨True.intro, True.intro⟩ | exact ⟨True.intro, True.intro, True.intro⟩ | (repeat' (first | exact True.intro | exact hg | refine ⟨?_, ?_⟩))) | exact PRun.callW (few_spec e) rfl rfl (by first | exact True.intro | exact hg) rfl (by first | exact True.intro | exact ⟨True.intro, True.intro⟩ | exact ⟨True.intro, True.intro, True.intro⟩ | (repeat' (first | exact True.intro | exact hg | refine ⟨?_, ?_⟩))) | exact PRun.callW (place_spec e hw vb vp) rfl rfl (by first | exact True.intro | exact hg) rfl (by first | exact True.intro | exact ⟨True.intro, True.intro⟩ | exact ⟨True.intro, True.intro, True.intro⟩ | (repeat' (first | exact True.intro | exact hg | refine ⟨?_, ?_⟩))) | exact PRun.callW (visit_spec e hw _ _) rfl rfl (by first | exact True.intro | exact hg) rfl (by first | exact True.intro | exact ⟨True.intro, True.intro⟩ | exact ⟨True.intro, True.intro, True.intro⟩ | (repeat' (first | exact True.intro | exact hg | refine ⟨?_, ?_⟩))) | exact PRun.eqS fl39 rfl rfl (by first | exact True.intro | exact hg) rfl (by first | exact True.intro | exact hg) rfl | exact PRun.indexMW tabOk rfl rfl (by first | exact True.intro | exact hg) rfl (by first | exact True.intro | exact hg) rfl rfl (by omega) | exact PRun.lenM tabOk rfl rfl (by first | exact True.intro | exact hg) rfl | exact PRun.lenW tabOk rfl rfl (by first | exact True.intro | exact hg) rfl | exact PRun.binW rfl rfl (by first | exact True.intro | exact hg) rfl (by first | exact True.intro | exact hg) rfl | exact PRun.negWr rfl rfl (by first | exact True.intro | exact hg)) (by exact rfl) ?_)
  · exact ⟨.inr rfl, fun _ _ h => h⟩
  · refine ⟨.inr rfl, ?_⟩
    rcases plR_cases e vb vp with h | ⟨h, _⟩ | ⟨h1, h2, _⟩
    · rw [h]; exact fun _ _ h => h
    · rw [h] at hc; simp at hc
    · rw [h2] at hc; simp at hc
  · rename_i hc0
    have hno : plI e vb vp < 0 ∧ plR e vb vp = ⟨0, 0, false, 0⟩ := by
      rcases plR_cases e vb vp with h | ⟨h, h'⟩ | ⟨h1, h2, _⟩
      · rw [h] at hc0; simp at hc0
      · exact ⟨h', h⟩
      · rw [h1] at hc; simp at hc
    clear hc hc0
    have hlen : e.bars.length ≤ 80 := by
      simp only [Bool.not_eq_false', Bool.and_eq_true, decide_eq_true_eq] at *
      omega
    refine AWP.loopD (ι := Nat) (fun k => [(2, .ptr 0 0), (3, .ptr 1 0), (5, .b true), (6, .int (plR e vb vp).pos), (7, .int (plR e vb vp).pass), (10, .int k)]) (fun _ => [.var (encE e), .var [.int vb, .int vp]])
      (fun k => k ≤ e.bars.length) (fun k => e.bars.length - k) 2 (fun _ => rfl) 0 (Nat.zero_le _) ⟨rfl, rfl, rfl, rfl, rfl, rfl, True.intro⟩ rfl (fun _ _ => rfl) (fun k _ => rfl) ?_
    intro k hk
    by_cases hlt : k < e.bars.length
    · repeat' (first
        | refine AOps.q rfl rfl rfl (fun hg => by first | exact PRun.step tabOk rfl (by first | exact True.intro | exact ⟨True.intro, True.intro, True.intro⟩ | exact hg | exact ⟨True.intro, True.intro⟩ | exact ⟨hg, hg, True.intro⟩ | (repeat' (first | exact True.intro | exact hg | omega | decide | refine ⟨?_, ?_⟩ | (intro h; change (_ == _) = true; rw [h]; rfl) | (intro h; change (_ && (_ == _)) = true; rw [Bool.and_eq_true]; exact ⟨hg, by rw [h]; rfl⟩) | (exfalso; revert hg; simp [GG.holds]; done)))) | exact PRun.buildSlW tabOk rfl rfl (by first | exact True.intro | exact ⟨True.intro, True.intro⟩ | exact ⟨True.intro, True.intro, True.intro⟩ | (repeat' (first | exact True.intro | exact hg | refine ⟨?_, ?_⟩))) | exact PRun.indexMW tabOk rfl rfl (by first | exact True.intro | exact hg) rfl (by first | exact True.intro | exact hg) rfl rfl (by omega) | exact PRun.lenM tabOk rfl rfl (by first | exact True.intro | exact hg) rfl | exact PRun.lenW tabOk rfl rfl (by first | exact True.intro | exact hg) rfl | exact PRun.binW rfl rfl (by first | exact True.intro | exact hg) rfl (by first | exact True.intro | exact hg) rfl | exact PRun.negWr rfl rfl (by first | exact True.intro | exact hg)) (by exact rfl) ?_
        | refine AWP.seq ?_
        | refine AWP.regionK (fun K' hK => ?_)
        | (refine AOps.nil (hK _ _ ?_); clear hK K')
        | refine AOps.e (EStep.boxW rfl rfl rfl rfl rfl True.intro rfl rfl ?_)
        | refine AOps.e (EStep.storeW tabOk rfl rfl rfl True.intro rfl rfl True.intro rfl rfl rfl rfl rfl rfl rfl ?_)
        | refine AOps.e (EStep.allocW tabOk rfl rfl rfl rfl rfl rfl ?_)
        | (refine AWP.condW rfl True.intro (fun hc => ?_) (fun hc => ?_) <;> (first | (simp only [decide_eq_true_eq] at hc) | (simp only [decide_eq_false_iff_not, Int.not_lt, Int.not_le] at hc) | skip))
        | refine AWP.block ?_
        | refine AWP.exit ?_
        | refine AWP.skip ?_
        | refine AWP.ret ?_
        | refine AWP.drawK (by kernel_rfl) (by decide +kernel) rfl (fun K' hK => ?_)
        | (refine AQ.nil (hK _ ?_); clear hK K')
        | refine AQ.q rfl rfl (fun hg => by first | exact PRun.step tabOk rfl (by first | exact True.intro | exact ⟨True.intro, True.intro, True.intro⟩ | exact hg | exact ⟨True.intro, True.intro⟩ | exact ⟨hg, hg, True.intro⟩ | (repeat' (first | exact True.intro | exact hg | omega | decide | refine ⟨?_, ?_⟩ | (intro h; change (_ == _) = true; rw [h]; rfl) | (intro h; change (_ && (_ == _)) = true; rw [Bool.and_eq_true]; exact ⟨hg, by rw [h]; rfl⟩) | (exfalso; revert hg; simp [GG.holds]; done)))) | exact PRun.buildSlW tabOk rfl rfl (by first | exact True.intro | exact ⟨True.intro, True.intro⟩ | exact ⟨True.intro, True.intro, True.intro⟩ | (repeat' (first | exact True.intro | exact hg | refine ⟨?_, ?_⟩))) | exact PRun.indexMW tabOk rfl rfl (by first | exact True.intro | exact hg) rfl (by first | exact True.intro | exact hg) rfl rfl (by omega) | exact PRun.lenM tabOk rfl rfl (by first | exact True.intro | exact hg) rfl | exact PRun.lenW tabOk rfl rfl (by first | exact True.intro | exact hg) rfl | exact PRun.binW rfl rfl (by first | exact True.intro | exact hg) rfl (by first | exact True.intro | exact hg) rfl | exact PRun.negWr rfl rfl (by first | exact True.intro | exact hg)) (by exact rfl) ?_)
      · refine AWP.loopD (ι := Nat) (fun j => [(2, .ptr 0 0), (3, .ptr 1 0), (5, .b true), (6, .int (plR e vb vp).pos), (7, .int (plR e vb vp).pass), (10, .int k), (56, .sl 1 (([0, vp] : List Int).map fun x => [AV.int x]) .fresh), (57, .int 2), (58, .int j)]) (fun _ => [.var (encE e), .var [.int vb, .int vp]])
          (fun j => j ≤ 2) (fun j => 2 - j) 2 (fun _ => rfl) 0 (Nat.zero_le _) ⟨rfl, rfl, rfl, rfl, rfl, rfl, rfl, rfl, rfl, True.intro⟩ rfl (fun _ _ => rfl) (fun k _ => rfl) ?_
        intro j hj
        have h2 : ([0, vp] : List Int).length = 2 := rfl
        by_cases hjt : j < 2
        · repeat' (first
            | refine AOps.q rfl rfl rfl (fun hg => by first | exact PRun.step tabOk rfl (by first | exact True.intro | exact ⟨True.intro, True.intro, True.intro⟩ | exact hg | exact ⟨True.intro, True.intro⟩ | exact ⟨hg, hg, True.intro⟩ | (repeat' (first | exact True.intro | exact hg | omega | decide | refine ⟨?_, ?_⟩ | (intro h; change (_ == _) = true; rw [h]; rfl) | (intro h; change (_ && (_ == _)) = true; rw [Bool.and_eq_true]; exact ⟨hg, by rw [h]; rfl⟩) | (exfalso; revert hg; simp [GG.holds]; done)))) | exact PRun.callW (visit_spec e hw _ _) rfl rfl (by first | exact True.intro | exact hg) rfl (by first | exact True.intro | exact ⟨True.intro, True.intro⟩ | exact ⟨True.intro, True.intro, True.intro⟩ | (repeat' (first | exact True.intro | exact hg | refine ⟨?_, ?_⟩))) | exact PRun.neS fl39 rfl rfl (by first | exact True.intro | exact hg) rfl (by first | exact True.intro | exact hg) rfl | exact PRun.indexMW tabOk rfl rfl (by first | exact True.intro | exact hg) rfl (by first | exact True.intro | exact hg) rfl rfl (by omega) | exact PRun.lenM tabOk rfl rfl (by first | exact True.intro | exact hg) rfl | exact PRun.lenW tabOk rfl rfl (by first | exact True.intro | exact hg) rfl | exact PRun.binW rfl rfl (by first | exact True.intro | exact hg) rfl (by first | exact True.intro | exact hg) rfl | exact PRun.negWr rfl rfl (by first | exact True.intro | exact hg)) (by exact rfl) ?_
            | refine AWP.seq ?_
            | refine AWP.regionK (fun K' hK => ?_)
            | (refine AOps.nil (hK _ _ ?_); clear hK K')
            | refine AOps.e (EStep.boxW rfl rfl rfl rfl rfl True.intro rfl rfl ?_)
            | refine AOps.e (EStep.storeW tabOk rfl rfl rfl True.intro rfl rfl True.intro rfl rfl rfl rfl rfl rfl rfl ?_)
            | refine AOps.e (EStep.allocW tabOk rfl rfl rfl rfl rfl rfl ?_)
            | (refine AWP.condW rfl True.intro (fun hc => ?_) (fun hc => ?_) <;> (first | (simp only [decide_eq_true_eq] at hc) | (simp only [decide_eq_false_iff_not, Int.not_lt, Int.not_le] at hc) | skip))
            | refine AWP.block ?_
            | refine AWP.exit ?_
            | refine AWP.skip ?_
            | refine AWP.ret ?_
            | refine AWP.drawK (by kernel_rfl) (by decide +kernel) rfl (fun K' hK => ?_)
            | (refine AQ.nil (hK _ ?_); clear hK K')
            | refine AQ.q rfl rfl (fun hg => by first | exact PRun.step tabOk rfl (by first | exact True.intro | exact ⟨True.intro, True.intro, True.intro⟩ | exact hg | exact ⟨True.intro, True.intro⟩ | exact ⟨hg, hg, True.intro⟩ | (repeat' (first | exact True.intro | exact hg | omega | decide | refine ⟨?_, ?_⟩ | (intro h; change (_ == _) = true; rw [h]; rfl) | (intro h; change (_ && (_ == _)) = true; rw [Bool.and_eq_true]; exact ⟨hg, by rw [h]; rfl⟩) | (exfalso; revert hg; simp [GG.holds]; done)))) | exact PRun.callW (visit_spec e hw _ _) rfl rfl (by first | exact True.intro | exact hg) rfl (by first | exact True.intro | exact ⟨True.intro, True.intro⟩ | exact ⟨True.intro, True.intro, True.intro⟩ | (repeat' (first | exact True.intro | exact hg | refine ⟨?_, ?_⟩))) | exact PRun.neS fl39 rfl rfl (by first | exact True.intro | exact hg) rfl (by first | exact True.intro | exact hg) rfl | exact PRun.indexMW tabOk rfl rfl (by first | exact True.intro | exact hg) rfl (by first | exact True.intro | exact hg) rfl rfl (by omega) | exact PRun.lenM tabOk rfl rfl (by first | exact True.intro | exact hg) rfl | exact PRun.lenW tabOk rfl rfl (by first | exact True.intro | exact hg) rfl | exact PRun.binW rfl rfl (by first | exact True.intro | exact hg) rfl (by first | exact True.intro | exact hg) rfl | exact PRun.negWr rfl rfl (by first | exact True.intro | exact hg)) (by exact rfl) ?_)
          · have hn := not_there hno.1 k (([0, vp] : List Int).getD j default)
            exact ⟨j + 1, by omega, by omega, ⟨rfl, rfl, congrArg AV.b hn, rfl, rfl, rfl, rfl, rfl, rfl, True.intro⟩, rfl⟩
          all_goals (exfalso; omega)
        · repeat' (first
            | refine AOps.q rfl rfl rfl (fun hg => by first | exact PRun.step tabOk rfl (by first | exact True.intro | exact ⟨True.intro, True.intro, True.intro⟩ | exact hg | exact ⟨True.intro, True.intro⟩ | exact ⟨hg, hg, True.intro⟩ | (repeat' (first | exact True.intro | exact hg | omega | decide | refine ⟨?_, ?_⟩ | (intro h; change (_ == _) = true; rw [h]; rfl) | (intro h; change (_ && (_ == _)) = true; rw [Bool.and_eq_true]; exact ⟨hg, by rw [h]; rfl⟩) | (exfalso; revert hg; simp [GG.holds]; done)))) | exact PRun.callW (visit_spec e hw _ _) rfl rfl (by first | exact True.intro | exact hg) rfl (by first | exact True.intro | exact ⟨True.intro, True.intro⟩ | exact ⟨True.intro, True.intro, True.intro⟩ | (repeat' (first | exact True.intro | exact hg | refine ⟨?_, ?_⟩))) | exact PRun.neS fl39 rfl rfl (by first | exact True.intro | exact hg) rfl (by first | exact True.intro | exact hg) rfl | exact PRun.indexMW tabOk rfl rfl (by first | exact True.intro | exact hg) rfl (by first | exact True.intro | exact hg) rfl rfl (by omega) | exact PRun.lenM tabOk rfl rfl (by first | exact True.intro | exact hg) rfl | exact PRun.lenW tabOk rfl rfl (by first | exact True.intro | exact hg) rfl | exact PRun.binW rfl rfl (by first | exact True.intro | exact hg) rfl (by first | exact True.intro | exact hg) rfl | exact PRun.negWr rfl rfl (by first | exact True.intro | exact hg)) (by exact rfl) ?_
            | refine AWP.seq ?_
            | refine AWP.regionK (fun K' hK => ?_)
            | (refine AOps.nil (hK _ _ ?_); clear hK K')
            | refine AOps.e (EStep.boxW rfl rfl rfl rfl rfl True.intro rfl rfl ?_)
            | refine AOps.e (EStep.storeW tabOk rfl rfl rfl True.intro rfl rfl True.intro rfl rfl rfl rfl rfl rfl rfl ?_)
            | refine AOps.e (EStep.allocW tabOk rfl rfl rfl rfl rfl rfl ?_)
            | (refine AWP.condW rfl True.intro (fun hc => ?_) (fun hc => ?_) <;> (first | (simp only [decide_eq_true_eq] at hc) | (simp only [decide_eq_false_iff_not, Int.not_lt, Int.not_le] at hc) | skip))
            | refine AWP.block ?_
            | refine AWP.exit ?_
            | refine AWP.skip ?_
            | refine AWP.ret ?_
            | refine AWP.drawK (by kernel_rfl) (by decide +kernel) rfl (fun K' hK => ?_)
            | (refine AQ.nil (hK _ ?_); clear hK K')
            | refine AQ.q rfl rfl (fun hg => by first | exact PRun.step tabOk rfl (by first | exact True.intro | exact ⟨True.intro, True.intro, True.intro⟩ | exact hg | exact ⟨True.intro, True.intro⟩ | exact ⟨hg, hg, True.intro⟩ | (repeat' (first | exact True.intro | exact hg | omega | decide | refine ⟨?_, ?_⟩ | (intro h; change (_ == _) = true; rw [h]; rfl) | (intro h; change (_ && (_ == _)) = true; rw [Bool.and_eq_true]; exact ⟨hg, by rw [h]; rfl⟩) | (exfalso; revert hg; simp [GG.holds]; done)))) | exact PRun.callW (visit_spec e hw _ _) rfl rfl (by first | exact True.intro | exact hg) rfl (by first | exact True.intro | exact ⟨True.intro, True.intro⟩ | exact ⟨True.intro, True.intro, True.intro⟩ | (repeat' (first | exact True.intro | exact hg | refine ⟨?_, ?_⟩))) | exact PRun.neS fl39 rfl rfl (by first | exact True.intro | exact hg) rfl (by first | exact True.intro | exact hg) rfl | exact PRun.indexMW tabOk rfl rfl (by first | exact True.intro | exact hg) rfl (by first | exact True.intro | exact hg) rfl rfl (by omega) | exact PRun.lenM tabOk rfl rfl (by first | exact True.intro | exact hg) rfl | exact PRun.lenW tabOk rfl rfl (by first | exact True.intro | exact hg) rfl | exact PRun.binW rfl rfl (by first | exact True.intro | exact hg) rfl (by first | exact True.intro | exact hg) rfl | exact PRun.negWr rfl rfl (by first | exact True.intro | exact hg)) (by exact rfl) ?_)
          · exfalso; omega
          · exact ⟨k + 1, by omega, by omega, ⟨rfl, rfl, rfl, rfl, rfl, rfl, True.intro⟩, rfl⟩
      · exfalso; omega
    · repeat' (first
        | refine AOps.q rfl rfl rfl (fun hg => by first | exact PRun.step tabOk rfl (by first | exact True.intro | exact ⟨True.intro, True.intro, True.intro⟩ | exact hg | exact ⟨True.intro, True.intro⟩ | exact ⟨hg, hg, True.intro⟩ | (repeat' (first | exact True.intro | exact hg | omega | decide | refine ⟨?_, ?_⟩ | (intro h; change (_ == _) = true; rw [h]; rfl) | (intro h; change (_ && (_ == _)) = true; rw [Bool.and_eq_true]; exact ⟨hg, by rw [h]; rfl⟩) | (exfalso; revert hg; simp [GG.holds]; done)))) | exact PRun.indexMW tabOk rfl rfl (by first | exact True.intro | exact hg) rfl (by first | exact True.intro | exact hg) rfl rfl (by omega) | exact PRun.lenM tabOk rfl rfl (by first | exact True.intro | exact hg) rfl | exact PRun.lenW tabOk rfl rfl (by first | exact True.intro | exact hg) rfl | exact PRun.binW rfl rfl (by first | exact True.intro | exact hg) rfl (by first | exact True.intro | exact hg) rfl | exact PRun.negWr rfl rfl (by first | exact True.intro | exact hg)) (by exact rfl) ?_
        | refine AWP.seq ?_
        | refine AWP.regionK (fun K' hK => ?_)
        | (refine AOps.nil (hK _ _ ?_); clear hK K')
        | refine AOps.e (EStep.boxW rfl rfl rfl rfl rfl True.intro rfl rfl ?_)
        | refine AOps.e (EStep.storeW tabOk rfl rfl rfl True.intro rfl rfl True.intro rfl rfl rfl rfl rfl rfl rfl ?_)
        | refine AOps.e (EStep.allocW tabOk rfl rfl rfl rfl rfl rfl ?_)
        | (refine AWP.condW rfl True.intro (fun hc => ?_) (fun hc => ?_) <;> (first | (simp only [decide_eq_true_eq] at hc) | (simp only [decide_eq_false_iff_not, Int.not_lt, Int.not_le] at hc) | skip))
        | refine AWP.block ?_
        | refine AWP.exit ?_
        | refine AWP.skip ?_
        | refine AWP.ret ?_
        | refine AWP.drawK (by kernel_rfl) (by decide +kernel) rfl (fun K' hK => ?_)
        | (refine AQ.nil (hK _ ?_); clear hK K')
        | refine AQ.q rfl rfl (fun hg => by first | exact PRun.step tabOk rfl (by first | exact True.intro | exact ⟨True.intro, True.intro, True.intro⟩ | exact hg | exact ⟨True.intro, True.intro⟩ | exact ⟨hg, hg, True.intro⟩ | (repeat' (first | exact True.intro | exact hg | omega | decide | refine ⟨?_, ?_⟩ | (intro h; change (_ == _) = true; rw [h]; rfl) | (intro h; change (_ && (_ == _)) = true; rw [Bool.and_eq_true]; exact ⟨hg, by rw [h]; rfl⟩) | (exfalso; revert hg; simp [GG.holds]; done)))) | exact PRun.indexMW tabOk rfl rfl (by first | exact True.intro | exact hg) rfl (by first | exact True.intro | exact hg) rfl rfl (by omega) | exact PRun.lenM tabOk rfl rfl (by first | exact True.intro | exact hg) rfl | exact PRun.lenW tabOk rfl rfl (by first | exact True.intro | exact hg) rfl | exact PRun.binW rfl rfl (by first | exact True.intro | exact hg) rfl (by first | exact True.intro | exact hg) rfl | exact PRun.negWr rfl rfl (by first | exact True.intro | exact hg)) (by exact rfl) ?_)
      · exfalso; omega
      · refine ⟨.inr rfl, ?_⟩
        rw [hno.2]; exact fun _ _ h => h
  · rename_i hc0
    have hyes : (plR e vb vp).ok = true := by simpa using hc
    rcases plR_cases e vb vp with h | ⟨h, _⟩ | ⟨_, _, hf, g1, g2, g3, g4, k, hk⟩
    · rw [h] at hyes; simp at hyes
    · rw [h] at hyes; simp at hyes
    obtain ⟨p1, p2, p3, p4, p5⟩ := place_back hf g3 g4 g1 g2 k hk
    refine ⟨.inr rfl, fun M x h => ?_⟩
    have h' : VRel M [] (.b (((viR e (plR e vb vp).pos (plR e vb vp).pass).err == 0) && (((viR e (plR e vb vp).pos (plR e vb vp).pass).bar == vb) && (((viR e (plR e vb vp).pos (plR e vb vp).pass).pass == vp) && true)) && ((plR e vb vp).pass != 1))) x := h
    have p4' : ((plR e vb vp).pass != 1) = true := by rw [bne_iff_ne]; exact p4
    rw [p3, p5, p4'] at h'
    simpa using h'
end Go.Proofs.Ytjjlckhdgnoopaa
