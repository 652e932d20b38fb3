/- The laws MarksBefore and MarksMeant by content. -/
import Derived.Test.YthfcafcjkaemiaaGreatDoorML
set_option linter.unusedVariables false
set_option linter.unusedSimpArgs false
namespace Go.Proofs.YthfcafcjkaemiaaGreatDoor.Mk
open Go.Ab Go.Jo
attribute [local irreducible] AWP AOps EStep AQ PStep PRun PCall TCall VCall DStep TDies AWD DCall

theorem cnt_self (a : Jo.Mark) : cnt a a = false := by unfold cnt; rw [if_pos rfl]; simp
theorem cnt_asym (a b : Jo.Mark) : (cnt a b && cnt b a) = false := by
  cases h1 : cnt a b with
  | false => rfl
  | true =>
    cases h2 : cnt b a with
    | false => rfl
    | true =>
      exfalso
      unfold cnt at h1 h2
      by_cases h : a.layer = b.layer
      · rw [if_pos h] at h1
        rw [if_pos h.symm] at h2
        simp at h1 h2; omega
      · rw [if_neg h] at h1
        rw [if_neg (Ne.symm h)] at h2
        simp at h1 h2; omega
theorem cnt_total {a b : Jo.Mark} (h : a.id ≠ b.id) : cnt a b = !cnt b a := by
  unfold cnt
  by_cases h2 : a.layer = b.layer
  · rw [if_pos h2, if_pos h2.symm, Bool.eq_iff_iff]; simp; omega
  · rw [if_neg h2, if_neg (Ne.symm h2), Bool.eq_iff_iff]; simp; omega
theorem cnt_trans {a b c : Jo.Mark} (h1 : cnt a b = true) (h2 : cnt b c = true) : cnt a c = true := by
  unfold cnt at *
  split at h1 <;> split at h2 <;> split <;> simp only [decide_eq_true_eq] at * <;> omega
theorem before_ok {a b : Jo.Mark} (ha : markOk a = true) (hb : markOk b = true) : beforeR a b = (cnt a b, 0) := by
  unfold beforeR; rw [ha, hb]; rfl
set_option maxHeartbeats 8000000 in
set_option maxRecDepth 20000 in
theorem before_law (a : Jo.Mark) (ha : a.text.length ≤ 9223372036854775807) (b : Jo.Mark) (hb : b.text.length ≤ 9223372036854775807) (c : Jo.Mark) (hct : c.text.length ≤ 9223372036854775807) :
    PCall Tryz.prog 6 [.agg (encMk a), .agg (encMk b), .agg (encMk c)] (.b true) := by
  have hh := mhead_spec
  have v1 := valid19_spec a ha
  have v2 := valid19_spec b hb
  have v3 := valid19_spec c hct
  by_cases hbad : ((!markOk a || !markOk b) || !markOk c) = true
  · refine PCall.body Tryz.func6 rfl rfl Tryz.ntmps6 rfl rfl ?_
    repeat' (first
      | refine AOps.q rfl rfl rfl (fun hg => by first | exact std0 | exact PRun.callW (hh) rfl rfl nd rfl nds | exact PRun.callW (v1) rfl rfl nd rfl nds | exact PRun.callW (v2) rfl rfl nd rfl nds | exact PRun.callW (v3) rfl rfl nd rfl nds | exact std1) (by exact rfl) ?_
      | refine AWP.seq ?_
      | refine AWP.regionK (fun K' hK => ?_)
      | (refine AOps.nil (hK _ _ ?_); clear hK K')
      | refine AOps.e (EStep.boxW rfl rfl rfl rfl rfl True.intro rfl rfl ?_)
      | refine AOps.e (EStep.storeW tabOk rfl rfl rfl True.intro rfl rfl True.intro rfl rfl rfl rfl rfl rfl rfl ?_)
      | refine AOps.e (EStep.allocW tabOk rfl rfl rfl rfl rfl rfl ?_)
      | (refine AWP.condW rfl True.intro (fun hc => ?_) (fun hc => ?_) <;> (first | (simp only [decide_eq_true_eq] at hc) | (simp only [decide_eq_false_iff_not, Int.not_lt, Int.not_le] at hc) | skip))
      | refine AWP.block ?_
      | refine AWP.exit ?_
      | refine AWP.skip ?_
      | refine AWP.ret ?_
      | (refine AQ.nil (hK _ ?_); clear hK K')
      | refine AQ.nil ?_
      | refine AQ.q rfl rfl (fun hg => by first | exact std0 | exact PRun.callW (hh) rfl rfl nd rfl nds | exact PRun.callW (v1) rfl rfl nd rfl nds | exact PRun.callW (v2) rfl rfl nd rfl nds | exact PRun.callW (v3) rfl rfl nd rfl nds | exact std1) (by exact rfl) ?_)
    · exact ⟨.inr rfl, Ent.b rfl⟩
    all_goals (exfalso; first | (rw [hbad] at hc; cases hc) | (rename_i h9; rw [hbad] at h9; cases h9) | (rename_i h9 _; rw [hbad] at h9; cases h9))
  · have ok : (markOk a = true ∧ markOk b = true) ∧ markOk c = true := by
      revert hbad; cases markOk a <;> cases markOk b <;> cases markOk c <;> simp
    obtain ⟨⟨o1, o2⟩, o3⟩ := ok
    have x1 := before_spec a b ha hb
    have x2 := before_spec b a hb ha
    have x3 := before_spec b c hb hct
    have x4 := before_spec a c ha hct
    have x5 := before_spec a a ha ha
    rw [before_ok o1 o2] at x1
    rw [before_ok o2 o1] at x2
    rw [before_ok o2 o3] at x3
    rw [before_ok o1 o3] at x4
    rw [before_ok o1 o1, cnt_self] at x5
    have f2 := cnt_asym a b
    have f3 : (a.id != b.id && (cnt a b == cnt b a)) = false := by
      by_cases h : a.id = b.id
      · rw [h]; simp
      · rw [cnt_total h]; cases cnt b a <;> simp
    have f4 : ((!cnt a b || !cnt b c) || cnt a c) = true := by
      cases h1 : cnt a b with
      | false => rfl
      | true =>
        cases h2 : cnt b c with
        | false => rfl
        | true => rw [cnt_trans h1 h2]; rfl
    rw [o1] at v1
    rw [o2] at v2
    rw [o3] at v3
    clear hbad
    generalize cnt a b = x at *
    generalize cnt b a = y at *
    generalize cnt b c = z at *
    generalize cnt a c = w at *
    refine PCall.body Tryz.func6 rfl rfl Tryz.ntmps6 rfl rfl ?_
    repeat' (first
      | refine AOps.q rfl rfl rfl (fun hg => by first | exact std0 | exact PRun.callW (hh) rfl rfl nd rfl nds | exact PRun.callW (v1) rfl rfl nd rfl nds | exact PRun.callW (v2) rfl rfl nd rfl nds | exact PRun.callW (v3) rfl rfl nd rfl nds | exact PRun.callW (x1) rfl rfl nd rfl nds | exact PRun.callW (x2) rfl rfl nd rfl nds | exact PRun.callW (x3) rfl rfl nd rfl nds | exact PRun.callW (x4) rfl rfl nd rfl nds | exact PRun.callW (x5) rfl rfl nd rfl nds | exact std1) (by exact rfl) ?_
      | refine AWP.seq ?_
      | refine AWP.regionK (fun K' hK => ?_)
      | (refine AOps.nil (hK _ _ ?_); clear hK K')
      | refine AOps.e (EStep.boxW rfl rfl rfl rfl rfl True.intro rfl rfl ?_)
      | refine AOps.e (EStep.storeW tabOk rfl rfl rfl True.intro rfl rfl True.intro rfl rfl rfl rfl rfl rfl rfl ?_)
      | refine AOps.e (EStep.allocW tabOk rfl rfl rfl rfl rfl rfl ?_)
      | (refine AWP.condW rfl True.intro (fun hc => ?_) (fun hc => ?_) <;> (first | (simp only [decide_eq_true_eq] at hc) | (simp only [decide_eq_false_iff_not, Int.not_lt, Int.not_le] at hc) | skip))
      | refine AWP.block ?_
      | refine AWP.exit ?_
      | refine AWP.skip ?_
      | refine AWP.ret ?_
      | refine AWP.drawK2 (by decide +kernel) (by kernel_rfl) (by decide +kernel) rfl (fun K' hK => ?_)
      | refine AWP.drawL2 (by kernel_rfl) (by decide +kernel) rfl (fun K' hK => ?_)
      | (refine AQ.nil (hK _ ?_); clear hK K')
      | refine AQ.nil ?_
      | refine AQ.q rfl rfl (fun hg => by first | exact std0 | exact PRun.callW (hh) rfl rfl nd rfl nds | exact PRun.callW (v1) rfl rfl nd rfl nds | exact PRun.callW (v2) rfl rfl nd rfl nds | exact PRun.callW (v3) rfl rfl nd rfl nds | exact PRun.callW (x1) rfl rfl nd rfl nds | exact PRun.callW (x2) rfl rfl nd rfl nds | exact PRun.callW (x3) rfl rfl nd rfl nds | exact PRun.callW (x4) rfl rfl nd rfl nds | exact PRun.callW (x5) rfl rfl nd rfl nds | exact std1) (by exact rfl) ?_)
    · exfalso; simp at hc
    · exfalso; revert hc f2; cases x <;> cases y <;> simp
    · exfalso
      have h9 : (a.id != b.id && (x == y)) = true := hc
      rw [f3] at h9; cases h9
    · refine ⟨.inr rfl, Ent.b ?_⟩
      show (true && ((!x || !z) || w)) = true
      rw [f4]; rfl
theorem meant_ok {m : Jo.Mark} {p : Part} {r : Rdr} (hm : markOk m = true) (hr : isRdr r = true) (hp : r.part = p.id) : meantR m p r = (forM m p.section_ r, 0) := by
  unfold meantR; rw [hm, hr, show (true && true) = true from rfl, if_pos rfl, if_pos hp]
set_option maxHeartbeats 8000000 in
set_option maxRecDepth 20000 in
theorem meant_law (m : Jo.Mark) (hm : m.text.length ≤ 9223372036854775807) (p : Part) (r1 r2 : Rdr) :
    PCall Tryz.prog 7 [.agg (encMk m), .agg (encP p), .agg (encRd r1), .agg (encRd r2)] (.b true) := by
  have hh := mhead_spec
  have v1 := valid19_spec m hm
  have v2 := rdr19_spec r1
  have v3 := rdr19_spec r2
  by_cases hbad : ((((!markOk m || !isRdr r1) || !isRdr r2) || r1.part != p.id) || r2.part != p.id) = true
  · refine PCall.body Tryz.func7 rfl rfl Tryz.ntmps7 rfl rfl ?_
    repeat' (first
      | refine AOps.q rfl rfl rfl (fun hg => by first | exact std0 | exact PRun.callW (hh) rfl rfl nd rfl nds | exact PRun.callW (v1) rfl rfl nd rfl nds | exact PRun.callW (v2) rfl rfl nd rfl nds | exact PRun.callW (v3) rfl rfl nd rfl nds | exact std1) (by exact rfl) ?_
      | refine AWP.seq ?_
      | refine AWP.regionK (fun K' hK => ?_)
      | (refine AOps.nil (hK _ _ ?_); clear hK K')
      | refine AOps.e (EStep.boxW rfl rfl rfl rfl rfl True.intro rfl rfl ?_)
      | refine AOps.e (EStep.storeW tabOk rfl rfl rfl True.intro rfl rfl True.intro rfl rfl rfl rfl rfl rfl rfl ?_)
      | refine AOps.e (EStep.allocW tabOk rfl rfl rfl rfl rfl rfl ?_)
      | (refine AWP.condW rfl True.intro (fun hc => ?_) (fun hc => ?_) <;> (first | (simp only [decide_eq_true_eq] at hc) | (simp only [decide_eq_false_iff_not, Int.not_lt, Int.not_le] at hc) | skip))
      | refine AWP.block ?_
      | refine AWP.exit ?_
      | refine AWP.skip ?_
      | refine AWP.ret ?_
      | (refine AQ.nil (hK _ ?_); clear hK K')
      | refine AQ.nil ?_
      | refine AQ.q rfl rfl (fun hg => by first | exact std0 | exact PRun.callW (hh) rfl rfl nd rfl nds | exact PRun.callW (v1) rfl rfl nd rfl nds | exact PRun.callW (v2) rfl rfl nd rfl nds | exact PRun.callW (v3) rfl rfl nd rfl nds | exact std1) (by exact rfl) ?_)
    · exact ⟨.inr rfl, Ent.b rfl⟩
    all_goals (exfalso; first | (rw [hbad] at hc; cases hc) | (rename_i h9; rw [hbad] at h9; cases h9) | (rename_i h9 _; rw [hbad] at h9; cases h9) | (rename_i h9 _ _; rw [hbad] at h9; cases h9) | (rename_i h9 _ _ _; rw [hbad] at h9; cases h9))
  · have hbad2 : ((((!markOk m || !isRdr r1) || !isRdr r2) || r1.part != p.id) || r2.part != p.id) = false := by simpa using hbad
    simp only [Bool.or_eq_false_iff, Bool.not_eq_false', bne_eq_false_iff_eq] at hbad2
    obtain ⟨⟨⟨⟨o1, o2⟩, o3⟩, o4⟩, o5⟩ := hbad2
    have x1 := meant_spec m p r1 hm
    have x2 := meant_spec m p r2 hm
    rw [meant_ok o1 o2 o4] at x1
    rw [meant_ok o1 o3 o5] at x2
    rw [o1] at v1
    rw [o2] at v2
    rw [o3] at v3
    clear hbad
    have o45 : r1.part = r2.part := by rw [o4, o5]
    rcases markOk_layer o1 with hly | hly | hly | hly
    · have g1 : forM m p.section_ r1 = (m.who == r1) := by unfold forM; rw [if_pos hly]
      have g2 : forM m p.section_ r2 = (m.who == r2) := by unfold forM; rw [if_pos hly]
      have f1 : ((!(m.who == r1) || !(m.who == r2)) || r1 == r2) = true := by
        by_cases h1 : m.who = r1
        · by_cases h2 : m.who = r2
          · have : r1 = r2 := h1.symm.trans h2
            rw [this]; simp
          · simp [h2]
        · simp [h1]
      have f2 : ((m.who == r1) || m.who != r1) = true := by cases h : m.who == r1 <;> simp [bne, h]
      rw [g1] at x1
      rw [g2] at x2
      refine PCall.body Tryz.func7 rfl rfl Tryz.ntmps7 rfl rfl ?_
      repeat' (first
        | refine AOps.q rfl rfl rfl (fun hg => by first | exact std0 | exact PRun.callW (hh) rfl rfl nd rfl nds | exact PRun.callW (v1) rfl rfl nd rfl nds | exact PRun.callW (v2) rfl rfl nd rfl nds | exact PRun.callW (v3) rfl rfl nd rfl nds | exact PRun.callW (x1) rfl rfl nd rfl nds | exact PRun.callW (x2) rfl rfl nd rfl nds | exact PRun.eqN flR rfl rfl nd rfl nd rfl | exact PRun.neN flR rfl rfl nd rfl nd rfl | exact std1) (by exact rfl) ?_
        | refine AWP.seq ?_
        | refine AWP.regionK (fun K' hK => ?_)
        | (refine AOps.nil (hK _ _ ?_); clear hK K')
        | refine AOps.e (EStep.boxW rfl rfl rfl rfl rfl True.intro rfl rfl ?_)
        | refine AOps.e (EStep.storeW tabOk rfl rfl rfl True.intro rfl rfl True.intro rfl rfl rfl rfl rfl rfl rfl ?_)
        | refine AOps.e (EStep.allocW tabOk rfl rfl rfl rfl rfl rfl ?_)
        | (refine AWP.condW rfl True.intro (fun hc => ?_) (fun hc => ?_) <;> (first | (simp only [decide_eq_true_eq] at hc) | (simp only [decide_eq_false_iff_not, Int.not_lt, Int.not_le] at hc) | skip))
        | refine AWP.block ?_
        | refine AWP.exit ?_
        | refine AWP.skip ?_
        | refine AWP.ret ?_
        | refine AWP.drawK2 (by decide +kernel) (by kernel_rfl) (by decide +kernel) rfl (fun K' hK => ?_)
        | refine AWP.drawL2 (by kernel_rfl) (by decide +kernel) rfl (fun K' hK => ?_)
        | (refine AQ.nil (hK _ ?_); clear hK K')
        | refine AQ.nil ?_
        | refine AQ.q rfl rfl (fun hg => by first | exact std0 | exact PRun.callW (hh) rfl rfl nd rfl nds | exact PRun.callW (v1) rfl rfl nd rfl nds | exact PRun.callW (v2) rfl rfl nd rfl nds | exact PRun.callW (v3) rfl rfl nd rfl nds | exact PRun.callW (x1) rfl rfl nd rfl nds | exact PRun.callW (x2) rfl rfl nd rfl nds | exact PRun.eqN flR rfl rfl nd rfl nd rfl | exact PRun.neN flR rfl rfl nd rfl nd rfl | exact std1) (by exact rfl) ?_)
      all_goals first | (exfalso; revert hc; simp [o4, o5]; done) | (exfalso; revert hc; rw [hly]; decide) | (exfalso; rename_i h9; revert h9; rw [hly]; decide) | (exfalso; rename_i h9 _; revert h9; rw [hly]; decide) | (exfalso; rename_i h9 _ _; revert h9; rw [hly]; decide) | skip
      refine ⟨.inr rfl, Ent.b ?_⟩
      show ((true && ((!(m.who == r1) || !(m.who == r2)) || eqR r1 r2)) && ((m.who == r1) || !eqR m.who r1)) = true
      rw [eqR_eq, eqR_eq, f1]
      exact f2
    · have g1 : forM m p.section_ r1 = (m.who.part == r1.part && m.who.desk == r1.desk) := by unfold forM; rw [if_neg (by omega), if_pos hly]
      have g2 : forM m p.section_ r2 = (m.who.part == r2.part && m.who.desk == r2.desk) := by unfold forM; rw [if_neg (by omega), if_pos hly]
      have f1 : (r1.desk != r2.desk || (m.who.part == r1.part && m.who.desk == r1.desk) == (m.who.part == r2.part && m.who.desk == r2.desk)) = true := by
        by_cases h : r1.desk = r2.desk
        · rw [h, o45]; simp
        · simp [h]
      have f2 : (r1.desk == r2.desk || !(m.who.part == r1.part && m.who.desk == r1.desk) || !(m.who.part == r2.part && m.who.desk == r2.desk)) = true := by
        by_cases h : r1.desk = r2.desk
        · simp [h]
        · by_cases h1 : m.who.desk = r1.desk
          · have : ¬ m.who.desk = r2.desk := fun e => h (h1.symm.trans e)
            simp [this]
          · simp [h1]
      rw [g1] at x1
      rw [g2] at x2
      generalize (m.who.part == r1.part && m.who.desk == r1.desk) = x at *
      generalize (m.who.part == r2.part && m.who.desk == r2.desk) = y at *
      refine PCall.body Tryz.func7 rfl rfl Tryz.ntmps7 rfl rfl ?_
      repeat' (first
        | refine AOps.q rfl rfl rfl (fun hg => by first | exact std0 | exact PRun.callW (hh) rfl rfl nd rfl nds | exact PRun.callW (v1) rfl rfl nd rfl nds | exact PRun.callW (v2) rfl rfl nd rfl nds | exact PRun.callW (v3) rfl rfl nd rfl nds | exact PRun.callW (x1) rfl rfl nd rfl nds | exact PRun.callW (x2) rfl rfl nd rfl nds | exact std1) (by exact rfl) ?_
        | refine AWP.seq ?_
        | refine AWP.regionK (fun K' hK => ?_)
        | (refine AOps.nil (hK _ _ ?_); clear hK K')
        | refine AOps.e (EStep.boxW rfl rfl rfl rfl rfl True.intro rfl rfl ?_)
        | refine AOps.e (EStep.storeW tabOk rfl rfl rfl True.intro rfl rfl True.intro rfl rfl rfl rfl rfl rfl rfl ?_)
        | refine AOps.e (EStep.allocW tabOk rfl rfl rfl rfl rfl rfl ?_)
        | (refine AWP.condW rfl True.intro (fun hc => ?_) (fun hc => ?_) <;> (first | (simp only [decide_eq_true_eq] at hc) | (simp only [decide_eq_false_iff_not, Int.not_lt, Int.not_le] at hc) | skip))
        | refine AWP.block ?_
        | refine AWP.exit ?_
        | refine AWP.skip ?_
        | refine AWP.ret ?_
        | refine AWP.drawK2 (by decide +kernel) (by kernel_rfl) (by decide +kernel) rfl (fun K' hK => ?_)
        | refine AWP.drawL2 (by kernel_rfl) (by decide +kernel) rfl (fun K' hK => ?_)
        | (refine AQ.nil (hK _ ?_); clear hK K')
        | refine AQ.nil ?_
        | refine AQ.q rfl rfl (fun hg => by first | exact std0 | exact PRun.callW (hh) rfl rfl nd rfl nds | exact PRun.callW (v1) rfl rfl nd rfl nds | exact PRun.callW (v2) rfl rfl nd rfl nds | exact PRun.callW (v3) rfl rfl nd rfl nds | exact PRun.callW (x1) rfl rfl nd rfl nds | exact PRun.callW (x2) rfl rfl nd rfl nds | exact std1) (by exact rfl) ?_)
      all_goals first | (exfalso; revert hc; simp [o4, o5]; done) | (exfalso; revert hc; rw [hly]; decide) | (exfalso; rename_i h9; revert h9; rw [hly]; decide) | (exfalso; rename_i h9 _; revert h9; rw [hly]; decide) | (exfalso; rename_i h9 _ _; revert h9; rw [hly]; decide) | skip
      refine ⟨.inr rfl, Ent.b ?_⟩
      show ((true && (r1.desk != r2.desk || x == y)) && ((r1.desk == r2.desk || !x) || !y)) = true
      rw [f1]
      exact f2
    · have g1 : forM m p.section_ r1 = (m.who.part == p.section_) := by unfold forM; rw [if_neg (by omega), if_neg (by omega), if_pos hly]
      have g2 : forM m p.section_ r2 = (m.who.part == p.section_) := by unfold forM; rw [if_neg (by omega), if_neg (by omega), if_pos hly]
      rw [g1] at x1
      rw [g2] at x2
      refine PCall.body Tryz.func7 rfl rfl Tryz.ntmps7 rfl rfl ?_
      repeat' (first
        | refine AOps.q rfl rfl rfl (fun hg => by first | exact std0 | exact PRun.callW (hh) rfl rfl nd rfl nds | exact PRun.callW (v1) rfl rfl nd rfl nds | exact PRun.callW (v2) rfl rfl nd rfl nds | exact PRun.callW (v3) rfl rfl nd rfl nds | exact PRun.callW (x1) rfl rfl nd rfl nds | exact PRun.callW (x2) rfl rfl nd rfl nds | exact std1) (by exact rfl) ?_
        | refine AWP.seq ?_
        | refine AWP.regionK (fun K' hK => ?_)
        | (refine AOps.nil (hK _ _ ?_); clear hK K')
        | refine AOps.e (EStep.boxW rfl rfl rfl rfl rfl True.intro rfl rfl ?_)
        | refine AOps.e (EStep.storeW tabOk rfl rfl rfl True.intro rfl rfl True.intro rfl rfl rfl rfl rfl rfl rfl ?_)
        | refine AOps.e (EStep.allocW tabOk rfl rfl rfl rfl rfl rfl ?_)
        | (refine AWP.condW rfl True.intro (fun hc => ?_) (fun hc => ?_) <;> (first | (simp only [decide_eq_true_eq] at hc) | (simp only [decide_eq_false_iff_not, Int.not_lt, Int.not_le] at hc) | skip))
        | refine AWP.block ?_
        | refine AWP.exit ?_
        | refine AWP.skip ?_
        | refine AWP.ret ?_
        | refine AWP.drawK2 (by decide +kernel) (by kernel_rfl) (by decide +kernel) rfl (fun K' hK => ?_)
        | refine AWP.drawL2 (by kernel_rfl) (by decide +kernel) rfl (fun K' hK => ?_)
        | (refine AQ.nil (hK _ ?_); clear hK K')
        | refine AQ.nil ?_
        | refine AQ.q rfl rfl (fun hg => by first | exact std0 | exact PRun.callW (hh) rfl rfl nd rfl nds | exact PRun.callW (v1) rfl rfl nd rfl nds | exact PRun.callW (v2) rfl rfl nd rfl nds | exact PRun.callW (v3) rfl rfl nd rfl nds | exact PRun.callW (x1) rfl rfl nd rfl nds | exact PRun.callW (x2) rfl rfl nd rfl nds | exact std1) (by exact rfl) ?_)
      all_goals first | (exfalso; revert hc; simp [o4, o5]; done) | (exfalso; revert hc; rw [hly]; decide) | (exfalso; rename_i h9; revert h9; rw [hly]; decide) | (exfalso; rename_i h9 _; revert h9; rw [hly]; decide) | (exfalso; rename_i h9 _ _; revert h9; rw [hly]; decide) | skip
      exact ⟨.inr rfl, Ent.b (by simp)⟩
    · have g1 : forM m p.section_ r1 = true := by unfold forM; rw [if_neg (by omega), if_neg (by omega), if_neg (by omega)]
      have g2 : forM m p.section_ r2 = true := by unfold forM; rw [if_neg (by omega), if_neg (by omega), if_neg (by omega)]
      rw [g1] at x1
      rw [g2] at x2
      refine PCall.body Tryz.func7 rfl rfl Tryz.ntmps7 rfl rfl ?_
      repeat' (first
        | refine AOps.q rfl rfl rfl (fun hg => by first | exact std0 | exact PRun.callW (hh) rfl rfl nd rfl nds | exact PRun.callW (v1) rfl rfl nd rfl nds | exact PRun.callW (v2) rfl rfl nd rfl nds | exact PRun.callW (v3) rfl rfl nd rfl nds | exact PRun.callW (x1) rfl rfl nd rfl nds | exact PRun.callW (x2) rfl rfl nd rfl nds | exact std1) (by exact rfl) ?_
        | refine AWP.seq ?_
        | refine AWP.regionK (fun K' hK => ?_)
        | (refine AOps.nil (hK _ _ ?_); clear hK K')
        | refine AOps.e (EStep.boxW rfl rfl rfl rfl rfl True.intro rfl rfl ?_)
        | refine AOps.e (EStep.storeW tabOk rfl rfl rfl True.intro rfl rfl True.intro rfl rfl rfl rfl rfl rfl rfl ?_)
        | refine AOps.e (EStep.allocW tabOk rfl rfl rfl rfl rfl rfl ?_)
        | (refine AWP.condW rfl True.intro (fun hc => ?_) (fun hc => ?_) <;> (first | (simp only [decide_eq_true_eq] at hc) | (simp only [decide_eq_false_iff_not, Int.not_lt, Int.not_le] at hc) | skip))
        | refine AWP.block ?_
        | refine AWP.exit ?_
        | refine AWP.skip ?_
        | refine AWP.ret ?_
        | refine AWP.drawK2 (by decide +kernel) (by kernel_rfl) (by decide +kernel) rfl (fun K' hK => ?_)
        | refine AWP.drawL2 (by kernel_rfl) (by decide +kernel) rfl (fun K' hK => ?_)
        | (refine AQ.nil (hK _ ?_); clear hK K')
        | refine AQ.nil ?_
        | refine AQ.q rfl rfl (fun hg => by first | exact std0 | exact PRun.callW (hh) rfl rfl nd rfl nds | exact PRun.callW (v1) rfl rfl nd rfl nds | exact PRun.callW (v2) rfl rfl nd rfl nds | exact PRun.callW (v3) rfl rfl nd rfl nds | exact PRun.callW (x1) rfl rfl nd rfl nds | exact PRun.callW (x2) rfl rfl nd rfl nds | exact std1) (by exact rfl) ?_)
      all_goals first | (exfalso; revert hc; simp [o4, o5]; done) | (exfalso; revert hc; rw [hly]; decide) | (exfalso; rename_i h9; revert h9; rw [hly]; decide) | (exfalso; rename_i h9 _; revert h9; rw [hly]; decide) | (exfalso; rename_i h9 _ _; revert h9; rw [hly]; decide) | skip
      exact ⟨.inr rfl, Ent.b (by simp)⟩
end Go.Proofs.YthfcafcjkaemiaaGreatDoor.Mk
