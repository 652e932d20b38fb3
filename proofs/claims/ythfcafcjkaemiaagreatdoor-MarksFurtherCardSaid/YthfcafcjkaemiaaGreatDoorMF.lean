/- Contracts by content: for whom marks are meant, and which counts, of the reference and of the program. No statement is proved here. -/
import Derived.Test.YthfcafcjkaemiaaGreatDoorMD
import Derived.Test.YthfcafcjkaemiaaGreatDoorCK
set_option linter.unusedVariables false
set_option linter.unusedSimpArgs false
namespace Go.Proofs.YthfcafcjkaemiaaGreatDoor.Mk
open Go.Ab Go.Jo
attribute [local irreducible] AWP AOps EStep AQ PStep PRun PCall TCall VCall DStep TDies AWD DCall

def eqR (a b : Rdr) : Bool := a.part == b.part && (a.desk == b.desk && (a.seat == b.seat && true))
theorem eqR_eq (a b : Rdr) : eqR a b = (a == b) := by
  unfold eqR
  rw [Bool.eq_iff_iff]
  obtain ⟨a1, a2, a3⟩ := a
  obtain ⟨b1, b2, b3⟩ := b
  simp
def forM (m : Jo.Mark) (sec : Int) (r : Rdr) : Bool :=
  if m.layer = 1 then m.who == r else if m.layer = 2 then m.who.part == r.part && m.who.desk == r.desk else if m.layer = 3 then m.who.part == sec else true
theorem for19_spec (m : Jo.Mark) (sec : Int) (r : Rdr) : PCall Tryz.prog 85 [.agg (encMk m), .int sec, .agg (encRd r)] (.b (forM m sec r)) := by
  refine PCall.body Tryz.func85 rfl rfl Tryz.ntmps85 rfl rfl ?_
  repeat' (first
    | refine AOps.q rfl rfl rfl (fun hg => by first | exact std0 | exact PRun.eqN flR rfl rfl nd rfl nd rfl | exact std1) (by exact rfl) ?_
    | refine AWP.seq ?_
    | refine AWP.regionK (fun K' hK => ?_)
    | (refine AOps.nil (hK _ _ ?_); clear hK K')
    | refine AOps.e (EStep.boxW rfl rfl rfl rfl rfl True.intro rfl rfl ?_)
    | refine AOps.e (EStep.storeW tabOk rfl rfl rfl True.intro rfl rfl True.intro rfl rfl rfl rfl rfl rfl rfl ?_)
    | refine AOps.e (EStep.allocW tabOk rfl rfl rfl rfl rfl rfl ?_)
    | (refine AWP.condW rfl True.intro (fun hc => ?_) (fun hc => ?_) <;> (first | (simp only [decide_eq_true_eq] at hc) | (simp only [decide_eq_false_iff_not, Int.not_lt, Int.not_le] at hc) | skip))
    | refine AWP.block ?_
    | refine AWP.exit ?_
    | refine AWP.skip ?_
    | refine AWP.ret ?_
    | refine AWP.drawK2 (by decide +kernel) (by kernel_rfl) (by decide +kernel) rfl (fun K' hK => ?_)
    | refine AWP.drawL2 (by kernel_rfl) (by decide +kernel) rfl (fun K' hK => ?_)
    | (refine AQ.nil (hK _ ?_); clear hK K')
    | refine AQ.nil ?_
    | refine AQ.q rfl rfl (fun hg => by first | exact std0 | exact PRun.eqN flR rfl rfl nd rfl nd rfl | exact std1) (by exact rfl) ?_)
  · refine ⟨.inr rfl, Ent.b ?_⟩
    show eqR m.who r = _
    unfold forM
    rw [if_pos (eq_of_beq hc), eqR_eq]
  all_goals (refine ⟨.inr rfl, Ent.b ?_⟩; unfold forM; simp_all [beq_iff_eq])
def cnt (a b : Jo.Mark) : Bool := if a.layer = b.layer then decide (b.id < a.id) else decide (b.layer < a.layer)
theorem counts19_spec (a b : Jo.Mark) : PCall Tryz.prog 95 [.agg (encMk a), .agg (encMk b)] (.b (cnt a b)) := by
  refine PCall.body Tryz.func95 rfl rfl Tryz.ntmps95 rfl rfl ?_
  repeat' (first
    | refine AOps.q rfl rfl rfl (fun hg => by first | exact std0 | exact std1) (by exact rfl) ?_
    | refine AWP.seq ?_
    | refine AWP.regionK (fun K' hK => ?_)
    | (refine AOps.nil (hK _ _ ?_); clear hK K')
    | refine AOps.e (EStep.boxW rfl rfl rfl rfl rfl True.intro rfl rfl ?_)
    | refine AOps.e (EStep.storeW tabOk rfl rfl rfl True.intro rfl rfl True.intro rfl rfl rfl rfl rfl rfl rfl ?_)
    | refine AOps.e (EStep.allocW tabOk rfl rfl rfl rfl rfl rfl ?_)
    | (refine AWP.condW rfl True.intro (fun hc => ?_) (fun hc => ?_) <;> (first | (simp only [decide_eq_true_eq] at hc) | (simp only [decide_eq_false_iff_not, Int.not_lt, Int.not_le] at hc) | skip))
    | refine AWP.block ?_
    | refine AWP.exit ?_
    | refine AWP.skip ?_
    | refine AWP.ret ?_
    | refine AWP.drawK2 (by decide +kernel) (by kernel_rfl) (by decide +kernel) rfl (fun K' hK => ?_)
    | refine AWP.drawL2 (by kernel_rfl) (by decide +kernel) rfl (fun K' hK => ?_)
    | (refine AQ.nil (hK _ ?_); clear hK K')
    | refine AQ.nil ?_
    | refine AQ.q rfl rfl (fun hg => by first | exact std0 | exact std1) (by exact rfl) ?_)
  refine ⟨.inr rfl, Ent.b ?_⟩
  show (decide (a.layer > b.layer) || (a.layer == b.layer && decide (a.id > b.id))) = _
  unfold cnt
  rw [Bool.eq_iff_iff]
  split <;> simp <;> omega
theorem counts_spec (a b : Jo.Mark) : PCall Tryz.prog 94 [.agg (encMk a), .agg (encMk b)] (.b (cnt a b)) := by
  refine PCall.body Tryz.func94 rfl rfl Tryz.ntmps94 rfl rfl ?_
  repeat' (first
    | refine AOps.q rfl rfl rfl (fun hg => by first | exact std0 | exact std1) (by exact rfl) ?_
    | refine AWP.seq ?_
    | refine AWP.regionK (fun K' hK => ?_)
    | (refine AOps.nil (hK _ _ ?_); clear hK K')
    | refine AOps.e (EStep.boxW rfl rfl rfl rfl rfl True.intro rfl rfl ?_)
    | refine AOps.e (EStep.storeW tabOk rfl rfl rfl True.intro rfl rfl True.intro rfl rfl rfl rfl rfl rfl rfl ?_)
    | refine AOps.e (EStep.allocW tabOk rfl rfl rfl rfl rfl rfl ?_)
    | (refine AWP.condW rfl True.intro (fun hc => ?_) (fun hc => ?_) <;> (first | (simp only [decide_eq_true_eq] at hc) | (simp only [decide_eq_false_iff_not, Int.not_lt, Int.not_le] at hc) | skip))
    | refine AWP.block ?_
    | refine AWP.exit ?_
    | refine AWP.skip ?_
    | refine AWP.ret ?_
    | refine AWP.drawK2 (by decide +kernel) (by kernel_rfl) (by decide +kernel) rfl (fun K' hK => ?_)
    | refine AWP.drawL2 (by kernel_rfl) (by decide +kernel) rfl (fun K' hK => ?_)
    | (refine AQ.nil (hK _ ?_); clear hK K')
    | refine AQ.nil ?_
    | refine AQ.q rfl rfl (fun hg => by first | exact std0 | exact std1) (by exact rfl) ?_)
  · refine ⟨.inr rfl, Ent.b ?_⟩
    unfold cnt
    rw [if_neg (by simpa using hc)]
  · refine ⟨.inr rfl, Ent.b ?_⟩
    unfold cnt
    rw [if_pos (by simpa using hc)]
/-- Which of two counts, or that one is no mark. -/
def beforeR (a b : Jo.Mark) : Bool × Int := if markOk a && markOk b then (cnt a b, 0) else (false, 1)
def at2 (r : Bool × Int) : AV := .tup [.b r.1, .int r.2]
theorem before19_spec (a b : Jo.Mark) (ha : a.text.length ≤ 9223372036854775807) (hb : b.text.length ≤ 9223372036854775807) : PCall Tryz.prog 38 [.agg (encMk a), .agg (encMk b)] (at2 (beforeR a b)) := by
  have v1 := valid19_spec a ha
  have v2 := valid19_spec b hb
  have v3 := counts19_spec a b
  refine PCall.body Tryz.func38 rfl rfl Tryz.ntmps38 rfl rfl ?_
  repeat' (first
    | refine AOps.q rfl rfl rfl (fun hg => by first | exact std0 | exact PRun.callW (v1) rfl rfl nd rfl nds | exact PRun.callW (v2) rfl rfl nd rfl nds | exact PRun.callW (v3) rfl rfl nd rfl nds | exact std1) (by exact rfl) ?_
    | refine AWP.seq ?_
    | refine AWP.regionK (fun K' hK => ?_)
    | (refine AOps.nil (hK _ _ ?_); clear hK K')
    | refine AOps.e (EStep.boxW rfl rfl rfl rfl rfl True.intro rfl rfl ?_)
    | refine AOps.e (EStep.storeW tabOk rfl rfl rfl True.intro rfl rfl True.intro rfl rfl rfl rfl rfl rfl rfl ?_)
    | refine AOps.e (EStep.allocW tabOk rfl rfl rfl rfl rfl rfl ?_)
    | (refine AWP.condW rfl True.intro (fun hc => ?_) (fun hc => ?_) <;> (first | (simp only [decide_eq_true_eq] at hc) | (simp only [decide_eq_false_iff_not, Int.not_lt, Int.not_le] at hc) | skip))
    | refine AWP.block ?_
    | refine AWP.exit ?_
    | refine AWP.skip ?_
    | refine AWP.ret ?_
    | refine AWP.drawK2 (by decide +kernel) (by kernel_rfl) (by decide +kernel) rfl (fun K' hK => ?_)
    | refine AWP.drawL2 (by kernel_rfl) (by decide +kernel) rfl (fun K' hK => ?_)
    | (refine AQ.nil (hK _ ?_); clear hK K')
    | refine AQ.nil ?_
    | refine AQ.q rfl rfl (fun hg => by first | exact std0 | exact PRun.callW (v1) rfl rfl nd rfl nds | exact PRun.callW (v2) rfl rfl nd rfl nds | exact PRun.callW (v3) rfl rfl nd rfl nds | exact std1) (by exact rfl) ?_)
  · refine ⟨.inr rfl, Ent.of ?_⟩
    rw [show beforeR a b = (false, 1) from by unfold beforeR; rw [if_neg (by revert hc; cases markOk a <;> cases markOk b <;> simp)]]; rfl
  · refine ⟨.inr rfl, Ent.of ?_⟩
    rw [show beforeR a b = (cnt a b, 0) from by unfold beforeR; rw [if_pos (by revert hc; cases markOk a <;> cases markOk b <;> simp)]]; rfl
theorem before_spec (a b : Jo.Mark) (ha : a.text.length ≤ 9223372036854775807) (hb : b.text.length ≤ 9223372036854775807) : PCall Tryz.prog 37 [.agg (encMk a), .agg (encMk b)] (at2 (beforeR a b)) := by
  have v1 := mvalid_spec a ha
  have v2 := mvalid_spec b hb
  have v3 := counts_spec a b
  refine PCall.body Tryz.func37 rfl rfl Tryz.ntmps37 rfl rfl ?_
  repeat' (first
    | refine AOps.q rfl rfl rfl (fun hg => by first | exact std0 | exact PRun.callW (v1) rfl rfl nd rfl nds | exact PRun.callW (v2) rfl rfl nd rfl nds | exact PRun.callW (v3) rfl rfl nd rfl nds | exact std1) (by exact rfl) ?_
    | refine AWP.seq ?_
    | refine AWP.regionK (fun K' hK => ?_)
    | (refine AOps.nil (hK _ _ ?_); clear hK K')
    | refine AOps.e (EStep.boxW rfl rfl rfl rfl rfl True.intro rfl rfl ?_)
    | refine AOps.e (EStep.storeW tabOk rfl rfl rfl True.intro rfl rfl True.intro rfl rfl rfl rfl rfl rfl rfl ?_)
    | refine AOps.e (EStep.allocW tabOk rfl rfl rfl rfl rfl rfl ?_)
    | (refine AWP.condW rfl True.intro (fun hc => ?_) (fun hc => ?_) <;> (first | (simp only [decide_eq_true_eq] at hc) | (simp only [decide_eq_false_iff_not, Int.not_lt, Int.not_le] at hc) | skip))
    | refine AWP.block ?_
    | refine AWP.exit ?_
    | refine AWP.skip ?_
    | refine AWP.ret ?_
    | refine AWP.drawK2 (by decide +kernel) (by kernel_rfl) (by decide +kernel) rfl (fun K' hK => ?_)
    | refine AWP.drawL2 (by kernel_rfl) (by decide +kernel) rfl (fun K' hK => ?_)
    | (refine AQ.nil (hK _ ?_); clear hK K')
    | refine AQ.nil ?_
    | refine AQ.q rfl rfl (fun hg => by first | exact std0 | exact PRun.callW (v1) rfl rfl nd rfl nds | exact PRun.callW (v2) rfl rfl nd rfl nds | exact PRun.callW (v3) rfl rfl nd rfl nds | exact std1) (by exact rfl) ?_)
  · refine ⟨.inr rfl, Ent.of ?_⟩
    rw [show beforeR a b = (false, 1) from by unfold beforeR; rw [if_neg (by revert hc; cases markOk a <;> cases markOk b <;> simp)]]; rfl
  · refine ⟨.inr rfl, Ent.of ?_⟩
    rw [show beforeR a b = (cnt a b, 0) from by unfold beforeR; rw [if_pos (by revert hc; cases markOk a <;> cases markOk b <;> simp)]]; rfl
def meantR (m : Jo.Mark) (p : Part) (r : Rdr) : Bool × Int := if markOk m && isRdr r then (if r.part = p.id then (forM m p.section_ r, 0) else (false, 22)) else (false, 1)
theorem meant19_spec (m : Jo.Mark) (p : Part) (r : Rdr) (hm : m.text.length ≤ 9223372036854775807) : PCall Tryz.prog 34 [.agg (encMk m), .agg (encP p), .agg (encRd r)] (at2 (meantR m p r)) := by
  have v1 := valid19_spec m hm
  have v2 := rdr19_spec r
  have v3 := for19_spec m p.section_ r
  refine PCall.body Tryz.func34 rfl rfl Tryz.ntmps34 rfl rfl ?_
  repeat' (first
    | refine AOps.q rfl rfl rfl (fun hg => by first | exact std0 | exact PRun.callW (v1) rfl rfl nd rfl nds | exact PRun.callW (v2) rfl rfl nd rfl nds | exact PRun.callW (v3) rfl rfl nd rfl nds | exact std1) (by exact rfl) ?_
    | refine AWP.seq ?_
    | refine AWP.regionK (fun K' hK => ?_)
    | (refine AOps.nil (hK _ _ ?_); clear hK K')
    | refine AOps.e (EStep.boxW rfl rfl rfl rfl rfl True.intro rfl rfl ?_)
    | refine AOps.e (EStep.storeW tabOk rfl rfl rfl True.intro rfl rfl True.intro rfl rfl rfl rfl rfl rfl rfl ?_)
    | refine AOps.e (EStep.allocW tabOk rfl rfl rfl rfl rfl rfl ?_)
    | (refine AWP.condW rfl True.intro (fun hc => ?_) (fun hc => ?_) <;> (first | (simp only [decide_eq_true_eq] at hc) | (simp only [decide_eq_false_iff_not, Int.not_lt, Int.not_le] at hc) | skip))
    | refine AWP.block ?_
    | refine AWP.exit ?_
    | refine AWP.skip ?_
    | refine AWP.ret ?_
    | refine AWP.drawK2 (by decide +kernel) (by kernel_rfl) (by decide +kernel) rfl (fun K' hK => ?_)
    | refine AWP.drawL2 (by kernel_rfl) (by decide +kernel) rfl (fun K' hK => ?_)
    | (refine AQ.nil (hK _ ?_); clear hK K')
    | refine AQ.nil ?_
    | refine AQ.q rfl rfl (fun hg => by first | exact std0 | exact PRun.callW (v1) rfl rfl nd rfl nds | exact PRun.callW (v2) rfl rfl nd rfl nds | exact PRun.callW (v3) rfl rfl nd rfl nds | exact std1) (by exact rfl) ?_)
  · refine ⟨.inr rfl, Ent.of ?_⟩
    rw [show meantR m p r = (false, 1) from by unfold meantR; rw [if_neg (by revert hc; cases markOk m <;> cases isRdr r <;> simp)]]; rfl
  · rename_i h1
    refine ⟨.inr rfl, Ent.of ?_⟩
    rw [show meantR m p r = (false, 22) from by unfold meantR; rw [if_pos (by revert h1; cases markOk m <;> cases isRdr r <;> simp), if_neg (by simpa using hc)]]; rfl
  · rename_i h1
    refine ⟨.inr rfl, Ent.of ?_⟩
    rw [show meantR m p r = (forM m p.section_ r, 0) from by unfold meantR; rw [if_pos (by revert h1; cases markOk m <;> cases isRdr r <;> simp), if_pos (by simpa using hc)]]; rfl
theorem mea1_spec (w : Rdr) (sec : Int) (r : Rdr) : PCall Tryz.prog 134 [.agg (encRd w), .int sec, .agg (encRd r)] (.b (w == r)) := by
  refine PCall.body Tryz.func134 rfl rfl Tryz.ntmps134 rfl rfl ?_
  repeat' (first
    | refine AOps.q rfl rfl rfl (fun hg => by first | exact std0 | exact PRun.eqN flR rfl rfl nd rfl nd rfl | exact std1) (by exact rfl) ?_
    | refine AWP.seq ?_
    | refine AWP.regionK (fun K' hK => ?_)
    | (refine AOps.nil (hK _ _ ?_); clear hK K')
    | refine AOps.e (EStep.boxW rfl rfl rfl rfl rfl True.intro rfl rfl ?_)
    | refine AOps.e (EStep.storeW tabOk rfl rfl rfl True.intro rfl rfl True.intro rfl rfl rfl rfl rfl rfl rfl ?_)
    | refine AOps.e (EStep.allocW tabOk rfl rfl rfl rfl rfl rfl ?_)
    | (refine AWP.condW rfl True.intro (fun hc => ?_) (fun hc => ?_) <;> (first | (simp only [decide_eq_true_eq] at hc) | (simp only [decide_eq_false_iff_not, Int.not_lt, Int.not_le] at hc) | skip))
    | refine AWP.block ?_
    | refine AWP.exit ?_
    | refine AWP.skip ?_
    | refine AWP.ret ?_
    | refine AWP.drawK2 (by decide +kernel) (by kernel_rfl) (by decide +kernel) rfl (fun K' hK => ?_)
    | refine AWP.drawL2 (by kernel_rfl) (by decide +kernel) rfl (fun K' hK => ?_)
    | (refine AQ.nil (hK _ ?_); clear hK K')
    | refine AQ.nil ?_
    | refine AQ.q rfl rfl (fun hg => by first | exact std0 | exact PRun.eqN flR rfl rfl nd rfl nd rfl | exact std1) (by exact rfl) ?_)
  exact ⟨.inr rfl, Ent.b (eqR_eq w r)⟩
theorem mea3_spec (w : Rdr) (sec : Int) (r : Rdr) : PCall Tryz.prog 136 [.agg (encRd w), .int sec, .agg (encRd r)] (.b (w.part == r.part && w.desk == r.desk)) := by
  refine PCall.body Tryz.func136 rfl rfl Tryz.ntmps136 rfl rfl ?_
  repeat' (first
    | refine AOps.q rfl rfl rfl (fun hg => by first | exact std0 | exact std1) (by exact rfl) ?_
    | refine AWP.seq ?_
    | refine AWP.regionK (fun K' hK => ?_)
    | (refine AOps.nil (hK _ _ ?_); clear hK K')
    | refine AOps.e (EStep.boxW rfl rfl rfl rfl rfl True.intro rfl rfl ?_)
    | refine AOps.e (EStep.storeW tabOk rfl rfl rfl True.intro rfl rfl True.intro rfl rfl rfl rfl rfl rfl rfl ?_)
    | refine AOps.e (EStep.allocW tabOk rfl rfl rfl rfl rfl rfl ?_)
    | (refine AWP.condW rfl True.intro (fun hc => ?_) (fun hc => ?_) <;> (first | (simp only [decide_eq_true_eq] at hc) | (simp only [decide_eq_false_iff_not, Int.not_lt, Int.not_le] at hc) | skip))
    | refine AWP.block ?_
    | refine AWP.exit ?_
    | refine AWP.skip ?_
    | refine AWP.ret ?_
    | refine AWP.drawK2 (by decide +kernel) (by kernel_rfl) (by decide +kernel) rfl (fun K' hK => ?_)
    | refine AWP.drawL2 (by kernel_rfl) (by decide +kernel) rfl (fun K' hK => ?_)
    | (refine AQ.nil (hK _ ?_); clear hK K')
    | refine AQ.nil ?_
    | refine AQ.q rfl rfl (fun hg => by first | exact std0 | exact std1) (by exact rfl) ?_)
  exact ⟨.inr rfl, Ent.b rfl⟩
theorem mea5_spec (w : Rdr) (sec : Int) (r : Rdr) : PCall Tryz.prog 138 [.agg (encRd w), .int sec, .agg (encRd r)] (.b (w.part == sec)) := by
  refine PCall.body Tryz.func138 rfl rfl Tryz.ntmps138 rfl rfl ?_
  repeat' (first
    | refine AOps.q rfl rfl rfl (fun hg => by first | exact std0 | exact std1) (by exact rfl) ?_
    | refine AWP.seq ?_
    | refine AWP.regionK (fun K' hK => ?_)
    | (refine AOps.nil (hK _ _ ?_); clear hK K')
    | refine AOps.e (EStep.boxW rfl rfl rfl rfl rfl True.intro rfl rfl ?_)
    | refine AOps.e (EStep.storeW tabOk rfl rfl rfl True.intro rfl rfl True.intro rfl rfl rfl rfl rfl rfl rfl ?_)
    | refine AOps.e (EStep.allocW tabOk rfl rfl rfl rfl rfl rfl ?_)
    | (refine AWP.condW rfl True.intro (fun hc => ?_) (fun hc => ?_) <;> (first | (simp only [decide_eq_true_eq] at hc) | (simp only [decide_eq_false_iff_not, Int.not_lt, Int.not_le] at hc) | skip))
    | refine AWP.block ?_
    | refine AWP.exit ?_
    | refine AWP.skip ?_
    | refine AWP.ret ?_
    | refine AWP.drawK2 (by decide +kernel) (by kernel_rfl) (by decide +kernel) rfl (fun K' hK => ?_)
    | refine AWP.drawL2 (by kernel_rfl) (by decide +kernel) rfl (fun K' hK => ?_)
    | (refine AQ.nil (hK _ ?_); clear hK K')
    | refine AQ.nil ?_
    | refine AQ.q rfl rfl (fun hg => by first | exact std0 | exact std1) (by exact rfl) ?_)
  exact ⟨.inr rfl, Ent.b rfl⟩
theorem mea7_spec (w : Rdr) (sec : Int) (r : Rdr) : PCall Tryz.prog 140 [.agg (encRd w), .int sec, .agg (encRd r)] (.b true) := by
  refine PCall.body Tryz.func140 rfl rfl Tryz.ntmps140 rfl rfl ?_
  repeat' (first
    | refine AOps.q rfl rfl rfl (fun hg => by first | exact std0 | exact std1) (by exact rfl) ?_
    | refine AWP.seq ?_
    | refine AWP.regionK (fun K' hK => ?_)
    | (refine AOps.nil (hK _ _ ?_); clear hK K')
    | refine AOps.e (EStep.boxW rfl rfl rfl rfl rfl True.intro rfl rfl ?_)
    | refine AOps.e (EStep.storeW tabOk rfl rfl rfl True.intro rfl rfl True.intro rfl rfl rfl rfl rfl rfl rfl ?_)
    | refine AOps.e (EStep.allocW tabOk rfl rfl rfl rfl rfl rfl ?_)
    | (refine AWP.condW rfl True.intro (fun hc => ?_) (fun hc => ?_) <;> (first | (simp only [decide_eq_true_eq] at hc) | (simp only [decide_eq_false_iff_not, Int.not_lt, Int.not_le] at hc) | skip))
    | refine AWP.block ?_
    | refine AWP.exit ?_
    | refine AWP.skip ?_
    | refine AWP.ret ?_
    | refine AWP.drawK2 (by decide +kernel) (by kernel_rfl) (by decide +kernel) rfl (fun K' hK => ?_)
    | refine AWP.drawL2 (by kernel_rfl) (by decide +kernel) rfl (fun K' hK => ?_)
    | (refine AQ.nil (hK _ ?_); clear hK K')
    | refine AQ.nil ?_
    | refine AQ.q rfl rfl (fun hg => by first | exact std0 | exact std1) (by exact rfl) ?_)
  exact ⟨.inr rfl, Ent.b rfl⟩
theorem markOk_layer {m : Jo.Mark} (h : markOk m = true) : m.layer = 1 ∨ m.layer = 2 ∨ m.layer = 3 ∨ m.layer = 4 := by
  unfold markOk at h
  simp only [Bool.and_eq_true] at h
  have h2 := h.1.1.1.1.1.1.2
  unfold byOk at h2
  by_cases h1 : m.layer = 1
  · exact .inl h1
  by_cases h3 : m.layer = 2
  · exact .inr (.inl h3)
  by_cases h4 : m.layer = 3
  · exact .inr (.inr (.inl h4))
  by_cases h5 : m.layer = 4
  · exact .inr (.inr (.inr h5))
  · rw [if_neg h1, if_neg h3, if_neg h4, if_neg h5] at h2; cases h2
theorem meant_1 (m : Jo.Mark) (p : Part) (r : Rdr) (h : m.layer = 1) (hm : m.text.length ≤ 9223372036854775807) : PCall Tryz.prog 33 [.agg (encMk m), .agg (encP p), .agg (encRd r)] (at2 (meantR m p r)) := by
  have hlk : lk [((1 : Int), (1 : Nat)), (2, 2), (3, 3), (4, 4)] m.layer = some 1 := by rw [h]; rfl
  have hfo : forM m p.section_ r = (m.who == r) := by unfold forM; rw [h]; rfl
  have v1 := mvalid_spec m hm
  have v2 := mrdr_spec r
  have v3 := mea1_spec m.who p.section_ r
  refine PCall.body Tryz.func33 rfl rfl Tryz.ntmps33 rfl rfl ?_
  repeat' (first
    | refine AOps.q rfl rfl rfl (fun hg => by first | exact std0 | exact PRun.callW (v1) rfl rfl nd rfl nds | exact PRun.callW (v2) rfl rfl nd rfl nds | exact PRun.callW (layers_spec) rfl rfl nd rfl nds | exact PRun.callW (v3) rfl rfl nd rfl nds | exact PRun.lookupV (ek := ekI) (ev := layF) (zv := 0) hlk (keyLaw_int (LOk.of (tabOk.get rfl))) (LOk.of (tabOk.get rfl)) (LOk.of (tabOk.get rfl)) rfl rfl (Rd.w rfl nd) (Or.inl rfl) (Rd.w rfl nd) rfl | exact std1) (by exact rfl) ?_
    | refine AWP.seq ?_
    | refine AWP.regionK (fun K' hK => ?_)
    | (refine AOps.nil (hK _ _ ?_); clear hK K')
    | refine AOps.e (EStep.boxW rfl rfl rfl rfl rfl True.intro rfl rfl ?_)
    | refine AOps.e (EStep.storeW tabOk rfl rfl rfl True.intro rfl rfl True.intro rfl rfl rfl rfl rfl rfl rfl ?_)
    | refine AOps.e (EStep.allocW tabOk rfl rfl rfl rfl rfl rfl ?_)
    | (refine AWP.condW rfl True.intro (fun hc => ?_) (fun hc => ?_) <;> (first | (simp only [decide_eq_true_eq] at hc) | (simp only [decide_eq_false_iff_not, Int.not_lt, Int.not_le] at hc) | skip))
    | refine AWP.block ?_
    | refine AWP.exit ?_
    | refine AWP.skip ?_
    | refine AWP.ret ?_
    | refine AWP.drawK2 (by decide +kernel) (by kernel_rfl) (by decide +kernel) rfl (fun K' hK => ?_)
    | refine AWP.drawL2 (by kernel_rfl) (by decide +kernel) rfl (fun K' hK => ?_)
    | (refine AQ.nil (hK _ ?_); clear hK K')
    | refine AQ.nil ?_
    | refine AQ.q rfl rfl (fun hg => by first | exact std0 | exact PRun.callW (v1) rfl rfl nd rfl nds | exact PRun.callW (v2) rfl rfl nd rfl nds | exact PRun.callW (layers_spec) rfl rfl nd rfl nds | exact PRun.callW (v3) rfl rfl nd rfl nds | exact PRun.lookupV (ek := ekI) (ev := layF) (zv := 0) hlk (keyLaw_int (LOk.of (tabOk.get rfl))) (LOk.of (tabOk.get rfl)) (LOk.of (tabOk.get rfl)) rfl rfl (Rd.w rfl nd) (Or.inl rfl) (Rd.w rfl nd) rfl | exact std1) (by exact rfl) ?_)
  · refine ⟨.inr rfl, Ent.of ?_⟩
    rw [show meantR m p r = (false, 1) from by unfold meantR; rw [if_neg (by revert hc; cases markOk m <;> cases isRdr r <;> simp)]]; rfl
  · rename_i h1
    refine ⟨.inr rfl, Ent.of ?_⟩
    rw [show meantR m p r = (false, 22) from by unfold meantR; rw [if_pos (by revert h1; cases markOk m <;> cases isRdr r <;> simp), if_neg (by simpa using hc)]]; rfl
  · rename_i h1
    refine ⟨.inr rfl, Ent.of ?_⟩
    rw [show meantR m p r = (forM m p.section_ r, 0) from by unfold meantR; rw [if_pos (by revert h1; cases markOk m <;> cases isRdr r <;> simp), if_pos (by simpa using hc)], hfo]; rfl
theorem meant_2 (m : Jo.Mark) (p : Part) (r : Rdr) (h : m.layer = 2) (hm : m.text.length ≤ 9223372036854775807) : PCall Tryz.prog 33 [.agg (encMk m), .agg (encP p), .agg (encRd r)] (at2 (meantR m p r)) := by
  have hlk : lk [((1 : Int), (1 : Nat)), (2, 2), (3, 3), (4, 4)] m.layer = some 2 := by rw [h]; rfl
  have hfo : forM m p.section_ r = (m.who.part == r.part && m.who.desk == r.desk) := by unfold forM; rw [h]; rfl
  have v1 := mvalid_spec m hm
  have v2 := mrdr_spec r
  have v3 := mea3_spec m.who p.section_ r
  refine PCall.body Tryz.func33 rfl rfl Tryz.ntmps33 rfl rfl ?_
  repeat' (first
    | refine AOps.q rfl rfl rfl (fun hg => by first | exact std0 | exact PRun.callW (v1) rfl rfl nd rfl nds | exact PRun.callW (v2) rfl rfl nd rfl nds | exact PRun.callW (layers_spec) rfl rfl nd rfl nds | exact PRun.callW (v3) rfl rfl nd rfl nds | exact PRun.lookupV (ek := ekI) (ev := layF) (zv := 0) hlk (keyLaw_int (LOk.of (tabOk.get rfl))) (LOk.of (tabOk.get rfl)) (LOk.of (tabOk.get rfl)) rfl rfl (Rd.w rfl nd) (Or.inl rfl) (Rd.w rfl nd) rfl | exact std1) (by exact rfl) ?_
    | refine AWP.seq ?_
    | refine AWP.regionK (fun K' hK => ?_)
    | (refine AOps.nil (hK _ _ ?_); clear hK K')
    | refine AOps.e (EStep.boxW rfl rfl rfl rfl rfl True.intro rfl rfl ?_)
    | refine AOps.e (EStep.storeW tabOk rfl rfl rfl True.intro rfl rfl True.intro rfl rfl rfl rfl rfl rfl rfl ?_)
    | refine AOps.e (EStep.allocW tabOk rfl rfl rfl rfl rfl rfl ?_)
    | (refine AWP.condW rfl True.intro (fun hc => ?_) (fun hc => ?_) <;> (first | (simp only [decide_eq_true_eq] at hc) | (simp only [decide_eq_false_iff_not, Int.not_lt, Int.not_le] at hc) | skip))
    | refine AWP.block ?_
    | refine AWP.exit ?_
    | refine AWP.skip ?_
    | refine AWP.ret ?_
    | refine AWP.drawK2 (by decide +kernel) (by kernel_rfl) (by decide +kernel) rfl (fun K' hK => ?_)
    | refine AWP.drawL2 (by kernel_rfl) (by decide +kernel) rfl (fun K' hK => ?_)
    | (refine AQ.nil (hK _ ?_); clear hK K')
    | refine AQ.nil ?_
    | refine AQ.q rfl rfl (fun hg => by first | exact std0 | exact PRun.callW (v1) rfl rfl nd rfl nds | exact PRun.callW (v2) rfl rfl nd rfl nds | exact PRun.callW (layers_spec) rfl rfl nd rfl nds | exact PRun.callW (v3) rfl rfl nd rfl nds | exact PRun.lookupV (ek := ekI) (ev := layF) (zv := 0) hlk (keyLaw_int (LOk.of (tabOk.get rfl))) (LOk.of (tabOk.get rfl)) (LOk.of (tabOk.get rfl)) rfl rfl (Rd.w rfl nd) (Or.inl rfl) (Rd.w rfl nd) rfl | exact std1) (by exact rfl) ?_)
  · refine ⟨.inr rfl, Ent.of ?_⟩
    rw [show meantR m p r = (false, 1) from by unfold meantR; rw [if_neg (by revert hc; cases markOk m <;> cases isRdr r <;> simp)]]; rfl
  · rename_i h1
    refine ⟨.inr rfl, Ent.of ?_⟩
    rw [show meantR m p r = (false, 22) from by unfold meantR; rw [if_pos (by revert h1; cases markOk m <;> cases isRdr r <;> simp), if_neg (by simpa using hc)]]; rfl
  · rename_i h1
    refine ⟨.inr rfl, Ent.of ?_⟩
    rw [show meantR m p r = (forM m p.section_ r, 0) from by unfold meantR; rw [if_pos (by revert h1; cases markOk m <;> cases isRdr r <;> simp), if_pos (by simpa using hc)], hfo]; rfl
theorem meant_3 (m : Jo.Mark) (p : Part) (r : Rdr) (h : m.layer = 3) (hm : m.text.length ≤ 9223372036854775807) : PCall Tryz.prog 33 [.agg (encMk m), .agg (encP p), .agg (encRd r)] (at2 (meantR m p r)) := by
  have hlk : lk [((1 : Int), (1 : Nat)), (2, 2), (3, 3), (4, 4)] m.layer = some 3 := by rw [h]; rfl
  have hfo : forM m p.section_ r = (m.who.part == p.section_) := by unfold forM; rw [h]; rfl
  have v1 := mvalid_spec m hm
  have v2 := mrdr_spec r
  have v3 := mea5_spec m.who p.section_ r
  refine PCall.body Tryz.func33 rfl rfl Tryz.ntmps33 rfl rfl ?_
  repeat' (first
    | refine AOps.q rfl rfl rfl (fun hg => by first | exact std0 | exact PRun.callW (v1) rfl rfl nd rfl nds | exact PRun.callW (v2) rfl rfl nd rfl nds | exact PRun.callW (layers_spec) rfl rfl nd rfl nds | exact PRun.callW (v3) rfl rfl nd rfl nds | exact PRun.lookupV (ek := ekI) (ev := layF) (zv := 0) hlk (keyLaw_int (LOk.of (tabOk.get rfl))) (LOk.of (tabOk.get rfl)) (LOk.of (tabOk.get rfl)) rfl rfl (Rd.w rfl nd) (Or.inl rfl) (Rd.w rfl nd) rfl | exact std1) (by exact rfl) ?_
    | refine AWP.seq ?_
    | refine AWP.regionK (fun K' hK => ?_)
    | (refine AOps.nil (hK _ _ ?_); clear hK K')
    | refine AOps.e (EStep.boxW rfl rfl rfl rfl rfl True.intro rfl rfl ?_)
    | refine AOps.e (EStep.storeW tabOk rfl rfl rfl True.intro rfl rfl True.intro rfl rfl rfl rfl rfl rfl rfl ?_)
    | refine AOps.e (EStep.allocW tabOk rfl rfl rfl rfl rfl rfl ?_)
    | (refine AWP.condW rfl True.intro (fun hc => ?_) (fun hc => ?_) <;> (first | (simp only [decide_eq_true_eq] at hc) | (simp only [decide_eq_false_iff_not, Int.not_lt, Int.not_le] at hc) | skip))
    | refine AWP.block ?_
    | refine AWP.exit ?_
    | refine AWP.skip ?_
    | refine AWP.ret ?_
    | refine AWP.drawK2 (by decide +kernel) (by kernel_rfl) (by decide +kernel) rfl (fun K' hK => ?_)
    | refine AWP.drawL2 (by kernel_rfl) (by decide +kernel) rfl (fun K' hK => ?_)
    | (refine AQ.nil (hK _ ?_); clear hK K')
    | refine AQ.nil ?_
    | refine AQ.q rfl rfl (fun hg => by first | exact std0 | exact PRun.callW (v1) rfl rfl nd rfl nds | exact PRun.callW (v2) rfl rfl nd rfl nds | exact PRun.callW (layers_spec) rfl rfl nd rfl nds | exact PRun.callW (v3) rfl rfl nd rfl nds | exact PRun.lookupV (ek := ekI) (ev := layF) (zv := 0) hlk (keyLaw_int (LOk.of (tabOk.get rfl))) (LOk.of (tabOk.get rfl)) (LOk.of (tabOk.get rfl)) rfl rfl (Rd.w rfl nd) (Or.inl rfl) (Rd.w rfl nd) rfl | exact std1) (by exact rfl) ?_)
  · refine ⟨.inr rfl, Ent.of ?_⟩
    rw [show meantR m p r = (false, 1) from by unfold meantR; rw [if_neg (by revert hc; cases markOk m <;> cases isRdr r <;> simp)]]; rfl
  · rename_i h1
    refine ⟨.inr rfl, Ent.of ?_⟩
    rw [show meantR m p r = (false, 22) from by unfold meantR; rw [if_pos (by revert h1; cases markOk m <;> cases isRdr r <;> simp), if_neg (by simpa using hc)]]; rfl
  · rename_i h1
    refine ⟨.inr rfl, Ent.of ?_⟩
    rw [show meantR m p r = (forM m p.section_ r, 0) from by unfold meantR; rw [if_pos (by revert h1; cases markOk m <;> cases isRdr r <;> simp), if_pos (by simpa using hc)], hfo]; rfl
theorem meant_4 (m : Jo.Mark) (p : Part) (r : Rdr) (h : m.layer = 4) (hm : m.text.length ≤ 9223372036854775807) : PCall Tryz.prog 33 [.agg (encMk m), .agg (encP p), .agg (encRd r)] (at2 (meantR m p r)) := by
  have hlk : lk [((1 : Int), (1 : Nat)), (2, 2), (3, 3), (4, 4)] m.layer = some 4 := by rw [h]; rfl
  have hfo : forM m p.section_ r = (true) := by unfold forM; rw [h]; rfl
  have v1 := mvalid_spec m hm
  have v2 := mrdr_spec r
  have v3 := mea7_spec m.who p.section_ r
  refine PCall.body Tryz.func33 rfl rfl Tryz.ntmps33 rfl rfl ?_
  repeat' (first
    | refine AOps.q rfl rfl rfl (fun hg => by first | exact std0 | exact PRun.callW (v1) rfl rfl nd rfl nds | exact PRun.callW (v2) rfl rfl nd rfl nds | exact PRun.callW (layers_spec) rfl rfl nd rfl nds | exact PRun.callW (v3) rfl rfl nd rfl nds | exact PRun.lookupV (ek := ekI) (ev := layF) (zv := 0) hlk (keyLaw_int (LOk.of (tabOk.get rfl))) (LOk.of (tabOk.get rfl)) (LOk.of (tabOk.get rfl)) rfl rfl (Rd.w rfl nd) (Or.inl rfl) (Rd.w rfl nd) rfl | exact std1) (by exact rfl) ?_
    | refine AWP.seq ?_
    | refine AWP.regionK (fun K' hK => ?_)
    | (refine AOps.nil (hK _ _ ?_); clear hK K')
    | refine AOps.e (EStep.boxW rfl rfl rfl rfl rfl True.intro rfl rfl ?_)
    | refine AOps.e (EStep.storeW tabOk rfl rfl rfl True.intro rfl rfl True.intro rfl rfl rfl rfl rfl rfl rfl ?_)
    | refine AOps.e (EStep.allocW tabOk rfl rfl rfl rfl rfl rfl ?_)
    | (refine AWP.condW rfl True.intro (fun hc => ?_) (fun hc => ?_) <;> (first | (simp only [decide_eq_true_eq] at hc) | (simp only [decide_eq_false_iff_not, Int.not_lt, Int.not_le] at hc) | skip))
    | refine AWP.block ?_
    | refine AWP.exit ?_
    | refine AWP.skip ?_
    | refine AWP.ret ?_
    | refine AWP.drawK2 (by decide +kernel) (by kernel_rfl) (by decide +kernel) rfl (fun K' hK => ?_)
    | refine AWP.drawL2 (by kernel_rfl) (by decide +kernel) rfl (fun K' hK => ?_)
    | (refine AQ.nil (hK _ ?_); clear hK K')
    | refine AQ.nil ?_
    | refine AQ.q rfl rfl (fun hg => by first | exact std0 | exact PRun.callW (v1) rfl rfl nd rfl nds | exact PRun.callW (v2) rfl rfl nd rfl nds | exact PRun.callW (layers_spec) rfl rfl nd rfl nds | exact PRun.callW (v3) rfl rfl nd rfl nds | exact PRun.lookupV (ek := ekI) (ev := layF) (zv := 0) hlk (keyLaw_int (LOk.of (tabOk.get rfl))) (LOk.of (tabOk.get rfl)) (LOk.of (tabOk.get rfl)) rfl rfl (Rd.w rfl nd) (Or.inl rfl) (Rd.w rfl nd) rfl | exact std1) (by exact rfl) ?_)
  · refine ⟨.inr rfl, Ent.of ?_⟩
    rw [show meantR m p r = (false, 1) from by unfold meantR; rw [if_neg (by revert hc; cases markOk m <;> cases isRdr r <;> simp)]]; rfl
  · rename_i h1
    refine ⟨.inr rfl, Ent.of ?_⟩
    rw [show meantR m p r = (false, 22) from by unfold meantR; rw [if_pos (by revert h1; cases markOk m <;> cases isRdr r <;> simp), if_neg (by simpa using hc)]]; rfl
  · rename_i h1
    refine ⟨.inr rfl, Ent.of ?_⟩
    rw [show meantR m p r = (forM m p.section_ r, 0) from by unfold meantR; rw [if_pos (by revert h1; cases markOk m <;> cases isRdr r <;> simp), if_pos (by simpa using hc)], hfo]; rfl
theorem meant_0 (m : Jo.Mark) (p : Part) (r : Rdr) (h : markOk m = false) (hm : m.text.length ≤ 9223372036854775807) : PCall Tryz.prog 33 [.agg (encMk m), .agg (encP p), .agg (encRd r)] (at2 (meantR m p r)) := by
  have v1 := mvalid_spec m hm
  have er : meantR m p r = (false, 1) := by unfold meantR; rw [h]; rfl
  rw [er]
  rw [h] at v1
  refine PCall.body Tryz.func33 rfl rfl Tryz.ntmps33 rfl rfl ?_
  repeat' (first
    | refine AOps.q rfl rfl rfl (fun hg => by first | exact std0 | exact PRun.callW (v1) rfl rfl nd rfl nds | exact (Bool.noConfusion (show false = true from hg) : PRun _ _ _ _ (.b false)) | exact std1) (by exact rfl) ?_
    | refine AWP.seq ?_
    | refine AWP.regionK (fun K' hK => ?_)
    | (refine AOps.nil (hK _ _ ?_); clear hK K')
    | refine AOps.e (EStep.boxW rfl rfl rfl rfl rfl True.intro rfl rfl ?_)
    | refine AOps.e (EStep.storeW tabOk rfl rfl rfl True.intro rfl rfl True.intro rfl rfl rfl rfl rfl rfl rfl ?_)
    | refine AOps.e (EStep.allocW tabOk rfl rfl rfl rfl rfl rfl ?_)
    | (refine AWP.condW rfl True.intro (fun hc => ?_) (fun hc => ?_) <;> (first | (simp only [decide_eq_true_eq] at hc) | (simp only [decide_eq_false_iff_not, Int.not_lt, Int.not_le] at hc) | skip))
    | refine AWP.block ?_
    | refine AWP.exit ?_
    | refine AWP.skip ?_
    | refine AWP.ret ?_
    | (refine AQ.nil (hK _ ?_); clear hK K')
    | refine AQ.nil ?_
    | refine AQ.q rfl rfl (fun hg => by first | exact std0 | exact PRun.callW (v1) rfl rfl nd rfl nds | exact (Bool.noConfusion (show false = true from hg) : PRun _ _ _ _ (.b false)) | exact std1) (by exact rfl) ?_)
  · exact ⟨.inr rfl, Ent.of rfl⟩
  all_goals (exfalso; first | (simp at hc; done) | (rename_i h1; simp at h1; done))
theorem meant_spec (m : Jo.Mark) (p : Part) (r : Rdr) (hm : m.text.length ≤ 9223372036854775807) : PCall Tryz.prog 33 [.agg (encMk m), .agg (encP p), .agg (encRd r)] (at2 (meantR m p r)) := by
  cases h : markOk m with
  | false => exact meant_0 m p r h hm
  | true =>
    rcases markOk_layer h with h | h | h | h
    · exact meant_1 m p r h hm
    · exact meant_2 m p r h hm
    · exact meant_3 m p r h hm
    · exact meant_4 m p r h hm
end Go.Proofs.YthfcafcjkaemiaaGreatDoor.Mk
