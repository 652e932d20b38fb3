/- Contracts by content: score.index at bars, parts and notes. No statement is proved here. -/
import Derived.Test.YtjonnpjbibgjnaaGreatDoorCL
set_option linter.unusedVariables false
set_option linter.unusedSimpArgs false
namespace Go.Proofs.YtjonnpjbibgjnaaGreatDoor
open Go.Ab
attribute [local irreducible] AWP AOps EStep AQ PStep PRun PCall TCall VCall

def idxR (i : Int) : Int × Bool := (max i 0, decide (i ≥ 0))
theorem indexPart1_spec (x : Part) (id : Int) : PCall Tryz.prog 70 [.agg (encP x), .iptr [(.fn (.func 40) [] [])], .iptr [.int id]] (.b (x.id == id)) := by
  refine PCall.body Tryz.func70 rfl rfl Tryz.ntmps70 rfl rfl ?_
  repeat' (first
    | refine AOps.q rfl rfl rfl (fun hg => by first | exact std0 | exact PRun.callW (partID_spec x) rfl rfl nd rfl nds | exact std1) (by exact rfl) ?_
    | refine AWP.seq ?_
    | refine AWP.regionK (fun K' hK => ?_)
    | (refine AOps.nil (hK _ _ ?_); clear hK K')
    | refine AOps.e (EStep.boxW rfl rfl rfl rfl rfl True.intro rfl rfl ?_)
    | refine AOps.e (EStep.storeW tabOk rfl rfl rfl True.intro rfl rfl True.intro rfl rfl rfl rfl rfl rfl rfl ?_)
    | refine AOps.e (EStep.allocW tabOk rfl rfl rfl rfl rfl rfl ?_)
    | (refine AWP.condW rfl True.intro (fun hc => ?_) (fun hc => ?_) <;> (first | (simp only [decide_eq_true_eq] at hc) | (simp only [decide_eq_false_iff_not, Int.not_lt, Int.not_le] at hc) | skip))
    | refine AWP.block ?_
    | refine AWP.exit ?_
    | refine AWP.skip ?_
    | refine AWP.ret ?_
    | refine AWP.drawK2 (by decide +kernel) (by kernel_rfl) (by decide +kernel) rfl (fun K' hK => ?_)
    | refine AWP.drawL2 (by kernel_rfl) (by decide +kernel) rfl (fun K' hK => ?_)
    | (refine AQ.nil (hK _ ?_); clear hK K')
    | refine AQ.nil ?_
    | refine AQ.q rfl rfl (fun hg => by first | exact std0 | exact PRun.callW (partID_spec x) rfl rfl nd rfl nds | exact std1) (by exact rfl) ?_)
  exact ⟨.inr rfl, Ent.b rfl⟩
theorem indexPart_spec (l : List Part) (id : Int) (hl : l.length ≤ 9223372036854775807) : PCall Tryz.prog 39 [.sl 13 (l.map encP) .no, .int id, (.fn (.func 40) [] [])]
    (.tup [.int (idxR (findI (fun x : Part => x.id == id) l)).1, .b (idxR (findI (fun x : Part => x.id == id) l)).2]) := by
  have hf : ∀ x : Part, FnCall Tryz.prog (.fn (.func 70) [] [.iptr [(.fn (.func 40) [] [])], .iptr [.int id]]) [.agg (encP x)] (.b (x.id == id)) := fun x => ⟨_, [], _, rfl, indexPart1_spec x id⟩
  have h := idxPart_spec l _ (fun x : Part => x.id == id) (fun x _ => hf x) hl
  refine PCall.body Tryz.func39 rfl rfl Tryz.ntmps39 rfl rfl ?_
  repeat' (first
    | refine AOps.q rfl rfl rfl (fun hg => by first | exact std0 | exact PRun.callBW (h) rfl rfl nd rfl rfl nds | exact PRun.maxW rfl rfl nd rfl nd | exact std1) (by exact rfl) ?_
    | refine AWP.seq ?_
    | refine AWP.regionK (fun K' hK => ?_)
    | (refine AOps.nil (hK _ _ ?_); clear hK K')
    | refine AOps.e (EStep.boxW rfl rfl rfl rfl rfl True.intro rfl rfl ?_)
    | refine AOps.e (EStep.storeW tabOk rfl rfl rfl True.intro rfl rfl True.intro rfl rfl rfl rfl rfl rfl rfl ?_)
    | refine AOps.e (EStep.allocW tabOk rfl rfl rfl rfl rfl rfl ?_)
    | (refine AWP.condW rfl True.intro (fun hc => ?_) (fun hc => ?_) <;> (first | (simp only [decide_eq_true_eq] at hc) | (simp only [decide_eq_false_iff_not, Int.not_lt, Int.not_le] at hc) | skip))
    | refine AWP.block ?_
    | refine AWP.exit ?_
    | refine AWP.skip ?_
    | refine AWP.ret ?_
    | refine AWP.drawK2 (by decide +kernel) (by kernel_rfl) (by decide +kernel) rfl (fun K' hK => ?_)
    | refine AWP.drawL2 (by kernel_rfl) (by decide +kernel) rfl (fun K' hK => ?_)
    | (refine AQ.nil (hK _ ?_); clear hK K')
    | refine AQ.nil ?_
    | refine AQ.q rfl rfl (fun hg => by first | exact std0 | exact PRun.callBW (h) rfl rfl nd rfl rfl nds | exact PRun.maxW rfl rfl nd rfl nd | exact std1) (by exact rfl) ?_)
  exact ⟨.inr rfl, Ent.t2 rfl rfl⟩
theorem indexBar1_spec (x : Bar) (id : Int) : PCall Tryz.prog 88 [.agg (encB x), .iptr [(.fn (.func 56) [] [])], .iptr [.int id]] (.b (x.id == id)) := by
  refine PCall.body Tryz.func88 rfl rfl Tryz.ntmps88 rfl rfl ?_
  repeat' (first
    | refine AOps.q rfl rfl rfl (fun hg => by first | exact std0 | exact PRun.callW (barID_spec x) rfl rfl nd rfl nds | exact std1) (by exact rfl) ?_
    | refine AWP.seq ?_
    | refine AWP.regionK (fun K' hK => ?_)
    | (refine AOps.nil (hK _ _ ?_); clear hK K')
    | refine AOps.e (EStep.boxW rfl rfl rfl rfl rfl True.intro rfl rfl ?_)
    | refine AOps.e (EStep.storeW tabOk rfl rfl rfl True.intro rfl rfl True.intro rfl rfl rfl rfl rfl rfl rfl ?_)
    | refine AOps.e (EStep.allocW tabOk rfl rfl rfl rfl rfl rfl ?_)
    | (refine AWP.condW rfl True.intro (fun hc => ?_) (fun hc => ?_) <;> (first | (simp only [decide_eq_true_eq] at hc) | (simp only [decide_eq_false_iff_not, Int.not_lt, Int.not_le] at hc) | skip))
    | refine AWP.block ?_
    | refine AWP.exit ?_
    | refine AWP.skip ?_
    | refine AWP.ret ?_
    | refine AWP.drawK2 (by decide +kernel) (by kernel_rfl) (by decide +kernel) rfl (fun K' hK => ?_)
    | refine AWP.drawL2 (by kernel_rfl) (by decide +kernel) rfl (fun K' hK => ?_)
    | (refine AQ.nil (hK _ ?_); clear hK K')
    | refine AQ.nil ?_
    | refine AQ.q rfl rfl (fun hg => by first | exact std0 | exact PRun.callW (barID_spec x) rfl rfl nd rfl nds | exact std1) (by exact rfl) ?_)
  exact ⟨.inr rfl, Ent.b rfl⟩
theorem indexBar_spec (l : List Bar) (id : Int) (hl : l.length ≤ 9223372036854775807) : PCall Tryz.prog 55 [.sl 4 (l.map encB) .no, .int id, (.fn (.func 56) [] [])]
    (.tup [.int (idxR (findI (fun x : Bar => x.id == id) l)).1, .b (idxR (findI (fun x : Bar => x.id == id) l)).2]) := by
  have hf : ∀ x : Bar, FnCall Tryz.prog (.fn (.func 88) [] [.iptr [(.fn (.func 56) [] [])], .iptr [.int id]]) [.agg (encB x)] (.b (x.id == id)) := fun x => ⟨_, [], _, rfl, indexBar1_spec x id⟩
  have h := idxBar_spec l _ (fun x : Bar => x.id == id) (fun x _ => hf x) hl
  refine PCall.body Tryz.func55 rfl rfl Tryz.ntmps55 rfl rfl ?_
  repeat' (first
    | refine AOps.q rfl rfl rfl (fun hg => by first | exact std0 | exact PRun.callBW (h) rfl rfl nd rfl rfl nds | exact PRun.maxW rfl rfl nd rfl nd | exact std1) (by exact rfl) ?_
    | refine AWP.seq ?_
    | refine AWP.regionK (fun K' hK => ?_)
    | (refine AOps.nil (hK _ _ ?_); clear hK K')
    | refine AOps.e (EStep.boxW rfl rfl rfl rfl rfl True.intro rfl rfl ?_)
    | refine AOps.e (EStep.storeW tabOk rfl rfl rfl True.intro rfl rfl True.intro rfl rfl rfl rfl rfl rfl rfl ?_)
    | refine AOps.e (EStep.allocW tabOk rfl rfl rfl rfl rfl rfl ?_)
    | (refine AWP.condW rfl True.intro (fun hc => ?_) (fun hc => ?_) <;> (first | (simp only [decide_eq_true_eq] at hc) | (simp only [decide_eq_false_iff_not, Int.not_lt, Int.not_le] at hc) | skip))
    | refine AWP.block ?_
    | refine AWP.exit ?_
    | refine AWP.skip ?_
    | refine AWP.ret ?_
    | refine AWP.drawK2 (by decide +kernel) (by kernel_rfl) (by decide +kernel) rfl (fun K' hK => ?_)
    | refine AWP.drawL2 (by kernel_rfl) (by decide +kernel) rfl (fun K' hK => ?_)
    | (refine AQ.nil (hK _ ?_); clear hK K')
    | refine AQ.nil ?_
    | refine AQ.q rfl rfl (fun hg => by first | exact std0 | exact PRun.callBW (h) rfl rfl nd rfl rfl nds | exact PRun.maxW rfl rfl nd rfl nd | exact std1) (by exact rfl) ?_)
  exact ⟨.inr rfl, Ent.t2 rfl rfl⟩
theorem indexNote1_spec (x : Note) (id : Int) : PCall Tryz.prog 90 [.agg (encN x), .iptr [(.fn (.func 61) [] [])], .iptr [.int id]] (.b (x.id == id)) := by
  refine PCall.body Tryz.func90 rfl rfl Tryz.ntmps90 rfl rfl ?_
  repeat' (first
    | refine AOps.q rfl rfl rfl (fun hg => by first | exact std0 | exact PRun.callW (noteID_spec x) rfl rfl nd rfl nds | exact std1) (by exact rfl) ?_
    | refine AWP.seq ?_
    | refine AWP.regionK (fun K' hK => ?_)
    | (refine AOps.nil (hK _ _ ?_); clear hK K')
    | refine AOps.e (EStep.boxW rfl rfl rfl rfl rfl True.intro rfl rfl ?_)
    | refine AOps.e (EStep.storeW tabOk rfl rfl rfl True.intro rfl rfl True.intro rfl rfl rfl rfl rfl rfl rfl ?_)
    | refine AOps.e (EStep.allocW tabOk rfl rfl rfl rfl rfl rfl ?_)
    | (refine AWP.condW rfl True.intro (fun hc => ?_) (fun hc => ?_) <;> (first | (simp only [decide_eq_true_eq] at hc) | (simp only [decide_eq_false_iff_not, Int.not_lt, Int.not_le] at hc) | skip))
    | refine AWP.block ?_
    | refine AWP.exit ?_
    | refine AWP.skip ?_
    | refine AWP.ret ?_
    | refine AWP.drawK2 (by decide +kernel) (by kernel_rfl) (by decide +kernel) rfl (fun K' hK => ?_)
    | refine AWP.drawL2 (by kernel_rfl) (by decide +kernel) rfl (fun K' hK => ?_)
    | (refine AQ.nil (hK _ ?_); clear hK K')
    | refine AQ.nil ?_
    | refine AQ.q rfl rfl (fun hg => by first | exact std0 | exact PRun.callW (noteID_spec x) rfl rfl nd rfl nds | exact std1) (by exact rfl) ?_)
  exact ⟨.inr rfl, Ent.b rfl⟩
theorem indexNote_spec (l : List Note) (id : Int) (hl : l.length ≤ 9223372036854775807) : PCall Tryz.prog 60 [.sl 12 (l.map encN) .no, .int id, (.fn (.func 61) [] [])]
    (.tup [.int (idxR (findI (fun x : Note => x.id == id) l)).1, .b (idxR (findI (fun x : Note => x.id == id) l)).2]) := by
  have hf : ∀ x : Note, FnCall Tryz.prog (.fn (.func 90) [] [.iptr [(.fn (.func 61) [] [])], .iptr [.int id]]) [.agg (encN x)] (.b (x.id == id)) := fun x => ⟨_, [], _, rfl, indexNote1_spec x id⟩
  have h := idxNote_spec l _ (fun x : Note => x.id == id) (fun x _ => hf x) hl
  refine PCall.body Tryz.func60 rfl rfl Tryz.ntmps60 rfl rfl ?_
  repeat' (first
    | refine AOps.q rfl rfl rfl (fun hg => by first | exact std0 | exact PRun.callBW (h) rfl rfl nd rfl rfl nds | exact PRun.maxW rfl rfl nd rfl nd | exact std1) (by exact rfl) ?_
    | refine AWP.seq ?_
    | refine AWP.regionK (fun K' hK => ?_)
    | (refine AOps.nil (hK _ _ ?_); clear hK K')
    | refine AOps.e (EStep.boxW rfl rfl rfl rfl rfl True.intro rfl rfl ?_)
    | refine AOps.e (EStep.storeW tabOk rfl rfl rfl True.intro rfl rfl True.intro rfl rfl rfl rfl rfl rfl rfl ?_)
    | refine AOps.e (EStep.allocW tabOk rfl rfl rfl rfl rfl rfl ?_)
    | (refine AWP.condW rfl True.intro (fun hc => ?_) (fun hc => ?_) <;> (first | (simp only [decide_eq_true_eq] at hc) | (simp only [decide_eq_false_iff_not, Int.not_lt, Int.not_le] at hc) | skip))
    | refine AWP.block ?_
    | refine AWP.exit ?_
    | refine AWP.skip ?_
    | refine AWP.ret ?_
    | refine AWP.drawK2 (by decide +kernel) (by kernel_rfl) (by decide +kernel) rfl (fun K' hK => ?_)
    | refine AWP.drawL2 (by kernel_rfl) (by decide +kernel) rfl (fun K' hK => ?_)
    | (refine AQ.nil (hK _ ?_); clear hK K')
    | refine AQ.nil ?_
    | refine AQ.q rfl rfl (fun hg => by first | exact std0 | exact PRun.callBW (h) rfl rfl nd rfl rfl nds | exact PRun.maxW rfl rfl nd rfl nd | exact std1) (by exact rfl) ?_)
  exact ⟨.inr rfl, Ent.t2 rfl rfl⟩
end Go.Proofs.YtjonnpjbibgjnaaGreatDoor
