/- Contracts by content: score.index at bars, parts and notes. No statement is proved here. -/
import Derived.Test.YthfcafcjkaemiaaGreatDoorCL
set_option linter.unusedVariables false
set_option linter.unusedSimpArgs false
namespace Go.Proofs.YthfcafcjkaemiaaGreatDoor
open Go.Ab
attribute [local irreducible] AWP AOps EStep AQ PStep PRun PCall TCall VCall

def idxR (i : Int) : Int × Bool := (max i 0, decide (i ≥ 0))
theorem indexPart1_spec (x : Part) (id : Int) : PCall Tryz.prog 126 [.agg (encP x), .iptr [(.fn (.func 64) [] [])], .iptr [.int id]] (.b (x.id == id)) := by
  refine PCall.body Tryz.func126 rfl rfl Tryz.ntmps126 rfl rfl ?_
  repeat' (first
    | refine AOps.q rfl rfl rfl (fun hg => by first | exact std0 | exact PRun.callW (partID_spec x) rfl rfl nd rfl nds | exact std1) (by exact rfl) ?_
    | refine AWP.seq ?_
    | refine AWP.regionK (fun K' hK => ?_)
    | (refine AOps.nil (hK _ _ ?_); clear hK K')
    | refine AOps.e (EStep.boxW rfl rfl rfl rfl rfl True.intro rfl rfl ?_)
    | refine AOps.e (EStep.storeW tabOk rfl rfl rfl True.intro rfl rfl True.intro rfl rfl rfl rfl rfl rfl rfl ?_)
    | refine AOps.e (EStep.allocW tabOk rfl rfl rfl rfl rfl rfl ?_)
    | (refine AWP.condW rfl True.intro (fun hc => ?_) (fun hc => ?_) <;> (first | (simp only [decide_eq_true_eq] at hc) | (simp only [decide_eq_false_iff_not, Int.not_lt, Int.not_le] at hc) | skip))
    | refine AWP.block ?_
    | refine AWP.exit ?_
    | refine AWP.skip ?_
    | refine AWP.ret ?_
    | refine AWP.drawK2 (by decide +kernel) (by kernel_rfl) (by decide +kernel) rfl (fun K' hK => ?_)
    | refine AWP.drawL2 (by kernel_rfl) (by decide +kernel) rfl (fun K' hK => ?_)
    | (refine AQ.nil (hK _ ?_); clear hK K')
    | refine AQ.nil ?_
    | refine AQ.q rfl rfl (fun hg => by first | exact std0 | exact PRun.callW (partID_spec x) rfl rfl nd rfl nds | exact std1) (by exact rfl) ?_)
  exact ⟨.inr rfl, Ent.b rfl⟩
theorem indexPart_spec (l : List Part) (id : Int) (hl : l.length ≤ 9223372036854775807) : PCall Tryz.prog 63 [.sl 13 (l.map encP) .no, .int id, (.fn (.func 64) [] [])]
    (.tup [.int (idxR (findI (fun x : Part => x.id == id) l)).1, .b (idxR (findI (fun x : Part => x.id == id) l)).2]) := by
  have hf : ∀ x : Part, FnCall Tryz.prog (.fn (.func 126) [] [.iptr [(.fn (.func 64) [] [])], .iptr [.int id]]) [.agg (encP x)] (.b (x.id == id)) := fun x => ⟨_, [], _, rfl, indexPart1_spec x id⟩
  have h := idxPart_spec l _ (fun x : Part => x.id == id) (fun x _ => hf x) hl
  refine PCall.body Tryz.func63 rfl rfl Tryz.ntmps63 rfl rfl ?_
  repeat' (first
    | refine AOps.q rfl rfl rfl (fun hg => by first | exact std0 | exact PRun.callBW (h) rfl rfl nd rfl rfl nds | exact PRun.maxW rfl rfl nd rfl nd | exact std1) (by exact rfl) ?_
    | refine AWP.seq ?_
    | refine AWP.regionK (fun K' hK => ?_)
    | (refine AOps.nil (hK _ _ ?_); clear hK K')
    | refine AOps.e (EStep.boxW rfl rfl rfl rfl rfl True.intro rfl rfl ?_)
    | refine AOps.e (EStep.storeW tabOk rfl rfl rfl True.intro rfl rfl True.intro rfl rfl rfl rfl rfl rfl rfl ?_)
    | refine AOps.e (EStep.allocW tabOk rfl rfl rfl rfl rfl rfl ?_)
    | (refine AWP.condW rfl True.intro (fun hc => ?_) (fun hc => ?_) <;> (first | (simp only [decide_eq_true_eq] at hc) | (simp only [decide_eq_false_iff_not, Int.not_lt, Int.not_le] at hc) | skip))
    | refine AWP.block ?_
    | refine AWP.exit ?_
    | refine AWP.skip ?_
    | refine AWP.ret ?_
    | refine AWP.drawK2 (by decide +kernel) (by kernel_rfl) (by decide +kernel) rfl (fun K' hK => ?_)
    | refine AWP.drawL2 (by kernel_rfl) (by decide +kernel) rfl (fun K' hK => ?_)
    | (refine AQ.nil (hK _ ?_); clear hK K')
    | refine AQ.nil ?_
    | refine AQ.q rfl rfl (fun hg => by first | exact std0 | exact PRun.callBW (h) rfl rfl nd rfl rfl nds | exact PRun.maxW rfl rfl nd rfl nd | exact std1) (by exact rfl) ?_)
  exact ⟨.inr rfl, Ent.t2 rfl rfl⟩
theorem indexNote1_spec (x : Note) (id : Int) : PCall Tryz.prog 146 [.agg (encN x), .iptr [(.fn (.func 105) [] [])], .iptr [.int id]] (.b (x.id == id)) := by
  refine PCall.body Tryz.func146 rfl rfl Tryz.ntmps146 rfl rfl ?_
  repeat' (first
    | refine AOps.q rfl rfl rfl (fun hg => by first | exact std0 | exact PRun.callW (noteID_spec x) rfl rfl nd rfl nds | exact std1) (by exact rfl) ?_
    | refine AWP.seq ?_
    | refine AWP.regionK (fun K' hK => ?_)
    | (refine AOps.nil (hK _ _ ?_); clear hK K')
    | refine AOps.e (EStep.boxW rfl rfl rfl rfl rfl True.intro rfl rfl ?_)
    | refine AOps.e (EStep.storeW tabOk rfl rfl rfl True.intro rfl rfl True.intro rfl rfl rfl rfl rfl rfl rfl ?_)
    | refine AOps.e (EStep.allocW tabOk rfl rfl rfl rfl rfl rfl ?_)
    | (refine AWP.condW rfl True.intro (fun hc => ?_) (fun hc => ?_) <;> (first | (simp only [decide_eq_true_eq] at hc) | (simp only [decide_eq_false_iff_not, Int.not_lt, Int.not_le] at hc) | skip))
    | refine AWP.block ?_
    | refine AWP.exit ?_
    | refine AWP.skip ?_
    | refine AWP.ret ?_
    | refine AWP.drawK2 (by decide +kernel) (by kernel_rfl) (by decide +kernel) rfl (fun K' hK => ?_)
    | refine AWP.drawL2 (by kernel_rfl) (by decide +kernel) rfl (fun K' hK => ?_)
    | (refine AQ.nil (hK _ ?_); clear hK K')
    | refine AQ.nil ?_
    | refine AQ.q rfl rfl (fun hg => by first | exact std0 | exact PRun.callW (noteID_spec x) rfl rfl nd rfl nds | exact std1) (by exact rfl) ?_)
  exact ⟨.inr rfl, Ent.b rfl⟩
theorem indexNote_spec (l : List Note) (id : Int) (hl : l.length ≤ 9223372036854775807) : PCall Tryz.prog 104 [.sl 12 (l.map encN) .no, .int id, (.fn (.func 105) [] [])]
    (.tup [.int (idxR (findI (fun x : Note => x.id == id) l)).1, .b (idxR (findI (fun x : Note => x.id == id) l)).2]) := by
  have hf : ∀ x : Note, FnCall Tryz.prog (.fn (.func 146) [] [.iptr [(.fn (.func 105) [] [])], .iptr [.int id]]) [.agg (encN x)] (.b (x.id == id)) := fun x => ⟨_, [], _, rfl, indexNote1_spec x id⟩
  have h := idxNote_spec l _ (fun x : Note => x.id == id) (fun x _ => hf x) hl
  refine PCall.body Tryz.func104 rfl rfl Tryz.ntmps104 rfl rfl ?_
  repeat' (first
    | refine AOps.q rfl rfl rfl (fun hg => by first | exact std0 | exact PRun.callBW (h) rfl rfl nd rfl rfl nds | exact PRun.maxW rfl rfl nd rfl nd | exact std1) (by exact rfl) ?_
    | refine AWP.seq ?_
    | refine AWP.regionK (fun K' hK => ?_)
    | (refine AOps.nil (hK _ _ ?_); clear hK K')
    | refine AOps.e (EStep.boxW rfl rfl rfl rfl rfl True.intro rfl rfl ?_)
    | refine AOps.e (EStep.storeW tabOk rfl rfl rfl True.intro rfl rfl True.intro rfl rfl rfl rfl rfl rfl rfl ?_)
    | refine AOps.e (EStep.allocW tabOk rfl rfl rfl rfl rfl rfl ?_)
    | (refine AWP.condW rfl True.intro (fun hc => ?_) (fun hc => ?_) <;> (first | (simp only [decide_eq_true_eq] at hc) | (simp only [decide_eq_false_iff_not, Int.not_lt, Int.not_le] at hc) | skip))
    | refine AWP.block ?_
    | refine AWP.exit ?_
    | refine AWP.skip ?_
    | refine AWP.ret ?_
    | refine AWP.drawK2 (by decide +kernel) (by kernel_rfl) (by decide +kernel) rfl (fun K' hK => ?_)
    | refine AWP.drawL2 (by kernel_rfl) (by decide +kernel) rfl (fun K' hK => ?_)
    | (refine AQ.nil (hK _ ?_); clear hK K')
    | refine AQ.nil ?_
    | refine AQ.q rfl rfl (fun hg => by first | exact std0 | exact PRun.callBW (h) rfl rfl nd rfl rfl nds | exact PRun.maxW rfl rfl nd rfl nd | exact std1) (by exact rfl) ?_)
  exact ⟨.inr rfl, Ent.t2 rfl rfl⟩
end Go.Proofs.YthfcafcjkaemiaaGreatDoor
