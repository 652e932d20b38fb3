/- Contracts by content: score.Valid. No statement is proved here. -/
import Derived.Test.YtnmdmmfdnnmdfaaDoorCO
set_option linter.unusedVariables false
set_option linter.unusedSimpArgs false
namespace Go.Proofs.YtnmdmmfdnnmdfaaDoor
open Go.Ab
attribute [local irreducible] AWP AOps EStep AQ PStep PRun PCall TCall VCall

structure Score where
  version : Int
  bars : List Bar
  parts : List Part
  notes : List Note
  deriving DecidableEq, Inhabited
def encS (s : Score) : List AV := [.int s.version, .sl 4 (s.bars.map encB) .no, .sl 13 (s.parts.map encP) .no, .sl 12 (s.notes.map encN) .no]
def Score.Small (s : Score) : Prop := s.bars.length ≤ 1000000000 ∧ s.parts.length ≤ 1000000000 ∧ s.notes.length ≤ 1000000000
def scoreBad (s : Score) : Bool := !inB s.version 1 1000000 || !barsOk s.bars || !partsOk s.parts || !notesOk s.bars s.notes || wrongR s.parts s.notes != 0
def scoreOk (s : Score) : Bool := !scoreBad s && ((sortR s.bars s.notes).2 == 0 && (sortR s.bars s.notes).1 == s.notes)
theorem sortR_len (bars : List Bar) (l : List Note) : (sortR bars l).1.length ≤ l.length := by
  unfold sortR; split
  · simp [sortN_len]
  · simp
theorem svalid_spec (s : Score) (hs : s.Small) : PCall Tryd.prog 39 [.agg (encS s)] (.b (scoreOk s)) := by
  obtain ⟨h1, h2, h3⟩ := hs
  have v1 := mvalid_spec s.bars (by omega)
  have v2 := areParts_spec s.parts (by omega)
  have v3 := nvalid_spec s.bars s.notes (by omega) (by omega)
  have v4 := wrong_spec s.parts s.notes (by omega) (by omega)
  have v5 := Sort_spec s.bars s.notes h1 h3
  have hq := sortR_len s.bars s.notes
  have v6 := equalN_spec (sortR s.bars s.notes).1 s.notes (by omega) (by omega)
  refine PCall.body Tryd.func39 rfl rfl Tryd.ntmps39 rfl rfl ?_
  repeat' (first | refine AOps.q rfl rfl rfl (fun hg => by first | exact std0 | exact PRun.callW (sisID_spec _) rfl rfl nd rfl nds | exact PRun.callW (v1) rfl rfl nd rfl nds | exact PRun.callW (v2) rfl rfl nd rfl nds | exact PRun.callW (v3) rfl rfl nd rfl nds | exact PRun.callW (v4) rfl rfl nd rfl nds | exact PRun.callW (v5) rfl rfl nd rfl nds | exact PRun.callW (v6) rfl rfl nd rfl nds | exact std1) (by exact rfl) ?_ | refine AWP.seq ?_ | refine AWP.regionK (fun K' hK => ?_) | (refine AOps.nil (hK _ _ ?_); clear hK K') | refine AOps.e (EStep.boxW rfl rfl rfl rfl rfl True.intro rfl rfl ?_) | refine AOps.e (EStep.storeW tabOk rfl rfl rfl True.intro rfl rfl True.intro rfl rfl rfl rfl rfl rfl rfl ?_) | refine AOps.e (EStep.allocW tabOk rfl rfl rfl rfl rfl rfl ?_) | (refine AWP.condW rfl True.intro (fun hc => ?_) (fun hc => ?_) <;> (first | (simp only [decide_eq_true_eq] at hc) | (simp only [decide_eq_false_iff_not, Int.not_lt, Int.not_le] at hc) | skip)) | refine AWP.block ?_ | refine AWP.exit ?_ | refine AWP.skip ?_ | refine AWP.ret ?_ | refine AWP.drawK2 (by decide +kernel) (by kernel_rfl) (by decide +kernel) rfl (fun K' hK => ?_) | refine AWP.drawL2 (by kernel_rfl) (by decide +kernel) rfl (fun K' hK => ?_) | (refine AQ.nil (hK _ ?_); clear hK K') | refine AQ.nil ?_ | refine AQ.q rfl rfl (fun hg => by first | exact std0 | exact PRun.callW (sisID_spec _) rfl rfl nd rfl nds | exact PRun.callW (v1) rfl rfl nd rfl nds | exact PRun.callW (v2) rfl rfl nd rfl nds | exact PRun.callW (v3) rfl rfl nd rfl nds | exact PRun.callW (v4) rfl rfl nd rfl nds | exact PRun.callW (v5) rfl rfl nd rfl nds | exact PRun.callW (v6) rfl rfl nd rfl nds | exact std1) (by exact rfl) ?_)
  · refine ⟨.inr rfl, Ent.b (Eq.symm ?_)⟩
    unfold scoreOk
    rw [show scoreBad s = true from hc]; rfl
  · refine ⟨.inr rfl, Ent.b (Eq.symm ?_)⟩
    unfold scoreOk
    rw [show scoreBad s = false from hc]; rfl
end Go.Proofs.YtnmdmmfdnnmdfaaDoor
