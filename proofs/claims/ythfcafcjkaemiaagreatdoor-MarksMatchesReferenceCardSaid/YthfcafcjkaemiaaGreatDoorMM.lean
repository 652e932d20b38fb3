/- The law MarksMatchesReference by content. -/
import Derived.Test.YthfcafcjkaemiaaGreatDoorML
set_option linter.unusedVariables false
set_option linter.unusedSimpArgs false
namespace Go.Proofs.YthfcafcjkaemiaaGreatDoor.Mk
open Go.Ab Go.Jo
attribute [local irreducible] AWP AOps EStep AQ PStep PRun PCall TCall VCall DStep TDies AWD DCall

theorem shownR_len (s : Score) (l : List Jo.Mark) (r : Rdr) : (shownR s l r).1.length ≤ 5 * s.notes.length := by
  unfold shownR
  split
  · split
    · split
      · exact Nat.zero_le _
      · refine Nat.le_trans (shownL_len _ _) ?_
        have := played_len s.notes (s.parts.getD (partI s r.part).toNat default)
        omega
    · exact Nat.zero_le _
  · exact Nat.zero_le _
theorem few_notes {s : Score} (h : s.few = true) : s.notes.length ≤ 60 := by
  unfold Score.few at h; simp only [Bool.and_eq_true, decide_eq_true_eq] at h; omega
set_option maxHeartbeats 8000000 in
set_option maxRecDepth 20000 in
theorem mmatches_law (s : Score) (hz : s.Sized) (l : List Jo.Mark) (hl : l.length ≤ 9223372036854775807) (hlt : TextsIn l) (a : Jo.Mark) (ha : a.text.length ≤ 9223372036854775807) (b : Jo.Mark) (hb : b.text.length ≤ 9223372036854775807) (p : Part) (r : Rdr) :
    PCall Tryz.prog 5 [.agg (encS s), .sl 10 (l.map encMk) .no, .agg (encMk a), .agg (encMk b), .agg (encP p), .agg (encRd r)] (.b true) := by
  have hh := mhead_spec
  have hf := few8_spec s hz
  have hf2 := few19_spec l hl
  by_cases hfew : (!s.few || !decide ((l.length : Int) ≤ 40)) = true
  · refine PCall.body Tryz.func5 rfl rfl Tryz.ntmps5 rfl rfl ?_
    repeat' (first
      | refine AOps.q rfl rfl rfl (fun hg => by first | exact std0 | exact PRun.callW (hh) rfl rfl nd rfl nds | exact PRun.callW (hf) rfl rfl nd rfl nds | exact PRun.callW (hf2) rfl rfl nd rfl nds | exact std1) (by exact rfl) ?_
      | refine AWP.seq ?_
      | refine AWP.regionK (fun K' hK => ?_)
      | (refine AOps.nil (hK _ _ ?_); clear hK K')
      | refine AOps.e (EStep.boxW rfl rfl rfl rfl rfl True.intro rfl rfl ?_)
      | refine AOps.e (EStep.storeW tabOk rfl rfl rfl True.intro rfl rfl True.intro rfl rfl rfl rfl rfl rfl rfl ?_)
      | refine AOps.e (EStep.allocW tabOk rfl rfl rfl rfl rfl rfl ?_)
      | (refine AWP.condW rfl True.intro (fun hc => ?_) (fun hc => ?_) <;> (first | (simp only [decide_eq_true_eq] at hc) | (simp only [decide_eq_false_iff_not, Int.not_lt, Int.not_le] at hc) | skip))
      | refine AWP.block ?_
      | refine AWP.exit ?_
      | refine AWP.skip ?_
      | refine AWP.ret ?_
      | (refine AQ.nil (hK _ ?_); clear hK K')
      | refine AQ.nil ?_
      | refine AQ.q rfl rfl (fun hg => by first | exact std0 | exact PRun.callW (hh) rfl rfl nd rfl nds | exact PRun.callW (hf) rfl rfl nd rfl nds | exact PRun.callW (hf2) rfl rfl nd rfl nds | exact std1) (by exact rfl) ?_)
    · exact ⟨.inr rfl, Ent.b rfl⟩
    all_goals (exfalso; rw [hfew] at hc; cases hc)
  · have hfew2 : (!s.few || !decide ((l.length : Int) ≤ 40)) = false := by simpa using hfew
    have hfs : s.few = true ∧ l.length ≤ 40 := by
      simp only [Bool.or_eq_false_iff, Bool.not_eq_false', decide_eq_true_eq] at hfew2
      exact ⟨hfew2.1, by omega⟩
    have hs := Score.few_small hfs.1
    have hn := few_notes hfs.1
    have c1 := meant_spec a p r ha
    have c2 := meant19_spec a p r ha
    have c3 := mvalid_spec a ha
    have c4 := valid19_spec a ha
    have c5 := before_spec a b ha hb
    have c6 := before19_spec a b ha hb
    have c7 := shown_spec s hs (by omega) l (by omega) hlt r
    have c8 := shown19_spec s hs (by omega) l (by omega) hlt r
    have hlen := shownR_len s l r
    have c9 := same19_spec (shownR s l r).1 (shownR s l r).1 (by omega) (by omega)
    rw [beq_self_eq_true] at c9
    generalize meantR a p r = x1 at *
    generalize markOk a = x2 at *
    generalize beforeR a b = x3 at *
    generalize shownR s l r = x4 at *
    clear hlen
    refine PCall.body Tryz.func5 rfl rfl Tryz.ntmps5 rfl rfl ?_
    repeat' (first
      | refine AOps.q rfl rfl rfl (fun hg => by first | exact std0 | exact PRun.callW (hh) rfl rfl nd rfl nds | exact PRun.callW (hf) rfl rfl nd rfl nds | exact PRun.callW (hf2) rfl rfl nd rfl nds | exact PRun.callW (c1) rfl rfl nd rfl nds | exact PRun.callW (c2) rfl rfl nd rfl nds | exact PRun.callW (c3) rfl rfl nd rfl nds | exact PRun.callW (c4) rfl rfl nd rfl nds | exact PRun.callW (c5) rfl rfl nd rfl nds | exact PRun.callW (c6) rfl rfl nd rfl nds | exact PRun.callW (c7) rfl rfl nd rfl nds | exact PRun.callW (c8) rfl rfl nd rfl nds | exact PRun.callW (c9) rfl rfl nd rfl nds | exact std1) (by exact rfl) ?_
      | refine AWP.seq ?_
      | refine AWP.regionK (fun K' hK => ?_)
      | (refine AOps.nil (hK _ _ ?_); clear hK K')
      | refine AOps.e (EStep.boxW rfl rfl rfl rfl rfl True.intro rfl rfl ?_)
      | refine AOps.e (EStep.storeW tabOk rfl rfl rfl True.intro rfl rfl True.intro rfl rfl rfl rfl rfl rfl rfl ?_)
      | refine AOps.e (EStep.allocW tabOk rfl rfl rfl rfl rfl rfl ?_)
      | (refine AWP.condW rfl True.intro (fun hc => ?_) (fun hc => ?_) <;> (first | (simp only [decide_eq_true_eq] at hc) | (simp only [decide_eq_false_iff_not, Int.not_lt, Int.not_le] at hc) | skip))
      | refine AWP.block ?_
      | refine AWP.exit ?_
      | refine AWP.skip ?_
      | refine AWP.ret ?_
      | refine AWP.drawK2 (by decide +kernel) (by kernel_rfl) (by decide +kernel) rfl (fun K' hK => ?_)
      | refine AWP.drawL2 (by kernel_rfl) (by decide +kernel) rfl (fun K' hK => ?_)
      | (refine AQ.nil (hK _ ?_); clear hK K')
      | refine AQ.nil ?_
      | refine AQ.q rfl rfl (fun hg => by first | exact std0 | exact PRun.callW (hh) rfl rfl nd rfl nds | exact PRun.callW (hf) rfl rfl nd rfl nds | exact PRun.callW (hf2) rfl rfl nd rfl nds | exact PRun.callW (c1) rfl rfl nd rfl nds | exact PRun.callW (c2) rfl rfl nd rfl nds | exact PRun.callW (c3) rfl rfl nd rfl nds | exact PRun.callW (c4) rfl rfl nd rfl nds | exact PRun.callW (c5) rfl rfl nd rfl nds | exact PRun.callW (c6) rfl rfl nd rfl nds | exact PRun.callW (c7) rfl rfl nd rfl nds | exact PRun.callW (c8) rfl rfl nd rfl nds | exact PRun.callW (c9) rfl rfl nd rfl nds | exact std1) (by exact rfl) ?_)
    · exfalso; rw [hfew2] at hc; cases hc
    exact ⟨.inr rfl, Ent.b (by simp)⟩
end Go.Proofs.YthfcafcjkaemiaaGreatDoor.Mk
