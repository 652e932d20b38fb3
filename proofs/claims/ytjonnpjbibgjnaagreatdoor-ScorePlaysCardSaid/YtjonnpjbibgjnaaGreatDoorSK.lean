/- The law ScoreMatchesReference by content. -/
import Derived.Test.YtjonnpjbibgjnaaGreatDoorSJ
set_option linter.unusedVariables false
set_option linter.unusedSimpArgs false
namespace Go.Proofs.YtjonnpjbibgjnaaGreatDoor
open Go.Ab
attribute [local irreducible] AWP AOps EStep AQ PStep PRun PCall TCall VCall

theorem withR_small (s : Score) (hs : s.Small) (v : Int) (l : List Note) (hl : l.length ≤ 1000000000) : (withR s v l).1.Small := by
  obtain ⟨h1, h2, h3⟩ := hs
  unfold withR
  split
  · exact ⟨Nat.zero_le _, Nat.zero_le _, Nat.zero_le _⟩
  · split
    · exact ⟨Nat.zero_le _, Nat.zero_le _, Nat.zero_le _⟩
    · have := sortR_len s.bars l
      exact ⟨h1, h2, by show (sortR s.bars l).1.length ≤ _; omega⟩
theorem playsR_len (s : Score) (id : Int) : (playsR s id).1.length ≤ s.notes.length := by
  unfold playsR
  split
  · split
    · exact played_len _ _
    · simp
  · simp
set_option maxHeartbeats 8000000 in
set_option maxRecDepth 20000 in
theorem matches_law (s : Score) (hz : s.Sized) (id v : Int) (l : List Note) (hl : l.length ≤ 9223372036854775807) : PCall Tryz.prog 7 [.agg (encS s), .int id, .int v, .sl 12 (l.map encN) .no] (.b true) := by
  have hh := head_spec
  have hf := few8_spec s hz
  by_cases hfew : (!s.few || decide ((l.length : Int) > 60)) = true
  · refine PCall.body Tryz.func7 rfl rfl Tryz.ntmps7 rfl rfl ?_
    repeat' (first
      | refine AOps.q rfl rfl rfl (fun hg => by first | exact std0 | exact PRun.callW (hh) rfl rfl nd rfl nds | exact PRun.callW (hf) rfl rfl nd rfl nds | exact std1) (by exact rfl) ?_
      | refine AWP.seq ?_
      | refine AWP.regionK (fun K' hK => ?_)
      | (refine AOps.nil (hK _ _ ?_); clear hK K')
      | refine AOps.e (EStep.boxW rfl rfl rfl rfl rfl True.intro rfl rfl ?_)
      | refine AOps.e (EStep.storeW tabOk rfl rfl rfl True.intro rfl rfl True.intro rfl rfl rfl rfl rfl rfl rfl ?_)
      | refine AOps.e (EStep.allocW tabOk rfl rfl rfl rfl rfl rfl ?_)
      | (refine AWP.condW rfl True.intro (fun hc => ?_) (fun hc => ?_) <;> (first | (simp only [decide_eq_true_eq] at hc) | (simp only [decide_eq_false_iff_not, Int.not_lt, Int.not_le] at hc) | skip))
      | refine AWP.block ?_
      | refine AWP.exit ?_
      | refine AWP.skip ?_
      | refine AWP.ret ?_
      | (refine AQ.nil (hK _ ?_); clear hK K')
      | refine AQ.nil ?_
      | refine AQ.q rfl rfl (fun hg => by first | exact std0 | exact PRun.callW (hh) rfl rfl nd rfl nds | exact PRun.callW (hf) rfl rfl nd rfl nds | exact std1) (by exact rfl) ?_)
    · exact ⟨.inr rfl, Ent.b rfl⟩
    all_goals (exfalso; rw [hfew] at hc; cases hc)
  · have hfew2 : (!s.few || decide ((l.length : Int) > 60)) = false := by simpa using hfew
    have hb : s.few = true ∧ l.length ≤ 60 := by
      simp only [Bool.or_eq_false_iff, Bool.not_eq_false', decide_eq_false_iff_not] at hfew2
      exact ⟨hfew2.1, by omega⟩
    have hs := Score.few_small hb.1
    have hll : l.length ≤ 1000000000 := by omega
    have c1 := svalid_spec s hs
    have c2 := valid8_spec s hs
    have c3 := sBar_spec s hs id
    have c4 := bar8_spec s hs id
    have c5 := sPart_spec s hs id
    have c6 := part8_spec s hs id
    have c7 := sNote_spec s hs id
    have c8 := note8_spec s hs id
    have c9 := plays_spec s hs id
    have d1 := plays8_spec s hs id
    have hpl := playsR_len s id
    have d2 := sameN_spec (playsR s id).1 (playsR s id).1 (by have := hs.2.2; omega) (by have := hs.2.2; omega)
    have d3 := with_spec s hs v l hll
    have d4 := with8_spec s hs v l hll
    have hsm := withR_small s hs v l hll
    have d5 := same8_spec (withR s v l).1 (withR s v l).1 hsm hsm
    rw [beq_self_eq_true] at d2 d5
    generalize hP : playsR s id = pr at *
    generalize hW : withR s v l = wr at *
    generalize hBr : barR s id = br at *
    generalize hPr : partR s id = qr at *
    generalize hNr : noteR s id = nr at *
    clear hP hW hBr hPr hNr hpl hsm
    refine PCall.body Tryz.func7 rfl rfl Tryz.ntmps7 rfl rfl ?_
    repeat' (first
      | refine AOps.q rfl rfl rfl (fun hg => by first | exact std0 | exact PRun.callW (hh) rfl rfl nd rfl nds | exact PRun.callW (hf) rfl rfl nd rfl nds | exact PRun.callW (c1) rfl rfl nd rfl nds | exact PRun.callW (c2) rfl rfl nd rfl nds | exact PRun.callW (c3) rfl rfl nd rfl nds | exact PRun.callW (c4) rfl rfl nd rfl nds | exact PRun.callW (c5) rfl rfl nd rfl nds | exact PRun.callW (c6) rfl rfl nd rfl nds | exact PRun.callW (c7) rfl rfl nd rfl nds | exact PRun.callW (c8) rfl rfl nd rfl nds | exact PRun.callW (c9) rfl rfl nd rfl nds | exact PRun.callW (d1) rfl rfl nd rfl nds | exact PRun.callW (d2) rfl rfl nd rfl nds | exact PRun.callW (d3) rfl rfl nd rfl nds | exact PRun.callW (d4) rfl rfl nd rfl nds | exact PRun.callW (d5) rfl rfl nd rfl nds | exact std1) (by exact rfl) ?_
      | refine AWP.seq ?_
      | refine AWP.regionK (fun K' hK => ?_)
      | (refine AOps.nil (hK _ _ ?_); clear hK K')
      | refine AOps.e (EStep.boxW rfl rfl rfl rfl rfl True.intro rfl rfl ?_)
      | refine AOps.e (EStep.storeW tabOk rfl rfl rfl True.intro rfl rfl True.intro rfl rfl rfl rfl rfl rfl rfl ?_)
      | refine AOps.e (EStep.allocW tabOk rfl rfl rfl rfl rfl rfl ?_)
      | (refine AWP.condW rfl True.intro (fun hc => ?_) (fun hc => ?_) <;> (first | (simp only [decide_eq_true_eq] at hc) | (simp only [decide_eq_false_iff_not, Int.not_lt, Int.not_le] at hc) | skip))
      | refine AWP.block ?_
      | refine AWP.exit ?_
      | refine AWP.skip ?_
      | refine AWP.ret ?_
      | refine AWP.drawK2 (by decide +kernel) (by kernel_rfl) (by decide +kernel) rfl (fun K' hK => ?_)
      | refine AWP.drawL2 (by kernel_rfl) (by decide +kernel) rfl (fun K' hK => ?_)
      | (refine AQ.nil (hK _ ?_); clear hK K')
      | refine AQ.nil ?_
      | refine AQ.q rfl rfl (fun hg => by first | exact std0 | exact PRun.callW (hh) rfl rfl nd rfl nds | exact PRun.callW (hf) rfl rfl nd rfl nds | exact PRun.callW (c1) rfl rfl nd rfl nds | exact PRun.callW (c2) rfl rfl nd rfl nds | exact PRun.callW (c3) rfl rfl nd rfl nds | exact PRun.callW (c4) rfl rfl nd rfl nds | exact PRun.callW (c5) rfl rfl nd rfl nds | exact PRun.callW (c6) rfl rfl nd rfl nds | exact PRun.callW (c7) rfl rfl nd rfl nds | exact PRun.callW (c8) rfl rfl nd rfl nds | exact PRun.callW (c9) rfl rfl nd rfl nds | exact PRun.callW (d1) rfl rfl nd rfl nds | exact PRun.callW (d2) rfl rfl nd rfl nds | exact PRun.callW (d3) rfl rfl nd rfl nds | exact PRun.callW (d4) rfl rfl nd rfl nds | exact PRun.callW (d5) rfl rfl nd rfl nds | exact std1) (by exact rfl) ?_)
    · exfalso; rw [hfew2] at hc; cases hc
    exact ⟨.inr rfl, Ent.b (by simp)⟩
end Go.Proofs.YtjonnpjbibgjnaaGreatDoor
