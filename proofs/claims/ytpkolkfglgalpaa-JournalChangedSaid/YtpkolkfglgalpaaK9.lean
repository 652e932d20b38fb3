/- JournalMatchesReference by content: for every event, integers and bytes the function returns true. The row is joined in another text. -/
import Derived.Test.YtpkolkfglgalpaaK8
set_option linter.unusedVariables false
set_option linter.unusedSimpArgs false
namespace Go.Proofs.Ytpkolkfglgalpaa
open Go.Ab Go.Jo
attribute [local irreducible] AWP AOps EStep AQ PStep PRun PCall TCall VCall DStep TDies AWD DCall

theorem cat_len : ∀ l : List Ev, l.length ≤ (cat l).length
  | [] => Nat.zero_le _
  | e :: l => by
    have := cat_len l
    have := fr_pos e
    have e1 : cat (e :: l) = fr e ++ cat l := by simp [cat]
    rw [e1, List.length_append, List.length_cons]; omega
theorem load_length (b : Bs) : (Jo.load b).1.length ≤ b.length := by
  obtain ⟨_, _, h3, h4⟩ := load_inv b b.length (Nat.le_refl _)
  have := cat_len (Jo.load b).1
  omega
theorem loadR_length (b : Bs) : (loadR b).1.length ≤ b.length := by
  unfold loadR
  split
  · exact Nat.zero_le _
  · exact load_length b
theorem intsR_length (e : Ev) : (intsR e).1.length ≤ 212 := by
  unfold intsR
  cases h : evOk e with
  | true => exact (ints_len h).2
  | false => exact Nat.zero_le _
set_option maxHeartbeats 1600000 in
set_option maxRecDepth 20000 in
theorem matches_law (e : Ev) (l : List Int) (b : Bs) (hb : b.length ≤ 4611686018427387904) : PCall Try.prog 3 [.agg (encE e), .sl 1 (l.map encN) .no, .sl 1 (b.map by8) .no] (.b true) := by
  have hh := head_spec
  have hs := short_spec e
  by_cases hin : e.mark.text.length ≤ 300 ∧ l.length ≤ 300 ∧ (b.length ≤ 2000 ∨ 200000 < b.length)
  · obtain ⟨h1, h2, h3⟩ := hin
    rw [show decide (e.mark.text.length ≤ 300) = true from decide_eq_true h1] at hs
    have a1 := pints_spec e h1
    have a2 := intsR23_spec e h1
    have a3 := sameInts_spec (intsR e).1 (intsR e).1 (by have := intsR_length e; omega) (by have := intsR_length e; omega)
    have b1 := event_spec l (by omega)
    have b2 := event23_spec l (by omega)
    have c1 := append_spec b e hb h1
    have c2 := append23_spec b e hb h1
    have d1 := load_spec b hb
    have d2 := load23_spec b hb
    have d3 := sameEv_spec (loadR b).1 (loadR b).1 (by have := loadR_length b; omega) (by have := loadR_length b; omega)
    generalize intsR e = I at *
    generalize eventR l = E at *
    generalize appendR b e = A at *
    generalize loadR b = L at *
    refine PCall.body Try.func3 rfl rfl Try.ntmps3 rfl rfl ?_
    repeat' (first
      | refine AOps.q rfl rfl rfl (fun hg => by first | exact std0 | exact PRun.callW (hh) rfl rfl nd rfl nds | exact PRun.callW (hs) rfl rfl nd rfl nds | exact PRun.callW (a1) rfl rfl nd rfl nds | exact PRun.callW (a2) rfl rfl nd rfl nds | exact PRun.callW (a3) rfl rfl nd rfl nds | exact PRun.callW (b1) rfl rfl nd rfl nds | exact PRun.callW (b2) rfl rfl nd rfl nds | exact PRun.callW (c1) rfl rfl nd rfl nds | exact PRun.callW (c2) rfl rfl nd rfl nds | exact PRun.callW (d1) rfl rfl nd rfl nds | exact PRun.callW (d2) rfl rfl nd rfl nds | exact PRun.callW (d3) rfl rfl nd rfl nds | exact PRun.eqN flE rfl rfl nd rfl nd rfl | exact PRun.bytesStr tabOk rfl rfl nd rfl rfl rfl | exact std1) (by exact rfl) ?_
      | refine AWP.seq ?_
      | refine AWP.regionK (fun K' hK => ?_)
      | (refine AOps.nil (hK _ _ ?_); clear hK K')
      | refine AOps.e (EStep.boxW rfl rfl rfl rfl rfl True.intro rfl rfl ?_)
      | refine AOps.e (EStep.storeW tabOk rfl rfl rfl True.intro rfl rfl True.intro rfl rfl rfl rfl rfl rfl rfl ?_)
      | refine AOps.e (EStep.allocW tabOk rfl rfl rfl rfl rfl rfl ?_)
      | (refine AWP.condW rfl True.intro (fun hc => ?_) (fun hc => ?_) <;> (first | (simp only [decide_eq_true_eq] at hc) | (simp only [decide_eq_false_iff_not, Int.not_lt, Int.not_le] at hc) | skip))
      | refine AWP.block ?_
      | refine AWP.exit ?_
      | refine AWP.skip ?_
      | refine AWP.ret ?_
      | refine AWP.drawK2 (by decide +kernel) (by kernel_rfl) (by decide +kernel) rfl (fun K' hK => ?_)
      | refine AWP.drawL2 (by kernel_rfl) (by decide +kernel) rfl (fun K' hK => ?_)
      | (refine AQ.nil (hK _ ?_); clear hK K')
      | refine AQ.nil ?_
      | refine AQ.q rfl rfl (fun hg => by first | exact std0 | exact PRun.callW (hh) rfl rfl nd rfl nds | exact PRun.callW (hs) rfl rfl nd rfl nds | exact PRun.callW (a1) rfl rfl nd rfl nds | exact PRun.callW (a2) rfl rfl nd rfl nds | exact PRun.callW (a3) rfl rfl nd rfl nds | exact PRun.callW (b1) rfl rfl nd rfl nds | exact PRun.callW (b2) rfl rfl nd rfl nds | exact PRun.callW (c1) rfl rfl nd rfl nds | exact PRun.callW (c2) rfl rfl nd rfl nds | exact PRun.callW (d1) rfl rfl nd rfl nds | exact PRun.callW (d2) rfl rfl nd rfl nds | exact PRun.callW (d3) rfl rfl nd rfl nds | exact PRun.eqN flE rfl rfl nd rfl nd rfl | exact PRun.bytesStr tabOk rfl rfl nd rfl rfl rfl | exact std1) (by exact rfl) ?_)
    · exfalso; simp at hc; omega
    · exact ⟨.inr rfl, Ent.b (by simp; exact (bytesBeq _ _).2 rfl)⟩
  · refine PCall.body Try.func3 rfl rfl Try.ntmps3 rfl rfl ?_
    repeat' (first
      | refine AOps.q rfl rfl rfl (fun hg => by first | exact std0 | exact PRun.callW (hh) rfl rfl nd rfl nds | exact PRun.callW (hs) rfl rfl nd rfl nds | exact std1) (by exact rfl) ?_
      | refine AWP.seq ?_
      | refine AWP.regionK (fun K' hK => ?_)
      | (refine AOps.nil (hK _ _ ?_); clear hK K')
      | refine AOps.e (EStep.boxW rfl rfl rfl rfl rfl True.intro rfl rfl ?_)
      | refine AOps.e (EStep.storeW tabOk rfl rfl rfl True.intro rfl rfl True.intro rfl rfl rfl rfl rfl rfl rfl ?_)
      | refine AOps.e (EStep.allocW tabOk rfl rfl rfl rfl rfl rfl ?_)
      | (refine AWP.condW rfl True.intro (fun hc => ?_) (fun hc => ?_) <;> (first | (simp only [decide_eq_true_eq] at hc) | (simp only [decide_eq_false_iff_not, Int.not_lt, Int.not_le] at hc) | skip))
      | refine AWP.block ?_
      | refine AWP.exit ?_
      | refine AWP.skip ?_
      | refine AWP.ret ?_
      | refine AWP.drawK2 (by decide +kernel) (by kernel_rfl) (by decide +kernel) rfl (fun K' hK => ?_)
      | refine AWP.drawL2 (by kernel_rfl) (by decide +kernel) rfl (fun K' hK => ?_)
      | (refine AQ.nil (hK _ ?_); clear hK K')
      | refine AQ.nil ?_
      | refine AQ.q rfl rfl (fun hg => by first | exact std0 | exact PRun.callW (hh) rfl rfl nd rfl nds | exact PRun.callW (hs) rfl rfl nd rfl nds | exact std1) (by exact rfl) ?_)
    · exact ⟨.inr rfl, Ent.b rfl⟩
    · exfalso; simp at hc; omega
end Go.Proofs.Ytpkolkfglgalpaa
