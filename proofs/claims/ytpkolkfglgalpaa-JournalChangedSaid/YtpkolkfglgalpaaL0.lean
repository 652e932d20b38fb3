/- JournalBack by content: for every two events and integers the function returns true. The row is joined in another text. -/
import Derived.Test.YtpkolkfglgalpaaK9
set_option linter.unusedVariables false
set_option linter.unusedSimpArgs false
namespace Go.Proofs.Ytpkolkfglgalpaa
open Go.Ab Go.Jo
attribute [local irreducible] AWP AOps EStep AQ PStep PRun PCall TCall VCall DStep TDies AWD DCall

theorem eventR_cases (l : List Int) : (∃ e, eventR l = (e, 0) ∧ evOk e = true ∧ ints e = l) ∨ eventR l = (noEv, 7) := by
  unfold eventR
  cases h : event l with
  | none => exact .inr rfl
  | some e => exact .inl ⟨e, rfl, event_inv h⟩
theorem intsR_ok {e : Ev} (h : evOk e = true) : intsR e = (ints e, 0) := by unfold intsR; rw [h]; rfl
theorem intsR_bad {e : Ev} (h : evOk e = false) : intsR e = ([], 1) := by unfold intsR; rw [h]; rfl
theorem short_ok {e : Ev} (h : evOk e = true) : e.mark.text.length ≤ 200 := by
  by_cases hk : e.kind = 1
  · unfold evOk at h
    rw [if_pos hk] at h
    simp only [Bool.and_eq_true, markOk] at h
    exact (textOk_iff.1 h.2.1.1.1.1.1.1.1.1).1
  · have hm : e.mark = noMark := by
      simp only [evOk, hk, if_false, Bool.and_eq_true] at h
      obtain ⟨_, h⟩ := h
      split at h
      · simp at h; exact h.2
      · split at h
        · simp at h; exact h.2
        · simp at h
    rw [hm]; exact Nat.zero_le _
theorem ints_beq {a b : Ev} (ha : evOk a = true) (hb : evOk b = true) : (ints a == ints b) = (a == b) := by
  cases h : a == b with
  | true => rw [eq_of_beq h]; simp
  | false =>
    cases h2 : ints a == ints b with
    | false => rfl
    | true => rw [ints_inj ha hb (eq_of_beq h2)] at h; simp at h
set_option maxHeartbeats 1600000 in
set_option maxRecDepth 20000 in
theorem back_law (a b : Ev) (l : List Int) : PCall Try.prog 4 [.agg (encE a), .agg (encE b), .sl 1 (l.map encN) .no] (.b true) := by
  have hh := head_spec
  have hsa := short_spec a
  have hsb := short_spec b
  by_cases hin : a.mark.text.length ≤ 300 ∧ b.mark.text.length ≤ 300 ∧ l.length ≤ 300
  · obtain ⟨h1, h2, h3⟩ := hin
    rw [show decide (a.mark.text.length ≤ 300) = true from decide_eq_true h1] at hsa
    rw [show decide (b.mark.text.length ≤ 300) = true from decide_eq_true h2] at hsb
    have hE : (eventR l).1.mark.text.length ≤ 300 := by
      rcases eventR_cases l with ⟨e, he, hok, _⟩ | he
      · rw [he]; have := short_ok hok; dsimp only; omega
      · rw [he]; exact Nat.zero_le _
    have p1 := event_spec l (by omega)
    have p2 := pints_spec a h1
    have p3 := pints_spec b h2
    have p4 := event_spec (intsR a).1 (by have := intsR_length a; omega)
    have p5 := sameInts_spec (intsR a).1 (intsR b).1 (by have := intsR_length a; omega) (by have := intsR_length b; omega)
    have q1 := pints_spec (eventR l).1 hE
    have q2 := sameInts_spec l (intsR (eventR l).1).1 (by omega) (by have := intsR_length (eventR l).1; omega)
    have fin1 : (eventR l).2 = 0 → ((intsR (eventR l).1).2 == 0) = true ∧ (l == (intsR (eventR l).1).1) = true := fun h => by
      rcases eventR_cases l with ⟨e, he, hok, hi⟩ | he
      · rw [he]; dsimp only; rw [intsR_ok hok, hi]; simp
      · rw [he] at h; simp at h
    have fin2 : (((intsR a).2 == 0) || (((intsR a).1.length : Int) == 0)) = true := by
      cases ha : evOk a with
      | true => rw [intsR_ok ha]; rfl
      | false => rw [intsR_bad ha]; rfl
    have fin3 : (((intsR b).2 == 0) || (((intsR b).1.length : Int) == 0)) = true := by
      cases ha : evOk b with
      | true => rw [intsR_ok ha]; rfl
      | false => rw [intsR_bad ha]; rfl
    have fin4 : (intsR a).2 = 0 → (intsR b).2 = 0 → ((eventR (intsR a).1).2 == 0) = true ∧ eqE (eventR (intsR a).1).1 a = true ∧ (((intsR a).1 == (intsR b).1) == eqE a b) = true := fun ha hb => by
      have ha' : evOk a = true := by
        cases h : evOk a with
        | true => rfl
        | false => rw [intsR_bad h] at ha; simp at ha
      have hb' : evOk b = true := by
        cases h : evOk b with
        | true => rfl
        | false => rw [intsR_bad h] at hb; simp at hb
      rw [intsR_ok ha', intsR_ok hb', eventR_some (event_ints ha')]
      refine ⟨rfl, ?_, ?_⟩
      · rw [eqE_eq]; simp
      · rw [eqE_eq, ints_beq ha' hb']; simp
    generalize intsR (eventR l).1 = IE at *
    generalize eventR (intsR a).1 = E4 at *
    generalize eventR l = E at *
    generalize intsR a = Ia at *
    generalize intsR b = Ib at *
    refine PCall.body Try.func4 rfl rfl Try.ntmps4 rfl rfl ?_
    repeat' (first
      | refine AOps.q rfl rfl rfl (fun hg => by first | exact std0 | exact PRun.callW (hh) rfl rfl nd rfl nds | exact PRun.callW (hsa) rfl rfl nd rfl nds | exact PRun.callW (hsb) rfl rfl nd rfl nds | exact PRun.callW (p1) rfl rfl nd rfl nds | exact PRun.callW (p2) rfl rfl nd rfl nds | exact PRun.callW (p3) rfl rfl nd rfl nds | exact PRun.callW (p4) rfl rfl nd rfl nds | exact PRun.callW (p5) rfl rfl nd rfl nds | exact PRun.callW (q1) rfl rfl nd rfl nds | exact PRun.callW (q2) rfl rfl nd rfl nds | exact PRun.eqN flE rfl rfl nd rfl nd rfl | exact std1) (by exact rfl) ?_
      | refine AWP.seq ?_
      | refine AWP.regionK (fun K' hK => ?_)
      | (refine AOps.nil (hK _ _ ?_); clear hK K')
      | refine AOps.e (EStep.boxW rfl rfl rfl rfl rfl True.intro rfl rfl ?_)
      | refine AOps.e (EStep.storeW tabOk rfl rfl rfl True.intro rfl rfl True.intro rfl rfl rfl rfl rfl rfl rfl ?_)
      | refine AOps.e (EStep.allocW tabOk rfl rfl rfl rfl rfl rfl ?_)
      | (refine AWP.condW rfl True.intro (fun hc => ?_) (fun hc => ?_) <;> (first | (simp only [decide_eq_true_eq] at hc) | (simp only [decide_eq_false_iff_not, Int.not_lt, Int.not_le] at hc) | skip))
      | refine AWP.block ?_
      | refine AWP.exit ?_
      | refine AWP.skip ?_
      | refine AWP.ret ?_
      | refine AWP.drawK2 (by decide +kernel) (by kernel_rfl) (by decide +kernel) rfl (fun K' hK => ?_)
      | refine AWP.drawL2 (by kernel_rfl) (by decide +kernel) rfl (fun K' hK => ?_)
      | (refine AQ.nil (hK _ ?_); clear hK K')
      | refine AQ.nil ?_
      | refine AQ.q rfl rfl (fun hg => by first | exact std0 | exact PRun.callW (hh) rfl rfl nd rfl nds | exact PRun.callW (hsa) rfl rfl nd rfl nds | exact PRun.callW (hsb) rfl rfl nd rfl nds | exact PRun.callW (p1) rfl rfl nd rfl nds | exact PRun.callW (p2) rfl rfl nd rfl nds | exact PRun.callW (p3) rfl rfl nd rfl nds | exact PRun.callW (p4) rfl rfl nd rfl nds | exact PRun.callW (p5) rfl rfl nd rfl nds | exact PRun.callW (q1) rfl rfl nd rfl nds | exact PRun.callW (q2) rfl rfl nd rfl nds | exact PRun.eqN flE rfl rfl nd rfl nd rfl | exact std1) (by exact rfl) ?_)
    · exfalso; simp at hc; omega
    · rename_i hE0
      obtain ⟨f1, f2⟩ := fin1 (eq_of_beq hE0)
      refine ⟨.inr rfl, Ent.b ?_⟩
      refine Eq.trans (b := ((((true && (IE.snd == 0)) && (l == IE.fst)) && ((Ia.snd == 0) || ((Ia.fst.length : Int) == 0))) && ((Ib.snd == 0) || ((Ib.fst.length : Int) == 0)))) rfl ?_
      rw [f1, f2, fin2, fin3]; rfl
    · rename_i hE0
      obtain ⟨f1, f2⟩ := fin1 (eq_of_beq hE0)
      simp at hc
      obtain ⟨f3, f4, f5⟩ := fin4 hc.1 hc.2
      refine ⟨.inr rfl, Ent.b ?_⟩
      refine Eq.trans (b := (((((true && (IE.snd == 0)) && (l == IE.fst)) && (E4.snd == 0)) && eqE E4.fst a) && ((Ia.fst == Ib.fst) == eqE a b))) rfl ?_
      rw [f1, f2, f3, f4, f5]; rfl
    · refine ⟨.inr rfl, Ent.b ?_⟩
      refine Eq.trans (b := ((true && ((Ia.snd == 0) || ((Ia.fst.length : Int) == 0))) && ((Ib.snd == 0) || ((Ib.fst.length : Int) == 0)))) rfl ?_
      rw [fin2, fin3]; rfl
    · simp at hc
      obtain ⟨f3, f4, f5⟩ := fin4 hc.1 hc.2
      refine ⟨.inr rfl, Ent.b ?_⟩
      refine Eq.trans (b := (((true && (E4.snd == 0)) && eqE E4.fst a) && ((Ia.fst == Ib.fst) == eqE a b))) rfl ?_
      rw [f3, f4, f5]; rfl
  · refine PCall.body Try.func4 rfl rfl Try.ntmps4 rfl rfl ?_
    repeat' (first
      | refine AOps.q rfl rfl rfl (fun hg => by first | exact std0 | exact PRun.callW (hh) rfl rfl nd rfl nds | exact PRun.callW (hsa) rfl rfl nd rfl nds | exact PRun.callW (hsb) rfl rfl nd rfl nds | exact std1) (by exact rfl) ?_
      | refine AWP.seq ?_
      | refine AWP.regionK (fun K' hK => ?_)
      | (refine AOps.nil (hK _ _ ?_); clear hK K')
      | refine AOps.e (EStep.boxW rfl rfl rfl rfl rfl True.intro rfl rfl ?_)
      | refine AOps.e (EStep.storeW tabOk rfl rfl rfl True.intro rfl rfl True.intro rfl rfl rfl rfl rfl rfl rfl ?_)
      | refine AOps.e (EStep.allocW tabOk rfl rfl rfl rfl rfl rfl ?_)
      | (refine AWP.condW rfl True.intro (fun hc => ?_) (fun hc => ?_) <;> (first | (simp only [decide_eq_true_eq] at hc) | (simp only [decide_eq_false_iff_not, Int.not_lt, Int.not_le] at hc) | skip))
      | refine AWP.block ?_
      | refine AWP.exit ?_
      | refine AWP.skip ?_
      | refine AWP.ret ?_
      | refine AWP.drawK2 (by decide +kernel) (by kernel_rfl) (by decide +kernel) rfl (fun K' hK => ?_)
      | refine AWP.drawL2 (by kernel_rfl) (by decide +kernel) rfl (fun K' hK => ?_)
      | (refine AQ.nil (hK _ ?_); clear hK K')
      | refine AQ.nil ?_
      | refine AQ.q rfl rfl (fun hg => by first | exact std0 | exact PRun.callW (hh) rfl rfl nd rfl nds | exact PRun.callW (hsa) rfl rfl nd rfl nds | exact PRun.callW (hsb) rfl rfl nd rfl nds | exact std1) (by exact rfl) ?_)
    · exact ⟨.inr rfl, Ent.b rfl⟩
    · exfalso; simp at hc; omega
end Go.Proofs.Ytpkolkfglgalpaa
