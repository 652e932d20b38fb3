/- The law CarryApart by content. No statement is proved here. -/
import Derived.Test.YtekfpcgagoidcaaGreatDoorV31
set_option linter.unusedVariables false
set_option linter.unusedSimpArgs false
namespace Go.Proofs.YtekfpcgagoidcaaGreatDoor.Cy
open Go.Ab Go.Sort Al Mk
attribute [local irreducible] AWP AOps EStep AQ PStep PRun PCall TCall VCall
theorem usab_at {l : List Score} {ms : List Jo.Mark} (h : usab21 l ms = true) {w : Int} (hw : 0 ≤ w) :
    (∀ s ∈ l, few12 s = true) ∧ l.length ≤ 4 ∧ 1 ≤ l.length ∧ versOk l = true ∧ (∀ s ∈ l, scoreOk s = true) ∧ marksOk ms = true ∧ ms.length ≤ 12 ∧ ∃ k : Nat, w.tmod (l.length : Nat) = (k : Int) ∧ k < l.length := by
  unfold usab21 at h
  simp only [zA2] at h
  obtain ⟨⟨h1, h2⟩, h3⟩ := h
  obtain ⟨f1, f2, f3⟩ := fewL_iff h1
  have hp : 1 ≤ l.length := by
    have h4 := h2
    unfold versOk at h4
    simp only [zA2, dEt] at h4
    omega
  refine ⟨f1, f2, hp, h2, vers_all h2, h3, f3, (w.tmod (l.length : Nat)).toNat, ?_, ?_⟩
  · have := Int.tmod_nonneg (a := w) ((l.length : Nat) : Int) hw; omega
  · have := Int.tmod_lt_of_pos w (b := ((l.length : Nat) : Int)) (by omega)
    have := Int.tmod_nonneg (a := w) ((l.length : Nat) : Int) hw; omega
theorem usab_spec0 (l : List Score) (hl : l.length ≤ 9223372036854775807) (hsz : ∀ s ∈ l, s.Sized) : PCall Tryz.prog 37 [.sl 4 (l.map encS) .no, .nils] (.b (usab21 l [])) :=
  PCall.argE2 (u := .nils) Ent.nil (usable21_spec l hl hsz [] (by decide) (fun m hm => by cases hm))
theorem apart_no {l : List Score} {v : Int} {to : Score} (hgd : ∀ s ∈ l, scoreOk s = true) (ht : scoreOk to = true) {m n : Jo.Mark} (e : m.version = n.version) (hne : m.note ≠ n.note) :
    (((carryM l v to m).isSome && (carryM l v to n).isSome) && (((carryM l v to m).getD Jo.noMark).note == ((carryM l v to n).getD Jo.noMark).note)) = false := by
  rw [carryM_eq, carryM_eq, ← e]
  cases h1 : toN l v to m.version m.note with
  | none => rfl
  | some a =>
    cases h2 : toN l v to m.version n.note with
    | none => rfl
    | some b =>
      have hab : a ≠ b := by
        rintro rfl
        exact hne (toN_inj hgd ht h1 h2)
      simpa using hab
set_option maxHeartbeats 16000000 in
set_option maxRecDepth 20000 in
theorem apart_law (l : List Score) (hl : l.length ≤ 9223372036854775807) (hsz : ∀ s ∈ l, s.Sized) (m : Jo.Mark) (hm : m.text.length ≤ 9223372036854775807) (n : Jo.Mark) (hn : n.text.length ≤ 9223372036854775807) (w : Int) (hw : 0 ≤ w ∧ w ≤ 255) :
    PCall Tryz.prog 14 [.sl 4 (l.map encS) .no, .agg (encMk m), .agg (encMk n), .prim (.int .u8 w)] (.b true) := by
  have hh := head21_spec
  have hu := usab_spec0 l hl hsz
  have v1 := valid19_spec m hm
  have v2 := valid19_spec n hn
  by_cases hbad : (((((!usab21 l []) || !Jo.markOk m) || !Jo.markOk n) || m.version != n.version) || m.note == n.note) = true
  · refine PCall.body Tryz.func14 rfl rfl Tryz.ntmps14 rfl rfl ?_
    repeat' (first | refine aoQ rfl rfl rfl (fun hg => by first | exact std0 | exact pcW (hh) rfl rfl nd rfl nds | exact pcW (hu) rfl rfl nd rfl nds | exact pcW (v1) rfl rfl nd rfl nds | exact pcW (v2) rfl rfl nd rfl nds | exact std1) (by exact rfl) ?_ | refine sqW ?_ | refine rgK (fun K' hK => ?_) | (refine aoN (hK _ _ ?_); clear hK K') | refine aoE (bxW rfl rfl rfl rfl rfl tI rfl rfl ?_) | (refine cdW rfl tI (fun hc => ?_) (fun hc => ?_) <;> (first | (simp only [dEt] at hc) | (simp only [dEf, zA0, zA1] at hc) | skip)) | refine skW ?_ | refine rtW ?_)
    · exact ⟨.inr rfl, Ent.b rfl⟩
    all_goals (exfalso; first | (rw [hbad] at hc; cases hc) | (rename_i h9; rw [hbad] at h9; cases h9) | (rename_i h9 _; rw [hbad] at h9; cases h9))
  · have hb := zD3 _ ▸ hbad
    simp only [zAh, zAr, bne_eq_false_iff_eq, beq_eq_false_iff_ne] at hb
    obtain ⟨⟨⟨⟨g1, g2⟩, g3⟩, g4⟩, g5⟩ := hb
    obtain ⟨hf, hlen, hpos, hvo, hgd, _, _, k, hj, hkl⟩ := usab_at g1 hw.1
    have hl0 : ((l.length : Nat) : Int) ≠ 0 := by omega
    have ht : scoreOk (atS l k) = true := hgd _ (getD_mem hkl)
    have c1 := Carry_spec l (by omega) hf m hm (atS l k).version
    have c2 := Carry_spec l (by omega) hf n hn (atS l k).version
    rw [carryR_ok hvo g2 (ver_num ht) (findV_self hvo hkl)] at c1
    rw [carryR_ok hvo g3 (ver_num ht) (findV_self hvo hkl)] at c2
    have hap := apart_no (v := (atS l k).version) hgd ht g4 g5
    unfold tupC at c1 c2
    obtain ⟨s, hs⟩ : ∃ s, l.getD k default = s := ⟨_, rfl⟩
    rw [show atS l k = s from hs] at c1 c2 hap
    generalize carryM l s.version s m = x at *
    generalize carryM l s.version s n = y at *
    dsimp only at c1 c2
    rw [g1] at hu
    rw [g2] at v1
    rw [g3] at v2
    refine PCall.body Tryz.func14 rfl rfl Tryz.ntmps14 rfl rfl ?_
    repeat' (first | refine aoQ rfl rfl rfl (fun hg => by first | exact iX encS l ((k : Nat) : Int) hs (hb := by omega) | exact PRun.convV tabOk (wrap64a ⟨by omega, by omega⟩) rfl rfl nd rfl rfl | exact PRun.remV hj hl0 rfl rfl nd rfl nd | exact std0 | exact pcW (hh) rfl rfl nd rfl nds | exact pcW (hu) rfl rfl nd rfl nds | exact pcW (v1) rfl rfl nd rfl nds | exact pcW (v2) rfl rfl nd rfl nds | exact pcW (c1) rfl rfl nd rfl nds | exact pcW (c2) rfl rfl nd rfl nds | exact std1) (by exact rfl) ?_ | refine sqW ?_ | refine rgK (fun K' hK => ?_) | (refine aoN (hK _ _ ?_); clear hK K') | refine aoE (bxW rfl rfl rfl rfl rfl tI rfl rfl ?_) | refine aoE (stW tabOk rfl rfl rfl tI rfl rfl tI rfl rfl rfl rfl rfl rfl rfl ?_) | refine aoE (alW tabOk rfl rfl rfl rfl rfl rfl ?_) | (refine cdW rfl tI (fun hc => ?_) (fun hc => ?_) <;> (first | (simp only [dEt] at hc) | (simp only [dEf, zA0, zA1] at hc) | skip)) | refine skW ?_ | refine rtW ?_)
    all_goals (first | (exfalso; simp [g4, g5] at hc; done) | skip)
    refine ⟨.inr rfl, Ent.b ?_⟩
    revert hap
    generalize x.isSome = p
    generalize y.isSome = q
    generalize ((x.getD Jo.noMark).note == (y.getD Jo.noMark).note) = r
    cases p <;> cases q <;> cases r <;> decide
end Go.Proofs.YtekfpcgagoidcaaGreatDoor.Cy
