/- The law PlaceBeats by content. No statement is proved here. -/
import Derived.Test.YtdglbdfdkabjfaaGreatDoorP29
set_option linter.unusedVariables false
set_option linter.unusedSimpArgs false
namespace Go.Proofs.YtdglbdfdkabjfaaGreatDoor.Pl
open Go.Ab Go.Pl
attribute [local irreducible] AWP AOps EStep AQ PStep PRun PCall TCall VCall
theorem flVi : flatN Tryz.prog 46 = some [.int .i64, .int .i64] := by kernel_rfl
set_option maxHeartbeats 8000000 in
set_option maxRecDepth 20000 in
theorem beats_law (s : Score) (hs : s.Sized) (e : Ed.Edition) (hw : Ed.Wf e) (r : Room) (hz : FSized r.form) (c : Call) (hcl : c.letter.size ≤ 9223372036854775807) (b : Rat) :
 PCall Tryz.prog 7 [.agg (encS s), .agg (Ed.encE e), .agg (encRm r), .agg (encCl c), .agg (encR b)] (.b true) := by
 have hh := head_spec
 have hu := usable_spec s hs e r hz
 have hv := cvalid29_spec c
 have hv2 := cvalid29_spec (withBeat c b)
 by_cases hus : (usableB s e r && callOk c && callOk (withBeat c b)) = true
 · have hus2 := hus
   rw [zA0, zA0] at hus2
   obtain ⟨⟨husa, hco⟩, hco2⟩ := hus2
   rw [husa] at hu
   rw [hco] at hv
   rw [hco2] at hv2
   obtain ⟨⟨hsm, hf⟩, hr⟩ := usable_parts husa
   obtain ⟨hsc, hfm, hform, hbars, _⟩ := right_parts hr
   have h1 := resolve_spec s hsm e hw r hf c hcl
   have h2 := resolve_spec s hsm e hw r hf (withBeat c b) hcl
   have h9 := valid9_spec r.form hf
   rw [hform] at h9
   obtain ⟨g1, g2, g3, g4⟩ := beats hr hco hco2
   have hbl := hsm.1
   have hbar := r7bar_spec s.bars (resolve s e r c).1.bar (by omega)
   have hbi := barAt_in s.bars (resolve s e r c).1.bar
   have t1 := ticks6_spec b
   obtain ⟨X, hX⟩ : ∃ X, resolve s e r c = X := ⟨_, rfl⟩
   obtain ⟨Y, hY⟩ : ∃ Y, resolve s e r (withBeat c b) = Y := ⟨_, rfl⟩
   rw [hX] at g1 g2 g3 g4 h1 hbar hbi
   rw [hY] at g1 g2 g3 g4 h2
   obtain ⟨⟨xb, xp, xq⟩, x⟩ := X
   obtain ⟨⟨yb, yp, yq⟩, y⟩ := Y
   dsimp only at g1 g2 g3 g4 hbar hbi
   change PCall _ _ _ (.tup [.agg [.int xb, .int xp, .int xq.n, .int xq.d], .int x]) at h1
   change PCall _ _ _ (.tup [.agg [.int yb, .int yp, .int yq.n, .int yq.d], .int y]) at h2
   by_cases hx : x = 0
   · by_cases hy : y = 0
     · subst hx hy
       obtain ⟨rfl, rfl, rfl, rfl⟩ := g1 rfl rfl
       refine PCall.body Tryz.func7 rfl rfl Tryz.ntmps7 rfl rfl ?_
       repeat' (first | refine aoQ rfl rfl rfl (fun hg => by first | exact std0 | exact pcW (hh) rfl rfl nd rfl nds | exact pcW (hu) rfl rfl nd rfl nds | exact pcW (hv) rfl rfl nd rfl nds | exact pcW (hv2) rfl rfl nd rfl nds) (by exact rfl) ?_ | refine sqW ?_ | refine rgK (fun K' hK => ?_) | (refine aoN (hK _ _ ?_); clear hK K') | refine aoE (bxW rfl rfl rfl rfl rfl tI rfl rfl ?_) | refine aoE (stW tabOk rfl rfl rfl tI rfl rfl tI rfl rfl rfl rfl rfl rfl rfl ?_) | refine aoE (alW tabOk rfl rfl rfl rfl rfl rfl ?_))
       refine cdW rfl tI (fun hc => absurd hc (by decide)) (fun hc => ?_)
       repeat' (first | refine aoQ rfl rfl rfl (fun hg => by first | exact std0 | exact pcW (h1) rfl rfl nd rfl nds | exact pcW (h2) rfl rfl nd rfl nds) (by exact rfl) ?_ | refine sqW ?_ | refine rgK (fun K' hK => ?_) | (refine aoN (hK _ _ ?_); clear hK K') | refine aoE (stW tabOk rfl rfl rfl tI rfl rfl tI rfl rfl rfl rfl rfl rfl rfl ?_) | refine aoE (alW tabOk rfl rfl rfl rfl rfl rfl ?_) | refine blK ?_ | refine skW ?_)
       refine cdW rfl tI (fun hc => ?_) (fun hc => absurd hc (by decide))
       repeat' (first | refine aoQ rfl rfl rfl (fun hg => by first | exact std0 | exact PRun.eqN flRa rfl rfl nd rfl nd rfl | exact PRun.eqN flVi rfl rfl nd rfl nd rfl) (by exact rfl) ?_ | refine sqW ?_ | refine rgK (fun K' hK => ?_) | (refine aoN (hK _ _ ?_); clear hK K') | refine rtW ?_)
       refine ⟨.inr rfl, Ent.b ?_⟩
       simp
     · subst hx
       obtain ⟨rfl, k1, k2⟩ := g2 rfl hy
       obtain ⟨i, hi⟩ : ∃ i : Nat, barAt s.bars xb = i := ⟨(barAt s.bars xb).toNat, by omega⟩
       rw [hi] at hbar hbi k2
       rw [zAa] at k2
       obtain ⟨B, hB⟩ : ∃ B, s.bars.getD i default = B := ⟨_, rfl⟩
       rw [hB] at k2
       have t2 := ticks6_spec B.len
       refine PCall.body Tryz.func7 rfl rfl Tryz.ntmps7 rfl rfl ?_
       repeat' (first | refine aoQ rfl rfl rfl (fun hg => by first | exact std0 | exact pcW (hh) rfl rfl nd rfl nds | exact pcW (hu) rfl rfl nd rfl nds | exact pcW (hv) rfl rfl nd rfl nds | exact pcW (hv2) rfl rfl nd rfl nds) (by exact rfl) ?_ | refine sqW ?_ | refine rgK (fun K' hK => ?_) | (refine aoN (hK _ _ ?_); clear hK K') | refine aoE (bxW rfl rfl rfl rfl rfl tI rfl rfl ?_) | refine aoE (stW tabOk rfl rfl rfl tI rfl rfl tI rfl rfl rfl rfl rfl rfl rfl ?_) | refine aoE (alW tabOk rfl rfl rfl rfl rfl rfl ?_))
       refine cdW rfl tI (fun hc => absurd hc (by decide)) (fun hc => ?_)
       repeat' (first | refine aoQ rfl rfl rfl (fun hg => by first | exact std0 | exact pcW (h1) rfl rfl nd rfl nds | exact pcW (h2) rfl rfl nd rfl nds) (by exact rfl) ?_ | refine sqW ?_ | refine rgK (fun K' hK => ?_) | (refine aoN (hK _ _ ?_); clear hK K') | refine aoE (stW tabOk rfl rfl rfl tI rfl rfl tI rfl rfl rfl rfl rfl rfl rfl ?_) | refine aoE (alW tabOk rfl rfl rfl rfl rfl rfl ?_) | refine blK ?_ | refine skW ?_)
       refine cdW rfl tI (fun hc => absurd hc (by decide)) (fun hc => ?_)
       repeat' (first | refine aoQ rfl rfl rfl (fun hg => by exact std0) (by exact rfl) ?_ | refine sqW ?_ | refine rgK (fun K' hK => ?_) | (refine aoN (hK _ _ ?_); clear hK K'))
       refine cdW rfl tI (fun hc => ?_) (fun hc => absurd hc (by decide))
       repeat' (first | refine aoQ rfl rfl rfl (fun hg => by first | exact std0 | exact pcW (hbar) rfl rfl nd rfl nds) (by exact rfl) ?_ | refine sqW ?_ | refine rgK (fun K' hK => ?_) | (refine aoN (hK _ _ ?_); clear hK K') | refine rtW ?_ | refine dK2 (by decide +kernel) (by kernel_rfl) (by decide +kernel) rfl (fun K' hK => ?_) | (refine aqN (hK _ ?_); clear hK K') | refine aqQ rfl rfl (fun hg => by first | exact iX encB s.bars ((i : Nat) : Int) hB (hb := by omega) | exact std0 | exact pcW (t1) rfl rfl nd rfl nds | exact pcW (t2) rfl rfl nd rfl nds) (by exact rfl) ?_)
       refine ⟨.inr rfl, Ent.b ?_⟩
       simp
       omega
   · refine PCall.body Tryz.func7 rfl rfl Tryz.ntmps7 rfl rfl ?_
     have hx2 : (x == 0) = false := by simpa using hx
     by_cases hy : y = 0
     · subst hy
       obtain rfl := g3 rfl hx
       repeat' (first | refine aoQ rfl rfl rfl (fun hg => by first | exact std0 | exact pcW (hh) rfl rfl nd rfl nds | exact pcW (hu) rfl rfl nd rfl nds | exact pcW (hv) rfl rfl nd rfl nds | exact pcW (hv2) rfl rfl nd rfl nds) (by exact rfl) ?_ | refine sqW ?_ | refine rgK (fun K' hK => ?_) | (refine aoN (hK _ _ ?_); clear hK K') | refine aoE (bxW rfl rfl rfl rfl rfl tI rfl rfl ?_) | refine aoE (stW tabOk rfl rfl rfl tI rfl rfl tI rfl rfl rfl rfl rfl rfl rfl ?_) | refine aoE (alW tabOk rfl rfl rfl rfl rfl rfl ?_))
       refine cdW rfl tI (fun hc => absurd hc (by decide)) (fun hc => ?_)
       repeat' (first | refine aoQ rfl rfl rfl (fun hg => by first | exact std0 | exact pcW (h1) rfl rfl nd rfl nds | exact pcW (h2) rfl rfl nd rfl nds) (by exact rfl) ?_ | refine sqW ?_ | refine rgK (fun K' hK => ?_) | (refine aoN (hK _ _ ?_); clear hK K') | refine aoE (stW tabOk rfl rfl rfl tI rfl rfl tI rfl rfl rfl rfl rfl rfl rfl ?_) | refine aoE (alW tabOk rfl rfl rfl rfl rfl rfl ?_) | refine blK ?_ | refine skW ?_)
       refine cdW rfl tI (fun hc => absurd hc (by decide)) (fun hc => ?_)
       repeat' (first | refine aoQ rfl rfl rfl (fun hg => by exact std0) (by exact rfl) ?_ | refine sqW ?_ | refine rgK (fun K' hK => ?_) | (refine aoN (hK _ _ ?_); clear hK K'))
       refine cdW rfl tI (fun hc => absurd hc (by decide)) (fun hc => ?_)
       repeat' (first | refine aoQ rfl rfl rfl (fun hg => by exact std0) (by exact rfl) ?_ | refine sqW ?_ | refine rgK (fun K' hK => ?_) | (refine aoN (hK _ _ ?_); clear hK K'))
       refine cdW rfl tI (fun hc => ?_) (fun hc => absurd hc (by decide))
       repeat' (first | refine aoQ rfl rfl rfl (fun hg => by exact std0) (by exact rfl) ?_ | refine sqW ?_ | refine rgK (fun K' hK => ?_) | (refine aoN (hK _ _ ?_); clear hK K') | refine rtW ?_)
       exact ⟨.inr rfl, Ent.b rfl⟩
     · have hg := g4 hx hy
       have hy2 : (y == 0) = false := by simpa using hy
       repeat' (first | refine aoQ rfl rfl rfl (fun hg => by first | exact std0 | exact pcW (hh) rfl rfl nd rfl nds | exact pcW (hu) rfl rfl nd rfl nds | exact pcW (hv) rfl rfl nd rfl nds | exact pcW (hv2) rfl rfl nd rfl nds) (by exact rfl) ?_ | refine sqW ?_ | refine rgK (fun K' hK => ?_) | (refine aoN (hK _ _ ?_); clear hK K') | refine aoE (bxW rfl rfl rfl rfl rfl tI rfl rfl ?_) | refine aoE (stW tabOk rfl rfl rfl tI rfl rfl tI rfl rfl rfl rfl rfl rfl rfl ?_) | refine aoE (alW tabOk rfl rfl rfl rfl rfl rfl ?_))
       refine cdW rfl tI (fun hc => absurd hc (by decide)) (fun hc => ?_)
       repeat' (first | refine aoQ rfl rfl rfl (fun hg => by first | exact std0 | exact pcW (h1) rfl rfl nd rfl nds | exact pcW (h2) rfl rfl nd rfl nds) (by exact rfl) ?_ | refine sqW ?_ | refine rgK (fun K' hK => ?_) | (refine aoN (hK _ _ ?_); clear hK K') | refine aoE (stW tabOk rfl rfl rfl tI rfl rfl tI rfl rfl rfl rfl rfl rfl rfl ?_) | refine aoE (alW tabOk rfl rfl rfl rfl rfl rfl ?_) | refine blK ?_ | refine skW ?_)
       refine cdW rfl tI (fun hc => absurd (hc.symm.trans (show (x == 0 && y == 0) = false by rw [hx2]; rfl)) (by decide)) (fun hc => ?_)
       repeat' (first | refine aoQ rfl rfl rfl (fun hg => by exact std0) (by exact rfl) ?_ | refine sqW ?_ | refine rgK (fun K' hK => ?_) | (refine aoN (hK _ _ ?_); clear hK K'))
       refine cdW rfl tI (fun hc => absurd (hc.symm.trans hx2) (by decide)) (fun hc => ?_)
       repeat' (first | refine aoQ rfl rfl rfl (fun hg => by exact std0) (by exact rfl) ?_ | refine sqW ?_ | refine rgK (fun K' hK => ?_) | (refine aoN (hK _ _ ?_); clear hK K'))
       refine cdW rfl tI (fun hc => absurd (hc.symm.trans hy2) (by decide)) (fun hc => ?_)
       repeat' (first | refine aoQ rfl rfl rfl (fun hg => by first | exact std0 | exact pcW (h9) rfl rfl nd rfl nds) (by exact rfl) ?_ | refine sqW ?_ | refine rgK (fun K' hK => ?_) | (refine aoN (hK _ _ ?_); clear hK K') | refine skW ?_ | refine rtW ?_)
       refine ⟨.inr rfl, Ent.b ?_⟩
       rcases hg with h | h | h
       · subst h; simp
       · subst h; simp
       · subst h; simp
 · have hus : (usableB s e r && callOk c && callOk (withBeat c b)) = false := by simpa using hus
   generalize usableB s e r = x at *
   generalize callOk c = y at *
   generalize callOk (withBeat c b) = z at *
   refine PCall.body Tryz.func7 rfl rfl Tryz.ntmps7 rfl rfl ?_
   repeat' (first | refine aoQ rfl rfl rfl (fun hg => by first | exact std0 | exact pcW (hh) rfl rfl nd rfl nds | exact pcW (hu) rfl rfl nd rfl nds | exact pcW (hv) rfl rfl nd rfl nds | exact pcW (hv2) rfl rfl nd rfl nds) (by exact rfl) ?_ | refine sqW ?_ | refine rgK (fun K' hK => ?_) | (refine aoN (hK _ _ ?_); clear hK K') | refine aoE (bxW rfl rfl rfl rfl rfl tI rfl rfl ?_) | refine aoE (stW tabOk rfl rfl rfl tI rfl rfl tI rfl rfl rfl rfl rfl rfl rfl ?_) | refine aoE (alW tabOk rfl rfl rfl rfl rfl rfl ?_) | (refine cdN rfl tI (fun hc => ?_) (fun hc => ?_) <;> try dsimp only at hc) | refine skW ?_ | refine rtW ?_)
   · exact ⟨.inr rfl, Ent.b rfl⟩
   all_goals (exfalso; revert hc hus; cases x <;> cases y <;> cases z <;> decide)
end Go.Proofs.YtdglbdfdkabjfaaGreatDoor.Pl
