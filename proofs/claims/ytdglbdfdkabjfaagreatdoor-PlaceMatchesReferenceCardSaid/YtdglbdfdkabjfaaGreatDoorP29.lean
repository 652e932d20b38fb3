/- The law PlaceMoments by content. No statement is proved here. -/
import Derived.Test.YtdglbdfdkabjfaaGreatDoorP27
import Derived.Test.YtdglbdfdkabjfaaGreatDoorP28
set_option linter.unusedVariables false
set_option linter.unusedSimpArgs false
namespace Go.Proofs.YtdglbdfdkabjfaaGreatDoor.Pl
open Go.Ab Go.Pl
attribute [local irreducible] AWP AOps EStep AQ PStep PRun PCall TCall VCall
theorem usable_parts {s : Score} {e : Ed.Edition} {r : Room} (h : usableB s e r = true) : (s.Small ∧ FIn r.form) ∧ rightB s e r = true := by
 unfold usableB at h
 rw [zA0] at h
 exact ⟨fewB_in h.1, h.2⟩
theorem flRa : flatN Tryz.prog 42 = some [.int .i64, .int .i64] := by kernel_rfl
theorem find_in {f : PForm} (hf : FIn f) (hform : formOk f = true) {v : PVis} (hv : v ∈ visits f) : PCall Tryz.prog 20 [.agg (encF f), .agg (encV v)] (.tup [.int (max (findI (eqVis v) (visits f)) 0), .b true, .int 0]) := by
 have h := find_spec f hf v
 rw [show findR f v = (max (findI (eqVis v) (visits f)) 0, true, 0) by unfold findR; rw [if_pos hform, decide_eq_true hv]] at h
 exact h
theorem any_take {α : Type} [Inhabited α] {p : α → Bool} {l : List α} {k : Nat} (h : k < l.length) : (l.take (k + 1)).any p = ((l.take k).any p || p (l.getD k default)) := by
 rw [zBi, zA1 h, List.any_append, getD_lt h]
 simp
set_option maxHeartbeats 8000000 in
set_option maxRecDepth 20000 in
theorem moments_law (s : Score) (hs : s.Sized) (e : Ed.Edition) (hw : Ed.Wf e) (r : Room) (hz : FSized r.form) (c : Call) (hcl : c.letter.size ≤ 9223372036854775807) :
 PCall Tryz.prog 5 [.agg (encS s), .agg (Ed.encE e), .agg (encRm r), .agg (encCl c)] (.b true) := by
 have hh := head_spec
 have hu := usable_spec s hs e r hz
 have hv := cvalid29_spec c
 by_cases hus : (usableB s e r && callOk c) = true
 · have hus2 := hus
   rw [zA0] at hus2
   obtain ⟨husa, hco⟩ := hus2
   rw [husa] at hu
   rw [hco] at hv
   obtain ⟨⟨hsm, hf⟩, hr⟩ := usable_parts husa
   have h1 := resolve_spec s hsm e hw r hf c hcl
   by_cases hx : (resolve s e r c).2 = 0
   · obtain ⟨_, _, p1, p2, p3, ⟨j, hj, hjb⟩, _⟩ := resolve_ok hx
     obtain ⟨hsc, hfm, hform, hbars, _⟩ := right_parts hr
     obtain ⟨_, hdur, _⟩ := call_parts hco
     rw [hx] at h1
     obtain ⟨M, hM⟩ : ∃ M, (resolve s e r c).1 = M := ⟨_, rfl⟩
     have hRM : resolve s e r c = (M, 0) := by rw [← hM, ← hx]
     rw [hM] at h1 p1 p2 p3 hjb
     obtain ⟨mb, mp, mq⟩ := M
     obtain rfl : mq = c.beat := p1
     obtain ⟨i, hi, hil, _, _, hvis⟩ := reason_zero hsc hdur p3
     have hbl := hsm.1
     have hbar := r7bar_spec s.bars mb (by omega)
     rw [hi] at hbar
     have hfind := find_in hf hform hvis
     have hloc := locate_spec s hsm e hw r hf ⟨mb, mp, c.beat⟩
     have hel := form_small hfm
     have hany : (e.bars.any fun p => p.bar == mb) = true := zD8.2 ⟨_, getD_in hj, by rw [hjb]; simp⟩
     refine PCall.body Tryz.func5 rfl rfl Tryz.ntmps5 rfl rfl ?_
     repeat' (first | refine aoQ rfl rfl rfl (fun hg => by first | exact std0 | exact pcW (hh) rfl rfl nd rfl nds | exact pcW (hu) rfl rfl nd rfl nds | exact pcW (hv) rfl rfl nd rfl nds | exact pcW (h1) rfl rfl nd rfl nds | exact pcW (hbar) rfl rfl nd rfl nds | exact pcW (hfind) rfl rfl nd rfl nds | exact pbD tabOk rfl rfl nds | exact PRun.eqN flMo rfl rfl nd rfl nd rfl | exact PRun.neN flRa rfl rfl nd rfl nd rfl | exact std1) (by exact rfl) ?_ | refine sqW ?_ | refine rgK (fun K' hK => ?_) | (refine aoN (hK _ _ ?_); clear hK K') | refine aoE (bxW rfl rfl rfl rfl rfl tI rfl rfl ?_) | refine aoE (stW tabOk rfl rfl rfl tI rfl rfl tI rfl rfl rfl rfl rfl rfl rfl ?_) | refine aoE (alW tabOk rfl rfl rfl rfl rfl rfl ?_) | (refine cdN rfl tI (fun hc => ?_) (fun hc => ?_) <;> try dsimp only at hc) | refine blK ?_ | refine skW ?_ | refine rtW ?_)
     all_goals (first | (exact absurd hc (by decide)) | (exfalso; simp at hc; done) | (exfalso; simp at hc; omega) | skip)
     refine lpD (ι := Nat) (fun k => [(4, .ptr 0 0), (5, .ptr 1 0), (6, .ptr 2 0), (7, .ptr 3 0), (9, .b true), (10, .ptr 4 0), (14, .b true), (15, .int 0), (16, .b ((e.bars.take k).any fun p => p.bar == mb)), (88, .sl 3 (e.bars.map Ed.encP) .no), (89, .int e.bars.length), (90, .int k)]) (fun _ => [.var (encS s), .var (Ed.encE e), .var (encRm r), .var (encCl c), .var (encMo ⟨mb, mp, c.beat⟩)])
      (fun k => k ≤ e.bars.length) (fun k => e.bars.length - k) 5 (fun _ => rfl) 0 (nZl _) ⟨rfl, rfl, rfl, rfl, rfl, rfl, rfl, rfl, rfl, rfl, rfl, rfl, tI⟩ rfl (fun _ _ => rfl) (fun _ _ => rfl) ?_
     intro k hk
     by_cases hlt : k < e.bars.length
     · have hnx := any_take (p := fun p : Ed.Printed => p.bar == mb) hlt
       repeat' (first | refine aoQ rfl rfl rfl (fun hg => by first | exact std0 | exact std1) (by exact rfl) ?_ | refine sqW ?_ | refine rgK (fun K' hK => ?_) | (refine aoN (hK _ _ ?_); clear hK K') | refine aoE (stW tabOk rfl rfl rfl tI rfl rfl tI rfl rfl rfl rfl rfl rfl rfl ?_) | refine aoE (alW tabOk rfl rfl rfl rfl rfl rfl ?_) | (refine cdN rfl tI (fun hc => ?_) (fun hc => ?_) <;> try dsimp only at hc) | refine blK ?_ | refine exW ?_ | refine skW ?_)
       all_goals (first | (exfalso; omega) | skip)
       exact ⟨k + 1, hlt, by omega, ⟨rfl, rfl, rfl, rfl, rfl, rfl, rfl, rfl, by rw [hnx]; rfl, rfl, rfl, rfl, tI⟩, rfl⟩
     · obtain rfl : k = e.bars.length := by omega
       rw [zBl, hany]
       rcases locate_ok hr p2 p3 with hl | ⟨d, hl, hd1, hd2, hd3⟩
       · rw [hl] at hloc
         change PCall _ _ _ (.tup [.agg (encCl noCall), .b false, .int 0]) at hloc
         repeat' (first | refine aoQ rfl rfl rfl (fun hg => by first | exact std0 | exact pcW (hloc) rfl rfl nd rfl nds | exact std1) (by exact rfl) ?_ | refine sqW ?_ | refine rgK (fun K' hK => ?_) | (refine aoN (hK _ _ ?_); clear hK K') | refine aoE (stW tabOk rfl rfl rfl tI rfl rfl tI rfl rfl rfl rfl rfl rfl rfl ?_) | refine aoE (alW tabOk rfl rfl rfl rfl rfl rfl ?_) | (refine cdN rfl tI (fun hc => ?_) (fun hc => ?_) <;> try dsimp only at hc) | refine blK ?_ | refine exW ?_ | refine skW ?_ | refine rtW ?_)
         all_goals (first | (exact absurd hc (by decide)) | (exfalso; omega) | (exfalso; simp at hc; done) | skip)
         exact ⟨.inr rfl, Ent.b rfl⟩
       · rw [hl] at hloc
         change PCall _ _ _ (.tup [.agg (encCl d), .b true, .int 0]) at hloc
         have h2 := resolve_spec s hsm e hw r hf d (by omega)
         rw [hd2] at h2
         change PCall _ _ _ (.tup [.agg (encMo ⟨mb, mp, c.beat⟩), .int 0]) at h2
         repeat' (first | refine aoQ rfl rfl rfl (fun hg => by first | exact std0 | exact pcW (hloc) rfl rfl nd rfl nds | exact pcW (h2) rfl rfl nd rfl nds | exact PRun.eqN flMo rfl rfl nd rfl nd rfl | exact std1) (by exact rfl) ?_ | refine sqW ?_ | refine rgK (fun K' hK => ?_) | (refine aoN (hK _ _ ?_); clear hK K') | refine aoE (stW tabOk rfl rfl rfl tI rfl rfl tI rfl rfl rfl rfl rfl rfl rfl ?_) | refine aoE (alW tabOk rfl rfl rfl rfl rfl rfl ?_) | (refine cdN rfl tI (fun hc => ?_) (fun hc => ?_) <;> try dsimp only at hc) | refine blK ?_ | refine exW ?_ | refine skW ?_ | refine rtW ?_)
         all_goals (first | (exact absurd hc (by decide)) | (exfalso; omega) | (exfalso; simp at hc; done) | skip)
         refine ⟨.inr rfl, Ent.b ?_⟩
         simp
   · have hm := resolve_no hx
     obtain ⟨n1, n2⟩ := resolve_ne hr hco
     rw [hm] at h1
     generalize (resolve s e r c).2 = x at *
     refine PCall.body Tryz.func5 rfl rfl Tryz.ntmps5 rfl rfl ?_
     repeat' (first | refine aoQ rfl rfl rfl (fun hg => by first | exact std0 | exact pcW (hh) rfl rfl nd rfl nds | exact pcW (hu) rfl rfl nd rfl nds | exact pcW (hv) rfl rfl nd rfl nds | exact pcW (h1) rfl rfl nd rfl nds | exact pbD tabOk rfl rfl nds | exact PRun.eqN flMo rfl rfl nd rfl nd rfl) (by exact rfl) ?_ | refine sqW ?_ | refine rgK (fun K' hK => ?_) | (refine aoN (hK _ _ ?_); clear hK K') | refine aoE (bxW rfl rfl rfl rfl rfl tI rfl rfl ?_) | refine aoE (stW tabOk rfl rfl rfl tI rfl rfl tI rfl rfl rfl rfl rfl rfl rfl ?_) | refine aoE (alW tabOk rfl rfl rfl rfl rfl rfl ?_) | (refine cdN rfl tI (fun hc => ?_) (fun hc => ?_) <;> try dsimp only at hc) | refine skW ?_ | refine rtW ?_)
     all_goals (first | (exact absurd hc (by decide)) | (exfalso; simp at hc; done) | (exfalso; simp at hc; omega) | skip)
     refine ⟨.inr rfl, Ent.b ?_⟩
     simp [n1, n2, noMom]
 · have hus : (usableB s e r && callOk c) = false := by simpa using hus
   generalize usableB s e r = a at *
   generalize callOk c = b at *
   refine PCall.body Tryz.func5 rfl rfl Tryz.ntmps5 rfl rfl ?_
   repeat' (first | refine aoQ rfl rfl rfl (fun hg => by first | exact std0 | exact pcW (hh) rfl rfl nd rfl nds | exact pcW (hu) rfl rfl nd rfl nds | exact pcW (hv) rfl rfl nd rfl nds) (by exact rfl) ?_ | refine sqW ?_ | refine rgK (fun K' hK => ?_) | (refine aoN (hK _ _ ?_); clear hK K') | refine aoE (bxW rfl rfl rfl rfl rfl tI rfl rfl ?_) | (refine cdN rfl tI (fun hc => ?_) (fun hc => ?_) <;> try dsimp only at hc) | refine skW ?_ | refine rtW ?_)
   · exact ⟨.inr rfl, Ent.b rfl⟩
   all_goals (exfalso; revert hc hus; cases a <;> cases b <;> decide)
end Go.Proofs.YtdglbdfdkabjfaaGreatDoor.Pl
