/- The law PlaceBack by content. No statement is proved here. -/
import Derived.Test.YtdglbdfdkabjfaaGreatDoorP29
set_option linter.unusedVariables false
set_option linter.unusedSimpArgs false
namespace Go.Proofs.YtdglbdfdkabjfaaGreatDoor.Pl
open Go.Ab Go.Pl
attribute [local irreducible] AWP AOps EStep AQ PStep PRun PCall TCall VCall
instance : Inhabited Ed.Edition := ⟨⟨0, 0, [], []⟩⟩
set_option maxHeartbeats 8000000 in
set_option maxRecDepth 20000 in
theorem back_law (s : Score) (hs : s.Sized) (one two : Ed.Edition) (hw1 : Ed.Wf one) (hw2 : Ed.Wf two) (r : Room) (hz : FSized r.form) (w a : Int) (hwv : 0 ≤ w ∧ w ≤ 65535) (ha : 0 ≤ a ∧ a ≤ 65535) :
 PCall Tryz.prog 4 [.agg (encS s), .agg (Ed.encE one), .agg (Ed.encE two), .agg (encRm r), .prim (.int .u16 w), .prim (.int .u16 a)] (.b true) := by
 have hh := head_spec
 have hu1 := usable_spec s hs one r hz
 have hu2 := usable_spec s hs two r hz
 by_cases hus : (usableB s one r && usableB s two r) = true
 · have hus2 := hus
   rw [zA0] at hus2
   obtain ⟨u1, u2⟩ := hus2
   rw [u1] at hu1
   rw [u2] at hu2
   obtain ⟨⟨hsm, hf⟩, hr1⟩ := usable_parts u1
   obtain ⟨_, hr2⟩ := usable_parts u2
   obtain ⟨hsc, _, hform, hbars, _⟩ := right_parts hr1
   have hmo := moment_spec s hsm hsc r hf hform hbars w a hwv ha
   by_cases hm : (momJ s r w a).2 = true
   · obtain ⟨m1, m2⟩ := momJ_ok hsc hform hbars ha hm
     rw [hm] at hmo
     generalize (momJ s r w a).1 = M at *
     have hall : ∀ k, k < 2 → rightB s ([one, two].getD k default) r = true ∧ Ed.Wf ([one, two].getD k default) := fun k hk => match k, hk with
      | 0, _ => ⟨hr1, hw1⟩
      | 1, _ => ⟨hr2, hw2⟩
     refine PCall.body Tryz.func4 rfl rfl Tryz.ntmps4 rfl rfl ?_
     repeat' (first | refine aoQ rfl rfl rfl (fun hg => by first | exact std0 | exact pcW (hh) rfl rfl nd rfl nds | exact pcW (hu1) rfl rfl nd rfl nds | exact pcW (hu2) rfl rfl nd rfl nds | exact pcW (hmo) rfl rfl nd rfl nds | exact pbS tabOk rfl rfl nds | exact std1) (by exact rfl) ?_ | refine sqW ?_ | refine rgK (fun K' hK => ?_) | (refine aoN (hK _ _ ?_); clear hK K') | refine aoE (bxW rfl rfl rfl rfl rfl tI rfl rfl ?_) | refine aoE (stW tabOk rfl rfl rfl tI rfl rfl tI rfl rfl rfl rfl rfl rfl rfl ?_) | refine aoE (alW tabOk rfl rfl rfl rfl rfl rfl ?_) | (refine cdN rfl tI (fun hc => ?_) (fun hc => ?_) <;> try dsimp only at hc) | refine blK ?_ | refine skW ?_ | refine rtW ?_)
     all_goals (first | (exact absurd hc (by decide)) | (exfalso; simp at hc; done) | (exfalso; simp at hc; omega) | (exfalso; omega) | skip)
     refine lpD (ι := Nat) (fun k => [(6, .ptr 0 0), (9, .ptr 3 0), (13, .b true), (14, .ptr 4 0), (50, .sl 4 ([one, two].map Ed.encE) .fresh), (51, .int 2), (52, .int k)]) (fun _ => [.var (encS s), .var (Ed.encE one), .var (Ed.encE two), .var (encRm r), .var (encMo M)])
      (fun k => k ≤ 2) (fun k => 2 - k) 5 (fun _ => rfl) 0 (nZl _) ⟨rfl, rfl, rfl, rfl, rfl, rfl, rfl, tI⟩ rfl (fun _ _ => rfl) (fun _ _ => rfl) ?_
     intro k hk
     have hl2 : [one, two].length = 2 := rfl
     generalize [one, two] = L at *
     by_cases hlt : k < 2
     · obtain ⟨hr, hw⟩ := hall k hlt
       obtain ⟨E, hE⟩ : ∃ E, L.getD k default = E := ⟨_, rfl⟩
       rw [hE] at hr hw
       have hloc := locate_spec s hsm E hw r hf M
       rcases locate_ok hr m1 m2 with hl | ⟨d, hl, hd1, hd2, hd3⟩
       · rw [hl] at hloc
         change PCall _ _ _ (.tup [.agg (encCl noCall), .b false, .int 0]) at hloc
         repeat' (first | refine aoQ rfl rfl rfl (fun hg => by first | exact PRun.eq (v := .iptr (Ed.encE (L.getD ((k : Nat) : Int).toNat default))) (piW tabOk rfl rfl nd rfl nd rfl rfl (by omega)) (congrArg (fun x => AV.iptr (Ed.encE x)) (show L.getD ((k : Nat) : Int).toNat default = E from hE)) | exact std0 | exact pcW (hloc) rfl rfl nd rfl nds | exact pbD tabOk rfl rfl nds | exact PRun.eqN flCl rfl rfl nd rfl nd rfl) (by exact rfl) ?_ | refine sqW ?_ | refine rgK (fun K' hK => ?_) | (refine aoN (hK _ _ ?_); clear hK K') | refine aoE (stW tabOk rfl rfl rfl tI rfl rfl tI rfl rfl rfl rfl rfl rfl rfl ?_) | refine aoE (alW tabOk rfl rfl rfl rfl rfl rfl ?_) | (refine cdN rfl tI (fun hc => ?_) (fun hc => ?_) <;> try dsimp only at hc) | refine blK ?_ | refine exW ?_ | refine skW ?_ | refine rtW ?_)
         all_goals (first | (exact absurd hc (by decide)) | (exfalso; simp at hc; done) | (exfalso; simp at hc; omega) | (exfalso; omega) | skip)
         exact ⟨k + 1, by omega, by omega, ⟨rfl, rfl, rfl, rfl, rfl, rfl, rfl, tI⟩, rfl⟩
       · rw [hl] at hloc
         change PCall _ _ _ (.tup [.agg (encCl d), .b true, .int 0]) at hloc
         have h2 := resolve_spec s hsm E hw r hf d (by omega)
         rw [hd2] at h2
         change PCall _ _ _ (.tup [.agg (encMo M), .int 0]) at h2
         have h3 := cvalid_spec d (by omega)
         rw [hd1] at h3
         repeat' (first | refine aoQ rfl rfl rfl (fun hg => by first | exact PRun.eq (v := .iptr (Ed.encE (L.getD ((k : Nat) : Int).toNat default))) (piW tabOk rfl rfl nd rfl nd rfl rfl (by omega)) (congrArg (fun x => AV.iptr (Ed.encE x)) (show L.getD ((k : Nat) : Int).toNat default = E from hE)) | exact std0 | exact pcW (hloc) rfl rfl nd rfl nds | exact pcW (h2) rfl rfl nd rfl nds | exact pcW (h3) rfl rfl nd rfl nds | exact pbD tabOk rfl rfl nds | exact PRun.eqN flMo rfl rfl nd rfl nd rfl) (by exact rfl) ?_ | refine sqW ?_ | refine rgK (fun K' hK => ?_) | (refine aoN (hK _ _ ?_); clear hK K') | refine aoE (stW tabOk rfl rfl rfl tI rfl rfl tI rfl rfl rfl rfl rfl rfl rfl ?_) | refine aoE (alW tabOk rfl rfl rfl rfl rfl rfl ?_) | (refine cdN rfl tI (fun hc => ?_) (fun hc => ?_) <;> try dsimp only at hc) | refine blK ?_ | refine exW ?_ | refine skW ?_ | refine rtW ?_)
         all_goals (first | (exact absurd hc (by decide)) | (exfalso; simp at hc; done) | (exfalso; simp at hc; omega) | (exfalso; omega) | skip)
         exact ⟨k + 1, by omega, by omega, ⟨rfl, rfl, (by show AV.b _ = AV.b true; congr 1; simp), rfl, rfl, rfl, rfl, tI⟩, rfl⟩
     · obtain rfl : k = 2 := by omega
       repeat' (first | refine aoQ rfl rfl rfl (fun hg => by first | exact std0 | exact std1) (by exact rfl) ?_ | refine sqW ?_ | refine rgK (fun K' hK => ?_) | (refine aoN (hK _ _ ?_); clear hK K') | refine aoE (stW tabOk rfl rfl rfl tI rfl rfl tI rfl rfl rfl rfl rfl rfl rfl ?_) | refine aoE (alW tabOk rfl rfl rfl rfl rfl rfl ?_) | (refine cdN rfl tI (fun hc => ?_) (fun hc => ?_) <;> try dsimp only at hc) | refine blK ?_ | refine exW ?_ | refine skW ?_ | refine rtW ?_)
       all_goals (first | (exfalso; simp at hc; done) | skip)
       exact ⟨.inr rfl, Ent.b rfl⟩
   · have hm : (momJ s r w a).2 = false := by simpa using hm
     rw [hm] at hmo
     refine PCall.body Tryz.func4 rfl rfl Tryz.ntmps4 rfl rfl ?_
     repeat' (first | refine aoQ rfl rfl rfl (fun hg => by first | exact std0 | exact pcW (hh) rfl rfl nd rfl nds | exact pcW (hu1) rfl rfl nd rfl nds | exact pcW (hu2) rfl rfl nd rfl nds | exact pcW (hmo) rfl rfl nd rfl nds | exact pbS tabOk rfl rfl nds | exact std1) (by exact rfl) ?_ | refine sqW ?_ | refine rgK (fun K' hK => ?_) | (refine aoN (hK _ _ ?_); clear hK K') | refine aoE (bxW rfl rfl rfl rfl rfl tI rfl rfl ?_) | refine aoE (stW tabOk rfl rfl rfl tI rfl rfl tI rfl rfl rfl rfl rfl rfl rfl ?_) | refine aoE (alW tabOk rfl rfl rfl rfl rfl rfl ?_) | (refine cdN rfl tI (fun hc => ?_) (fun hc => ?_) <;> try dsimp only at hc) | refine blK ?_ | refine skW ?_ | refine rtW ?_)
     all_goals (first | (exact absurd hc (by decide)) | (exfalso; simp at hc; done) | (exfalso; simp at hc; omega) | (exfalso; omega) | skip)
     exact ⟨.inr rfl, Ent.b rfl⟩
 · have hus : (usableB s one r && usableB s two r) = false := by simpa using hus
   generalize usableB s one r = x at *
   generalize usableB s two r = y at *
   refine PCall.body Tryz.func4 rfl rfl Tryz.ntmps4 rfl rfl ?_
   repeat' (first | refine aoQ rfl rfl rfl (fun hg => by first | exact std0 | exact pcW (hh) rfl rfl nd rfl nds | exact pcW (hu1) rfl rfl nd rfl nds | exact pcW (hu2) rfl rfl nd rfl nds) (by exact rfl) ?_ | refine sqW ?_ | refine rgK (fun K' hK => ?_) | (refine aoN (hK _ _ ?_); clear hK K') | refine aoE (bxW rfl rfl rfl rfl rfl tI rfl rfl ?_) | (refine cdN rfl tI (fun hc => ?_) (fun hc => ?_) <;> try dsimp only at hc) | refine skW ?_ | refine rtW ?_)
   · exact ⟨.inr rfl, Ent.b rfl⟩
   all_goals (exfalso; revert hc hus; cases x <;> cases y <;> decide)
end Go.Proofs.YtdglbdfdkabjfaaGreatDoor.Pl
