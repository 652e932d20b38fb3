/- The law BowingExcepts by content. No statement is proved here. -/
import Derived.Test.YtficfljjnbnhbaaGreatDoorP32
set_option linter.unusedVariables false
set_option linter.unusedSimpArgs false
namespace Go.Proofs.YtficfljjnbnhbaaGreatDoor.Bw
open Go.Ab Go.Sort Mk
attribute [local irreducible] AWP AOps EStep AQ PStep PRun PCall TCall VCall DStep TDies AWD DCall
set_option maxHeartbeats 32000000 in
set_option maxRecDepth 20000 in
theorem excepts_law (s : Score) (hs : s.Sized) (l : List Jo.Mark) (hl : l.length ≤ 9223372036854775807) (ht : TextsIn l) (sec : Int) (ex : List Int) (hex : ex.length ≤ 9223372036854775807) :
 PCall Tryz.prog 7 [.agg (encS s), .sl 10 (l.map encMk) .no, .int sec, .sl 1 (ex.map eI) .no] (.b true) := by
 have hh := head20
 have u1 := usable20_spec s hs l hl ht sec ex hex
 rw [show ((few20 s l && decide ((ex.length : Int) ≤ 60)) && formB s l sec ex) = use20 s l sec ex from rfl] at u1
 cases hu : use20 s l sec ex with
 | false =>
   rw [hu] at u1
   refine PCall.body Tryz.func7 rfl rfl Tryz.ntmps7 rfl rfl ?_
   repeat' (first | refine aoQ rfl rfl rfl (fun hg => by first | exact std0 | exact pcW (hh) rfl rfl nd rfl nds | exact pcW (u1) rfl rfl nd rfl nds | exact std1) (by exact rfl) ?_ | refine sqW ?_ | refine rgK (fun K' hK => ?_) | (refine aoN (hK _ _ ?_); clear hK K') | refine aoE (bxW rfl rfl rfl rfl rfl tI rfl rfl ?_) | refine aoE (stW tabOk rfl rfl rfl tI rfl rfl tI rfl rfl rfl rfl rfl rfl rfl ?_) | refine aoE (alW tabOk rfl rfl rfl rfl rfl rfl ?_) | refine cdN rfl tI (fun hc => ?_) (fun hc => ?_) | refine blK ?_ | refine exW ?_ | refine skW ?_ | refine rtW ?_ | refine dK2 (by decide +kernel) (by kernel_rfl) (by decide +kernel) rfl (fun K' hK => ?_) | refine dL2 (by kernel_rfl) (by decide +kernel) rfl (fun K' hK => ?_) | (refine aqN (hK _ ?_); clear hK K') | refine aqN ?_ | refine aqQ rfl rfl (fun hg => by first | exact std0 | exact pcW (hh) rfl rfl nd rfl nds | exact pcW (u1) rfl rfl nd rfl nds | exact std1) (by exact rfl) ?_)
   all_goals (first | exact dd | skip)
   exact ⟨.inr rfl, Ent.b rfl⟩
 | true =>
   rw [hu] at u1
   obtain ⟨w1, w2, hf⟩ := use_parts hu
   obtain ⟨b1, b2, b3, b4⟩ := few20_iff.1 w1
   obtain ⟨hok, hmk, hsec, _, _⟩ := form_parts hf
   have h20 : In20 s l sec ex := in20 w1 ht (by omega)
   have c1 := clashes_ok h20 hf
   have hf2 : formB s l sec (s.notes.map (·.id)) = true := by
    refine form_of hok hmk hsec (by rw [lLm]; omega) ?_
    unfold exOk
    rw [zAm, zDc]
    intro x hx
    obtain ⟨n, hn, rfl⟩ := zAi.1 hx
    have := note_in hok hn
    unfold Jo.isId Jo.inR
    simp; omega
   have c2 := clashes_ok (in20' hok b1 b2 b3 (by omega) ht (by rw [lLm]; omega)) hf2
   have hnil : clashes s l sec (s.notes.map (·.id)) = [] := by
    rw [clashes_nil hok, bows_all]
    intro a ha; cases ha
   rw [hnil, zC6] at c2
   have hcx : ∀ g ∈ clashes s l sec ex, ∀ b ∈ g, PCall Tryz.prog 25 [.sl 1 (ex.map eI) .no, .int b.note.id] (.b false) := fun g hgg b hb => by
    have := has20_spec ex hex b.note.id
    have h0 : hasI ex b.note.id = false := by
     cases h : hasI ex b.note.id with
     | false => rfl
     | true => exact absurd (hasI_iff.1 h) (clash_ex hgg hb)
    rwa [h0] at this
   obtain ⟨g1, g2⟩ := clash_small (h20.bows hf)
   generalize clashes s l sec ex = gs at *
   clear hf hf2 hnil h20
   refine PCall.body Tryz.func7 rfl rfl Tryz.ntmps7 rfl rfl ?_
   repeat' (first | refine aoQ rfl rfl rfl (fun hg => by first | exact std0 | exact pcW (hh) rfl rfl nd rfl nds | exact pcW (u1) rfl rfl nd rfl nds | exact pcW (c1) rfl rfl nd rfl nds | exact std1) (by exact rfl) ?_ | refine sqW ?_ | refine rgK (fun K' hK => ?_) | (refine aoN (hK _ _ ?_); clear hK K') | refine aoE (bxW rfl rfl rfl rfl rfl tI rfl rfl ?_) | refine aoE (stW tabOk rfl rfl rfl tI rfl rfl tI rfl rfl rfl rfl rfl rfl rfl ?_) | refine aoE (alW tabOk rfl rfl rfl rfl rfl rfl ?_) | refine cdN rfl tI (fun hc => ?_) (fun hc => ?_) | refine blK ?_ | refine exW ?_ | refine skW ?_ | refine rtW ?_ | refine dK2 (by decide +kernel) (by kernel_rfl) (by decide +kernel) rfl (fun K' hK => ?_) | refine dL2 (by kernel_rfl) (by decide +kernel) rfl (fun K' hK => ?_) | (refine aqN (hK _ ?_); clear hK K') | refine aqN ?_ | refine aqQ rfl rfl (fun hg => by first | exact std0 | exact pcW (hh) rfl rfl nd rfl nds | exact pcW (u1) rfl rfl nd rfl nds | exact pcW (c1) rfl rfl nd rfl nds | exact std1) (by exact rfl) ?_)
   all_goals (first | exact dd | skip)
   clear hh u1 c1
   refine lpD (ι := Nat) (fun i => [(1, .sl 10 (l.map encMk) .no), (2, .int sec), (3, .sl 1 (ex.map eI) .no), (4, .ptr 0 0), (9, .b true), (11, .int 0), (36, .sl 3 (gs.map clE) .no), (37, .int gs.length), (38, .int i)]) (fun _ => [.var (encS s)])
    (fun i => i ≤ gs.length) (fun i => gs.length - i) 1 (fun _ => rfl) 0 (nZl _) ⟨rfl, rfl, rfl, rfl, rfl, rfl, rfl, rfl, rfl, tI⟩ rfl (fun _ _ => rfl) (fun _ _ => rfl) ?_
   intro i hi
   by_cases hlt : i < gs.length
   · obtain ⟨g, hgg⟩ : ∃ g, gs.getD i default = g := ⟨_, rfl⟩
     have hgm : g ∈ gs := by rw [← hgg]; exact getD_mem hlt
     have hgl := g2 g hgm
     repeat' (first | refine aoQ rfl rfl rfl (fun hg => by first | exact iX clE gs ((i : Nat) : Int) hgg (hb := by omega) | exact std0 | exact std1) (by exact rfl) ?_ | refine sqW ?_ | refine rgK (fun K' hK => ?_) | (refine aoN (hK _ _ ?_); clear hK K') | refine aoE (bxW rfl rfl rfl rfl rfl tI rfl rfl ?_) | refine aoE (stW tabOk rfl rfl rfl tI rfl rfl tI rfl rfl rfl rfl rfl rfl rfl ?_) | refine aoE (alW tabOk rfl rfl rfl rfl rfl rfl ?_) | refine cdN rfl tI (fun hc => ?_) (fun hc => ?_) | refine blK ?_ | refine exW ?_ | refine skW ?_ | refine rtW ?_ | refine dK2 (by decide +kernel) (by kernel_rfl) (by decide +kernel) rfl (fun K' hK => ?_) | refine dL2 (by kernel_rfl) (by decide +kernel) rfl (fun K' hK => ?_) | (refine aqN (hK _ ?_); clear hK K') | refine aqN ?_ | refine aqQ rfl rfl (fun hg => by first | exact iX clE gs ((i : Nat) : Int) hgg (hb := by omega) | exact std0 | exact std1) (by exact rfl) ?_)
     all_goals (first | exact dd | skip)
     refine lpD (ι := Nat) (fun j => [(1, .sl 10 (l.map encMk) .no), (2, .int sec), (3, .sl 1 (ex.map eI) .no), (4, .ptr 0 0), (9, .b true), (11, .int 0), (36, .sl 3 (gs.map clE) .no), (37, .int gs.length), (38, .int i), (43, .sl 1 (g.map fun b => eI b.note.id) .no), (44, .int g.length), (45, .int j)]) (fun _ => [.var (encS s), .var (clE g)])
      (fun j => j ≤ g.length) (fun j => g.length - j) 2 (fun _ => rfl) 0 (nZl _) ⟨rfl, rfl, rfl, rfl, rfl, rfl, rfl, rfl, rfl, rfl, rfl, rfl, tI⟩ rfl (fun _ _ => rfl) (fun _ _ => rfl) ?_
     intro j hj
     by_cases hjl : j < g.length
     · obtain ⟨b, hb⟩ : ∃ b, g.getD j default = b := ⟨_, rfl⟩
       have hx := hcx g hgm b (by rw [← hb]; exact getD_mem hjl)
       repeat' (first | refine aoQ rfl rfl rfl (fun hg => by first | exact PRun.eq (v := .iptr (((fun b : Bow => eI b.note.id)) (g.getD ((j : Nat) : Int).toNat default))) (piW tabOk rfl rfl nd rfl nd rfl rfl (by omega)) (congrArg (fun x => AV.iptr (((fun b : Bow => eI b.note.id)) x)) (show g.getD ((j : Nat) : Int).toNat default = b from hb)) | exact std0 | exact pcW (hx) rfl rfl nd rfl nds | exact std1) (by exact rfl) ?_ | refine sqW ?_ | refine rgK (fun K' hK => ?_) | (refine aoN (hK _ _ ?_); clear hK K') | refine aoE (bxW rfl rfl rfl rfl rfl tI rfl rfl ?_) | refine aoE (stW tabOk rfl rfl rfl tI rfl rfl tI rfl rfl rfl rfl rfl rfl rfl ?_) | refine aoE (alW tabOk rfl rfl rfl rfl rfl rfl ?_) | refine cdN rfl tI (fun hc => ?_) (fun hc => ?_) | refine blK ?_ | refine exW ?_ | refine skW ?_ | refine rtW ?_ | refine dK2 (by decide +kernel) (by kernel_rfl) (by decide +kernel) rfl (fun K' hK => ?_) | refine dL2 (by kernel_rfl) (by decide +kernel) rfl (fun K' hK => ?_) | (refine aqN (hK _ ?_); clear hK K') | refine aqN ?_ | refine aqQ rfl rfl (fun hg => by first | exact PRun.eq (v := .iptr (((fun b : Bow => eI b.note.id)) (g.getD ((j : Nat) : Int).toNat default))) (piW tabOk rfl rfl nd rfl nd rfl rfl (by omega)) (congrArg (fun x => AV.iptr (((fun b : Bow => eI b.note.id)) x)) (show g.getD ((j : Nat) : Int).toNat default = b from hb)) | exact std0 | exact pcW (hx) rfl rfl nd rfl nds | exact std1) (by exact rfl) ?_)
       all_goals (first | exact dd | skip)
       exact ⟨j + 1, hjl, by show g.length - (j + 1) < g.length - j; omega, ⟨rfl, rfl, rfl, rfl, rfl, rfl, rfl, rfl, rfl, rfl, rfl, rfl, tI⟩, rfl⟩
     · obtain rfl : j = g.length := by omega
       repeat' (first | refine aoQ rfl rfl rfl (fun hg => by first | exact std0 | exact std1) (by exact rfl) ?_ | refine sqW ?_ | refine rgK (fun K' hK => ?_) | (refine aoN (hK _ _ ?_); clear hK K') | refine aoE (bxW rfl rfl rfl rfl rfl tI rfl rfl ?_) | refine aoE (stW tabOk rfl rfl rfl tI rfl rfl tI rfl rfl rfl rfl rfl rfl rfl ?_) | refine aoE (alW tabOk rfl rfl rfl rfl rfl rfl ?_) | refine cdN rfl tI (fun hc => ?_) (fun hc => ?_) | refine blK ?_ | refine exW ?_ | refine skW ?_ | refine rtW ?_ | refine dK2 (by decide +kernel) (by kernel_rfl) (by decide +kernel) rfl (fun K' hK => ?_) | refine dL2 (by kernel_rfl) (by decide +kernel) rfl (fun K' hK => ?_) | (refine aqN (hK _ ?_); clear hK K') | refine aqN ?_ | refine aqQ rfl rfl (fun hg => by first | exact std0 | exact std1) (by exact rfl) ?_)
       all_goals (first | exact dd | skip)
       exact ⟨i + 1, hlt, by show gs.length - (i + 1) < gs.length - i; omega, ⟨rfl, rfl, rfl, rfl, rfl, rfl, rfl, rfl, rfl, tI⟩, rfl⟩
   · obtain rfl : i = gs.length := by omega
     clear hcx hlt hi
     repeat' (first | refine aoQ rfl rfl rfl (fun hg => by first | exact std0 | exact std1) (by exact rfl) ?_ | refine sqW ?_ | refine rgK (fun K' hK => ?_) | (refine aoN (hK _ _ ?_); clear hK K') | refine aoE (bxW rfl rfl rfl rfl rfl tI rfl rfl ?_) | refine aoE (stW tabOk rfl rfl rfl tI rfl rfl tI rfl rfl rfl rfl rfl rfl rfl ?_) | refine aoE (alW tabOk rfl rfl rfl rfl rfl rfl ?_) | refine cdN rfl tI (fun hc => ?_) (fun hc => ?_) | refine blK ?_ | refine exW ?_ | refine skW ?_ | refine rtW ?_ | refine dK2 (by decide +kernel) (by kernel_rfl) (by decide +kernel) rfl (fun K' hK => ?_) | refine dL2 (by kernel_rfl) (by decide +kernel) rfl (fun K' hK => ?_) | (refine aqN (hK _ ?_); clear hK K') | refine aqN ?_ | refine aqQ rfl rfl (fun hg => by first | exact std0 | exact std1) (by exact rfl) ?_)
     all_goals (first | exact dd | skip)
     refine AWP.ownNil (d := 16) (sz := 1) rfl ?_
     refine lpD (ι := Nat) (fun i => [(1, .sl 10 (l.map encMk) .no), (2, .int sec), (4, .ptr 0 0), (9, .b true), (11, .int 0), (16, .sl 1 ((s.notes.take i).map fun n => eI n.id) (.own 1)), (17, .int i)]) (fun i => [.var (encS s), .own 1 ((s.notes.take i).map fun n => eI n.id).length])
      (fun i => i ≤ s.notes.length) (fun i => s.notes.length - i) 2 (fun _ => rfl) 0 (nZl _) ⟨rfl, rfl, rfl, rfl, rfl, rfl, rfl, tI⟩ rfl (fun _ _ => rfl) (fun _ _ => rfl) ?_
     intro i hi
     by_cases hlt : i < s.notes.length
     · obtain ⟨n, hn⟩ : ∃ n, s.notes.getD i default = n := ⟨_, rfl⟩
       have hst : (s.notes.take (i + 1)).map (fun n => eI n.id) = (s.notes.take i).map (fun n => eI n.id) ++ [eI n.id] := by rw [takeS' hlt, hn, zAe]; rfl
       have hlen : ((s.notes.take i).map fun n => eI n.id).length = i := by rw [lLm, zAc]; omega
       generalize (s.notes.take i).map (fun n => eI n.id) = A at *
       repeat' (first | refine aoQ rfl rfl rfl (fun hg => by first | exact iX encN s.notes ((i : Nat) : Int) hn (hb := by omega) | exact std0 | exact pbS tabOk rfl rfl nds | exact std1) (by exact rfl) ?_ | refine sqW ?_ | refine rgK (fun K' hK => ?_) | (refine aoN (hK _ _ ?_); clear hK K') | refine aoE (bxW rfl rfl rfl rfl rfl tI rfl rfl ?_) | refine aoE (stW tabOk rfl rfl rfl tI rfl rfl tI rfl rfl rfl rfl rfl rfl rfl ?_) | refine aoE (alW tabOk rfl rfl rfl rfl rfl rfl ?_) | refine aoE (apO tabOk rfl rfl rfl (by decide) (Rd.w rfl tI) rfl (Rd.w rfl tI) (.sl rfl (by first | (intro x hx; rcases zAl.1 hx with rfl; rfl) | exact one_eI [n.id])) (LOk.of (tabOk.get rfl)) (LOk.of (tabOk.get rfl)) rfl rfl (by simp only [lLm, lLa, zA5, zAb, zAc, zAx]; omega) (by simp only [lLm, lLa, zA5, zAb, zAc, zAx]; omega) ?_) | refine cdN rfl tI (fun hc => ?_) (fun hc => ?_) | refine blK ?_ | refine exW ?_ | refine skW ?_ | refine rtW ?_ | refine dK2 (by decide +kernel) (by kernel_rfl) (by decide +kernel) rfl (fun K' hK => ?_) | refine dL2 (by kernel_rfl) (by decide +kernel) rfl (fun K' hK => ?_) | (refine aqN (hK _ ?_); clear hK K') | refine aqN ?_ | refine aqQ rfl rfl (fun hg => by first | exact iX encN s.notes ((i : Nat) : Int) hn (hb := by omega) | exact std0 | exact pbS tabOk rfl rfl nds | exact std1) (by exact rfl) ?_)
       all_goals (first | exact dd | skip)
       exact ⟨i + 1, hlt, by show s.notes.length - (i + 1) < s.notes.length - i; omega, ⟨rfl, rfl, rfl, rfl, rfl, (by rw [hst]; rfl), rfl, tI⟩, by rw [hst]; rfl⟩
     · obtain rfl : i = s.notes.length := by omega
       rw [zAr]
       repeat' (first | refine aoQ rfl rfl rfl (fun hg => by first | exact std0 | exact pcW (c2) rfl rfl nd rfl nds | exact std1) (by exact rfl) ?_ | refine sqW ?_ | refine rgK (fun K' hK => ?_) | (refine aoN (hK _ _ ?_); clear hK K') | refine aoE (bxW rfl rfl rfl rfl rfl tI rfl rfl ?_) | refine aoE (stW tabOk rfl rfl rfl tI rfl rfl tI rfl rfl rfl rfl rfl rfl rfl ?_) | refine aoE (alW tabOk rfl rfl rfl rfl rfl rfl ?_) | refine cdN rfl tI (fun hc => ?_) (fun hc => ?_) | refine blK ?_ | refine exW ?_ | refine skW ?_ | refine rtW ?_ | refine dK2 (by decide +kernel) (by kernel_rfl) (by decide +kernel) rfl (fun K' hK => ?_) | refine dL2 (by kernel_rfl) (by decide +kernel) rfl (fun K' hK => ?_) | (refine aqN (hK _ ?_); clear hK K') | refine aqN ?_ | refine aqQ rfl rfl (fun hg => by first | exact std0 | exact pcW (c2) rfl rfl nd rfl nds | exact std1) (by exact rfl) ?_)
       all_goals (first | exact dd | skip)
       exact ⟨.inr rfl, Ent.b rfl⟩
end Go.Proofs.YtficfljjnbnhbaaGreatDoor.Bw
