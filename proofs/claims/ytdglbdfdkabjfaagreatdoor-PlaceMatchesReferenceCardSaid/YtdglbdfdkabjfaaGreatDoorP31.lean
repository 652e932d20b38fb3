/- Contracts by content: place of the reference: Resolve.  Contracts by content: place of the reference: number, Moment.  Contracts by content: place of the reference: letter. No statement is proved here. -/
import Derived.Test.YtdglbdfdkabjfaaGreatDoorP30
set_option linter.unusedVariables false
set_option linter.unusedSimpArgs false
namespace Go.Proofs.YtdglbdfdkabjfaaGreatDoor.Pl
open Go.Ab Go.Pl
attribute [local irreducible] AWP AOps EStep AQ PStep PRun PCall TCall VCall
set_option maxHeartbeats 4000000 in
set_option maxRecDepth 20000 in
theorem resolve31_spec (s : Score) (hs : s.Small) (e : Ed.Edition) (hw : Ed.Wf e) (r : Room) (hf : FIn r.form) (c : Call) :
 PCall Tryz.prog 12 [.agg (encS s), .agg (Ed.encE e), .agg (encRm r), .agg (encCl c)] (.tup [.agg (encMo (resolve s e r c).1), .int (resolve s e r c).2]) := by
 have h1 := right31_spec s hs e r hf
 have h2 := cvalid29_spec c
 have h3 := named31_spec e hw c
 have h4 := Ed.visit11_spec e hw ((named e c).1 + c.bars) c.pass
 have hel := hw.bars
 by_cases hok : (rightB s e r && callOk c) = false
 · rw [show resolve s e r c = (noMom, 1) by unfold resolve; rw [if_pos hok]]
   generalize rightB s e r = a at *
   generalize callOk c = b at *
   refine PCall.bodyS tabOk Tryz.func12 rfl rfl Tryz.ntmps12 rfl ?_
   repeat' (first | refine aoQ rfl rfl rfl (fun hg => by first | exact std0 | exact pcW (h1) rfl rfl nd rfl nds | exact pcW (h2) rfl rfl nd rfl nds | fail) (by exact rfl) ?_ | refine sqW ?_ | refine rgK (fun K' hK => ?_) | (refine aoN (hK _ _ ?_); clear hK K') | refine aoE (bxW rfl rfl rfl rfl rfl tI rfl rfl ?_) | refine aoE (alW tabOk rfl rfl rfl rfl rfl rfl ?_))
   refine cdW rfl tI (fun hc => ?_) (fun hc => absurd hok (by revert hc; cases a <;> cases b <;> decide))
   repeat' (first | refine aoQ rfl rfl rfl (fun hg => by first | exact std0 | exact pbD tabOk rfl rfl nds | fail) (by exact rfl) ?_ | refine sqW ?_ | refine rgK (fun K' hK => ?_) | (refine aoN (hK _ _ ?_); clear hK K') | refine aoE (stW tabOk rfl rfl rfl tI rfl rfl tI rfl rfl rfl rfl rfl rfl rfl ?_) | refine rtW ?_)
   exact ⟨.inr rfl, _, rfl, Ent.of rfl⟩
 · have hok2 : rightB s e r = true ∧ callOk c = true := by simpa using hok
   obtain ⟨hr, hco⟩ := hok2
   obtain ⟨hsc, hfm, hform, hbars, _⟩ := right_parts hr
   obtain ⟨_, hdur, hcb, hcp⟩ := call_parts hco
   have e1 : resolve s e r c = if (named e c).2 ≠ 0 then (noMom, (named e c).2)
    else if (decide (0 ≤ (named e c).1 + c.bars) && decide ((named e c).1 + c.bars < (e.bars.length : Int))) = false then (noMom, 21)
    else if (Ed.viR e ((named e c).1 + c.bars) c.pass).err ≠ 0 then (noMom, (Ed.viR e ((named e c).1 + c.bars) c.pass).err)
    else if reason s r ⟨(Ed.viR e ((named e c).1 + c.bars) c.pass).bar, (Ed.viR e ((named e c).1 + c.bars) c.pass).pass, c.beat⟩ ≠ 0 then
     (noMom, reason s r ⟨(Ed.viR e ((named e c).1 + c.bars) c.pass).bar, (Ed.viR e ((named e c).1 + c.bars) c.pass).pass, c.beat⟩)
    else (⟨(Ed.viR e ((named e c).1 + c.bars) c.pass).bar, (Ed.viR e ((named e c).1 + c.bars) c.pass).pass, c.beat⟩, 0) := by
    unfold resolve; rw [if_neg hok]
   rw [e1]
   rw [hr] at h1
   rw [hco] at h2
   have hni : 0 ≤ (named e c).1 ∧ (named e c).1 ≤ 4000 := by
    unfold named
    split
    · exact letR_in hfm _
    · exact numR_in hfm _
   generalize hNN : named e c = NN at *
   obtain ⟨ni, nx⟩ := NN
   dsimp only at *
   have h5 := fun m hd => reason31_spec s hs hsc r hf hform m hd
   generalize Ed.viR e (ni + c.bars) c.pass = V at *
   obtain ⟨vb, vp, ve⟩ := V
   dsimp only
   change PCall _ _ _ (.tup [.agg [.int vb, .int vp], .int ve]) at h4
   have h6 := h5 ⟨vb, vp, c.beat⟩ hdur
   clear h5
   generalize reason s r ⟨vb, vp, c.beat⟩ = q at *
   refine PCall.bodyS tabOk Tryz.func12 rfl rfl Tryz.ntmps12 rfl ?_
   repeat' (first | refine aoQ rfl rfl rfl (fun hg => by first | exact std0 | exact pcW (h1) rfl rfl nd rfl nds | exact pcW (h2) rfl rfl nd rfl nds | fail) (by exact rfl) ?_ | refine sqW ?_ | refine rgK (fun K' hK => ?_) | (refine aoN (hK _ _ ?_); clear hK K') | refine aoE (bxW rfl rfl rfl rfl rfl tI rfl rfl ?_) | refine aoE (alW tabOk rfl rfl rfl rfl rfl rfl ?_))
   refine cdW rfl tI (fun hc => absurd hc (by decide)) (fun hc => ?_)
   repeat' (first | refine aoQ rfl rfl rfl (fun hg => by first | exact std0 | exact pcW (h3) rfl rfl nd rfl nds | fail) (by exact rfl) ?_ | refine sqW ?_ | refine rgK (fun K' hK => ?_) | (refine aoN (hK _ _ ?_); clear hK K') | refine skW ?_)
   by_cases hx : nx ≠ 0
   · rw [if_pos hx]
     refine cdW rfl tI (fun hc => ?_) (fun hc => absurd hc (by simp; exact hx))
     repeat' (first | refine aoQ rfl rfl rfl (fun hg => by first | exact std0 | exact pbD tabOk rfl rfl nds | fail) (by exact rfl) ?_ | refine sqW ?_ | refine rgK (fun K' hK => ?_) | (refine aoN (hK _ _ ?_); clear hK K') | refine aoE (stW tabOk rfl rfl rfl tI rfl rfl tI rfl rfl rfl rfl rfl rfl rfl ?_) | refine rtW ?_)
     exact ⟨.inr rfl, _, rfl, Ent.of rfl⟩
   · rw [if_neg hx]
     refine cdW rfl tI (fun hc => absurd hc (by simpa using hx)) (fun hc => ?_)
     repeat' (first | refine aoQ rfl rfl rfl (fun hg => by first | exact std0 | exact std1) (by exact rfl) ?_ | refine sqW ?_ | refine rgK (fun K' hK => ?_) | (refine aoN (hK _ _ ?_); clear hK K') | refine skW ?_)
     by_cases hin : (decide (0 ≤ ni + c.bars) && decide (ni + c.bars < (e.bars.length : Int))) = false
     · rw [if_pos hin]
       refine cdW rfl tI (fun hc => ?_) (fun hc => absurd hin (by simp at hc ⊢; omega))
       repeat' (first | refine aoQ rfl rfl rfl (fun hg => by first | exact std0 | exact pbD tabOk rfl rfl nds | fail) (by exact rfl) ?_ | refine sqW ?_ | refine rgK (fun K' hK => ?_) | (refine aoN (hK _ _ ?_); clear hK K') | refine aoE (stW tabOk rfl rfl rfl tI rfl rfl tI rfl rfl rfl rfl rfl rfl rfl ?_) | refine rtW ?_)
       exact ⟨.inr rfl, _, rfl, Ent.of rfl⟩
     · rw [if_neg hin]
       have hin2 : 0 ≤ ni + c.bars ∧ ni + c.bars < (e.bars.length : Int) := by simpa using hin
       refine cdW rfl tI (fun hc => absurd hc (by simp; omega)) (fun hc => ?_)
       repeat' (first | refine aoQ rfl rfl rfl (fun hg => by first | exact std0 | exact pcW (h4) rfl rfl nd rfl nds | fail) (by exact rfl) ?_ | refine sqW ?_ | refine rgK (fun K' hK => ?_) | (refine aoN (hK _ _ ?_); clear hK K') | refine aoE (stW tabOk rfl rfl rfl tI rfl rfl tI rfl rfl rfl rfl rfl rfl rfl ?_) | refine aoE (alW tabOk rfl rfl rfl rfl rfl rfl ?_) | refine skW ?_)
       by_cases hve : ve ≠ 0
       · rw [if_pos hve]
         refine cdW rfl tI (fun hc => ?_) (fun hc => absurd hc (by simp; exact hve))
         repeat' (first | refine aoQ rfl rfl rfl (fun hg => by first | exact std0 | exact pbD tabOk rfl rfl nds | fail) (by exact rfl) ?_ | refine sqW ?_ | refine rgK (fun K' hK => ?_) | (refine aoN (hK _ _ ?_); clear hK K') | refine aoE (stW tabOk rfl rfl rfl tI rfl rfl tI rfl rfl rfl rfl rfl rfl rfl ?_) | refine rtW ?_)
         exact ⟨.inr rfl, _, rfl, Ent.of rfl⟩
       · rw [if_neg hve]
         refine cdW rfl tI (fun hc => absurd hc (by simpa using hve)) (fun hc => ?_)
         repeat' (first | refine aoQ rfl rfl rfl (fun hg => by first | exact std0 | exact pcW (h6) rfl rfl nd rfl nds | exact pbD tabOk rfl rfl nds | fail) (by exact rfl) ?_ | refine sqW ?_ | refine rgK (fun K' hK => ?_) | (refine aoN (hK _ _ ?_); clear hK K') | refine aoE (stW tabOk rfl rfl rfl tI rfl rfl tI rfl rfl rfl rfl rfl rfl rfl ?_) | refine aoE (alW tabOk rfl rfl rfl rfl rfl rfl ?_) | refine skW ?_)
         by_cases hq : q ≠ 0
         · rw [if_pos hq]
           refine cdW rfl tI (fun hc => ?_) (fun hc => absurd hc (by simp; exact hq))
           repeat' (first | refine aoQ rfl rfl rfl (fun hg => by first | exact std0 | exact pbD tabOk rfl rfl nds | fail) (by exact rfl) ?_ | refine sqW ?_ | refine rgK (fun K' hK => ?_) | (refine aoN (hK _ _ ?_); clear hK K') | refine aoE (stW tabOk rfl rfl rfl tI rfl rfl tI rfl rfl rfl rfl rfl rfl rfl ?_) | refine rtW ?_)
           exact ⟨.inr rfl, _, rfl, Ent.of rfl⟩
         · rw [if_neg hq]
           refine cdW rfl tI (fun hc => absurd hc (by simpa using hq)) (fun hc => ?_)
           repeat' (first | refine aoQ rfl rfl rfl (fun hg => by exact std0) (by exact rfl) ?_ | refine sqW ?_ | refine rgK (fun K' hK => ?_) | (refine aoN (hK _ _ ?_); clear hK K') | refine aoE (stW tabOk rfl rfl rfl tI rfl rfl tI rfl rfl rfl rfl rfl rfl rfl ?_) | refine skW ?_ | refine rtW ?_)
           exact ⟨.inr rfl, _, rfl, Ent.of rfl⟩
theorem goUp_end {e : Ed.Edition} {k : Int} (h : (e.bars.length : Int) ≤ k) : ∀ n, goUp e n k = -1
 | 0 => rfl
 | n + 1 => by rw [goUp_succ, if_pos h]
theorem goDown_end {e : Ed.Edition} {k : Int} (h : k < 0) : ∀ n, goDown e n k = -1
 | 0 => rfl
 | n + 1 => by rw [goDown_succ, if_pos h]
set_option maxHeartbeats 2000000 in
theorem up31_spec (e : Ed.Edition) (hb : e.bars.length ≤ 1000000) (i : Nat) (hi : i < e.bars.length) : PCall Tryz.prog 113 [.agg (Ed.encE e), .int i, .b true] (.int (goUp e 1000 ((i : Int) + 1))) := by
 obtain ⟨G, hG⟩ : ∃ G, goUp e 1000 ((i : Int) + 1) = G := ⟨_, rfl⟩
 rw [hG]
 refine PCall.body Tryz.func113 rfl rfl Tryz.ntmps113 rfl rfl ?_
 repeat' (first | refine aoQ rfl rfl rfl (fun hg => by exact std0) (by exact rfl) ?_ | refine sqW ?_ | refine rgK (fun K' hK => ?_) | (refine aoN (hK _ _ ?_); clear hK K') | refine aoE (bxW rfl rfl rfl rfl rfl tI rfl rfl ?_))
 refine cdW rfl tI (fun hc => ?_) (fun hc => absurd hc (by decide))
 repeat' (first | refine aoQ rfl rfl rfl (fun hg => by exact std0) (by exact rfl) ?_ | refine sqW ?_ | refine rgK (fun K' hK => ?_) | (refine aoN (hK _ _ ?_); clear hK K') | refine blK ?_)
 refine lpD (ι := Nat) (fun k => [(1, .int i), (3, .ptr 0 0), (7, .int k)]) (fun _ => [.var (Ed.encE e)])
  (fun k => i + 1 ≤ k ∧ k ≤ i + 1001 ∧ G = goUp e (i + 1001 - k) k) (fun k => i + 1001 - k) 1 (fun _ => rfl) (i + 1) ⟨by omega, by omega, by rw [show i + 1001 - (i + 1) = 1000 by omega, ← hG]; rfl⟩ ⟨rfl, rfl, rfl, tI⟩ rfl (fun _ _ => rfl) (fun _ _ => rfl) ?_
 rintro k ⟨hk1, hk2, hk3⟩
 by_cases hlt : k < e.bars.length ∧ k ≤ i + 1000
 · obtain ⟨n, hn⟩ : ∃ n, i + 1001 - k = n + 1 := ⟨i + 1000 - k, by omega⟩
   rw [hn, goUp_succ, if_neg (by omega)] at hk3
   have h1 := once31_spec e (by omega) k hlt.1
   cases ho : onceP e k with
   | true =>
     rw [ho] at h1 hk3
     repeat' (first | refine aoQ rfl rfl rfl (fun hg => by first | exact std0 | exact pcW (h1) rfl rfl nd rfl nds | exact std1) (by exact rfl) ?_ | refine sqW ?_ | refine rgK (fun K' hK => ?_) | (refine aoN (hK _ _ ?_); clear hK K') | (refine cdN rfl tI (fun hc => ?_) (fun hc => ?_) <;> try simp only [dEt] at hc) | refine blK ?_ | refine exW ?_ | refine skW ?_ | refine rtW ?_)
     all_goals (first | (exact absurd hc (by decide)) | (exfalso; simp at hc; omega) | (exfalso; omega) | skip)
     rw [hk3]
     exact ⟨.inr rfl, Ent.of rfl⟩
   | false =>
     rw [ho] at h1 hk3
     repeat' (first | refine aoQ rfl rfl rfl (fun hg => by first | exact std0 | exact pcW (h1) rfl rfl nd rfl nds | exact std1) (by exact rfl) ?_ | refine sqW ?_ | refine rgK (fun K' hK => ?_) | (refine aoN (hK _ _ ?_); clear hK K') | (refine cdN rfl tI (fun hc => ?_) (fun hc => ?_) <;> try simp only [dEt] at hc) | refine blK ?_ | refine exW ?_ | refine skW ?_ | refine rtW ?_)
     all_goals (first | (exact absurd hc (by decide)) | (exfalso; simp at hc; omega) | (exfalso; omega) | skip)
     refine ⟨k + 1, ⟨by omega, by omega, ?_⟩, by omega, ⟨rfl, rfl, rfl, tI⟩, rfl⟩
     rw [hk3, show i + 1001 - (k + 1) = n by omega]; rfl
 · have hg : G = -1 := by
    rw [hk3]
    by_cases h9 : k < e.bars.length
    · rw [show i + 1001 - k = 0 by omega]; rfl
    · exact goUp_end (by omega) _
   repeat' (first | refine aoQ rfl rfl rfl (fun hg => by first | exact std0 | exact std1) (by exact rfl) ?_ | refine sqW ?_ | refine rgK (fun K' hK => ?_) | (refine aoN (hK _ _ ?_); clear hK K') | (refine cdN rfl tI (fun hc => ?_) (fun hc => ?_) <;> try simp only [dEt] at hc) | refine blK ?_ | refine exW ?_ | refine skW ?_ | refine rtW ?_)
   all_goals (first | (exfalso; simp at hc; omega) | (exfalso; omega) | skip)
   rw [hg]
   exact ⟨.inr rfl, Ent.of rfl⟩
set_option maxHeartbeats 2000000 in
theorem down31_spec (e : Ed.Edition) (hb : e.bars.length ≤ 1000000) (i : Nat) (hi : i < e.bars.length) : PCall Tryz.prog 113 [.agg (Ed.encE e), .int i, .b false] (.int (goDown e 1001 i)) := by
 obtain ⟨G, hG⟩ : ∃ G, goDown e 1001 i = G := ⟨_, rfl⟩
 rw [hG]
 refine PCall.body Tryz.func113 rfl rfl Tryz.ntmps113 rfl rfl ?_
 repeat' (first | refine aoQ rfl rfl rfl (fun hg => by exact std0) (by exact rfl) ?_ | refine sqW ?_ | refine rgK (fun K' hK => ?_) | (refine aoN (hK _ _ ?_); clear hK K') | refine aoE (bxW rfl rfl rfl rfl rfl tI rfl rfl ?_))
 refine cdW rfl tI (fun hc => absurd hc (by decide)) (fun hc => ?_)
 repeat' (first | refine aoQ rfl rfl rfl (fun hg => by exact std0) (by exact rfl) ?_ | refine sqW ?_ | refine rgK (fun K' hK => ?_) | (refine aoN (hK _ _ ?_); clear hK K') | refine blK ?_ | refine skW ?_)
 refine lpD (ι := Nat) (fun j => [(1, .int i), (3, .ptr 0 0), (8, .int ((i : Int) - j))]) (fun _ => [.var (Ed.encE e)])
  (fun j => j ≤ i + 1 ∧ j ≤ 1001 ∧ G = goDown e (1001 - j) ((i : Int) - j)) (fun j => 1001 - j) 1 (fun _ => rfl) 0 ⟨by omega, by omega, by rw [← hG]; simp⟩ ⟨rfl, rfl, by show AV.int _ = AV.int _; congr 1; try omega, tI⟩ rfl (fun _ _ => rfl) (fun _ _ => rfl) ?_
 rintro j ⟨hk1, hk2, hk3⟩
 by_cases hlt : j ≤ i ∧ j ≤ 1000
 · obtain ⟨n, hn⟩ : ∃ n, 1001 - j = n + 1 := ⟨1000 - j, by omega⟩
   obtain ⟨k, hk⟩ : ∃ k : Nat, (i : Int) - j = k := ⟨i - j, by omega⟩
   rw [hn, hk, goDown_succ, if_neg (by omega)] at hk3
   have h1 := once31_spec e (by omega) k (by omega)
   rw [hk]
   cases ho : onceP e k with
   | true =>
     rw [ho] at h1 hk3
     repeat' (first | refine aoQ rfl rfl rfl (fun hg => by first | exact std0 | exact pcW (h1) rfl rfl nd rfl nds | fail) (by exact rfl) ?_ | refine sqW ?_ | refine rgK (fun K' hK => ?_) | (refine aoN (hK _ _ ?_); clear hK K') | (refine cdN rfl tI (fun hc => ?_) (fun hc => ?_) <;> try simp only [dEt] at hc) | refine blK ?_ | refine exW ?_ | refine skW ?_ | refine rtW ?_)
     all_goals (first | (exact absurd hc (by decide)) | (exfalso; simp at hc; omega) | (exfalso; omega) | skip)
     rw [hk3]
     exact ⟨.inr rfl, Ent.of rfl⟩
   | false =>
     rw [ho] at h1 hk3
     repeat' (first | refine aoQ rfl rfl rfl (fun hg => by first | exact std0 | exact pcW (h1) rfl rfl nd rfl nds | fail) (by exact rfl) ?_ | refine sqW ?_ | refine rgK (fun K' hK => ?_) | (refine aoN (hK _ _ ?_); clear hK K') | (refine cdN rfl tI (fun hc => ?_) (fun hc => ?_) <;> try simp only [dEt] at hc) | refine blK ?_ | refine exW ?_ | refine skW ?_ | refine rtW ?_)
     all_goals (first | (exact absurd hc (by decide)) | (exfalso; simp at hc; omega) | (exfalso; omega) | skip)
     refine ⟨j + 1, ⟨by omega, by omega, ?_⟩, by omega, ⟨rfl, rfl, by show AV.int _ = AV.int _; congr 1; try omega, tI⟩, rfl⟩
     rw [hk3, show 1001 - (j + 1) = n by omega, show (i : Int) - ((j + 1 : Nat) : Int) = (k : Int) - 1 by omega]; rfl
 · have hg : G = -1 := by
    rw [hk3]
    by_cases h9 : j ≤ i
    · rw [show 1001 - j = 0 by omega]; rfl
    · exact goDown_end (by omega) _
   repeat' (first | refine aoQ rfl rfl rfl (fun hg => by exact std0) (by exact rfl) ?_ | refine sqW ?_ | refine rgK (fun K' hK => ?_) | (refine aoN (hK _ _ ?_); clear hK K') | (refine cdN rfl tI (fun hc => ?_) (fun hc => ?_) <;> try simp only [dEt] at hc) | refine blK ?_ | refine exW ?_ | refine skW ?_ | refine rtW ?_)
   all_goals (first | (exfalso; simp at hc; omega) | (exfalso; omega) | skip)
   rw [hg]
   exact ⟨.inr rfl, Ent.of rfl⟩
set_option maxHeartbeats 4000000 in
set_option maxRecDepth 20000 in
theorem after31_spec (e : Ed.Edition) (hl : e.letters.length ≤ 1000000) (hp : ∀ k, k < e.letters.length → 0 ≤ (e.letters.getD k default).pos ∧ (e.letters.getD k default).pos ≤ 4000) (i : Int) (hi : 0 ≤ i ∧ i ≤ 4000) :
 PCall Tryz.prog 112 [.agg (Ed.encE e), .int i, .b true] (.int (bestL e i false e.letters.length)) := by
 refine PCall.body Tryz.func112 rfl rfl Tryz.ntmps112 rfl rfl ?_
 repeat' (first | refine aoQ rfl rfl rfl (fun hg => by exact std0) (by exact rfl) ?_ | refine sqW ?_ | refine rgK (fun K' hK => ?_) | (refine aoN (hK _ _ ?_); clear hK K') | refine aoE (bxW rfl rfl rfl rfl rfl tI rfl rfl ?_) | refine blK ?_)
 refine lpD (ι := Nat) (fun k => [(1, .int i), (2, .b true), (3, .ptr 0 0), (7, .int (bestL e i false k)), (8, .int k)]) (fun _ => [.var (Ed.encE e)])
  (fun k => k ≤ e.letters.length) (fun k => e.letters.length - k) 1 (fun _ => rfl) 0 (nZl _) ⟨rfl, rfl, rfl, rfl, rfl, tI⟩ rfl (fun _ _ => rfl) (fun _ _ => rfl) ?_
 intro k hk
 by_cases hlt : k < e.letters.length
 · have hin := bestL_in (e := e) (i := i) (before := false) k hk
   have hs := bestL_succ e i false k
   obtain ⟨L, hL⟩ : ∃ L, e.letters.getD k default = L := ⟨_, rfl⟩
   have hpk := hp k hlt
   rw [hL] at hs hpk
   have hside : sideL i false L = (decide (L.pos ≤ i) || decide (L.pos > i + 1000)) := by
    unfold sideL
    rw [zAl]
    simp
    omega
   rw [hside] at hs
   rcases hin with hb | ⟨j, hb, hjk, hjs⟩
   · rw [hb] at hs ⊢
     repeat' (first | refine aoQ rfl rfl rfl (fun hg => by first | exact PRun.eq (v := .iptr (Ed.encL (e.letters.getD ((k : Nat) : Int).toNat default))) (piW tabOk rfl rfl nd rfl nd rfl rfl (by omega)) (congrArg (fun x => AV.iptr (Ed.encL x)) (show e.letters.getD ((k : Nat) : Int).toNat default = L from hL)) | exact std0 | exact (Bool.noConfusion (show false = true from hg) : PRun _ _ _ _ (.b false)) | exact std1) (by exact rfl) ?_ | refine sqW ?_ | refine rgK (fun K' hK => ?_) | (refine aoN (hK _ _ ?_); clear hK K') | (refine cdW rfl tI (fun hc => ?_) (fun hc => ?_) <;> (first | (simp only [dEt] at hc) | (simp only [dEf, iNl, iNe] at hc) | skip)) | refine blK ?_ | refine exW ?_ | refine skW ?_ | refine rtW ?_)
     all_goals (first | (exfalso; omega) | skip)
     · have hc2 : (decide (L.pos ≤ i) || decide (L.pos > i + 1000)) = true := by simpa using hc
       rw [if_pos hc2] at hs
       exact ⟨k + 1, hlt, by omega, ⟨rfl, rfl, rfl, congrArg AV.int hs.symm, rfl, tI⟩, rfl⟩
     · rename_i h0
       have hc2 : ¬ (decide (L.pos ≤ i) || decide (L.pos > i + 1000)) = true := by simpa using h0
       rw [if_neg hc2, if_pos (by decide)] at hs
       exact ⟨k + 1, hlt, by omega, ⟨rfl, rfl, rfl, congrArg AV.int hs.symm, rfl, tI⟩, rfl⟩
     · exfalso; simp at hc
   · rw [hb] at hs ⊢
     obtain ⟨B, hB⟩ : ∃ B, e.letters.getD j default = B := ⟨_, rfl⟩
     rw [zAa, hB] at hs
     rw [hB] at hjs
     have hj0 : ¬ ((j : Nat) : Int) < 0 := by omega
     have hjl : j < e.letters.length := by omega
     have hjs2 : i < B.pos := by
      unfold sideL at hjs
      simp at hjs
      omega
     repeat' (first | refine aoQ rfl rfl rfl (fun hg => by first | exact PRun.eq (v := .iptr (Ed.encL (e.letters.getD ((j : Nat) : Int).toNat default))) (piW tabOk rfl rfl nd rfl nd rfl rfl (by omega)) (congrArg (fun x => AV.iptr (Ed.encL x)) (show e.letters.getD ((j : Nat) : Int).toNat default = B from hB)) | exact PRun.eq (v := .iptr (Ed.encL (e.letters.getD ((k : Nat) : Int).toNat default))) (piW tabOk rfl rfl nd rfl nd rfl rfl (by omega)) (congrArg (fun x => AV.iptr (Ed.encL x)) (show e.letters.getD ((k : Nat) : Int).toNat default = L from hL)) | exact std0 | exact std1) (by exact rfl) ?_ | refine sqW ?_ | refine rgK (fun K' hK => ?_) | (refine aoN (hK _ _ ?_); clear hK K') | (refine cdW rfl tI (fun hc => ?_) (fun hc => ?_) <;> (first | (simp only [dEt] at hc) | (simp only [dEf, iNl, iNe] at hc) | skip)) | refine blK ?_ | refine exW ?_ | refine skW ?_ | refine rtW ?_)
     all_goals (first | (exfalso; omega) | skip)
     · have hc2 : (decide (L.pos ≤ i) || decide (L.pos > i + 1000)) = true := by simpa using hc
       rw [if_pos hc2] at hs
       exact ⟨k + 1, hlt, by omega, ⟨rfl, rfl, rfl, congrArg AV.int hs.symm, rfl, tI⟩, rfl⟩
     · rename_i h0
       have hc2 : ¬ (decide (L.pos ≤ i) || decide (L.pos > i + 1000)) = true := by simpa using h0
       have hc3 : L.pos < B.pos := by simp at hc; omega
       simp only [zB6, dEt, not_or] at hc2
       rw [if_neg (by simp only [zB6, dEt, not_or]; exact hc2), if_neg hj0, if_pos (by omega)] at hs
       exact ⟨k + 1, hlt, by omega, ⟨rfl, rfl, rfl, congrArg AV.int hs.symm, rfl, tI⟩, rfl⟩
     · rename_i h0
       have hc2 : ¬ (decide (L.pos ≤ i) || decide (L.pos > i + 1000)) = true := by simpa using h0
       have hc3 : ¬ L.pos < B.pos := by simp at hc; omega
       simp only [zB6, dEt, not_or] at hc2
       rw [if_neg (by simp only [zB6, dEt, not_or]; exact hc2), if_neg hj0, if_neg (by omega)] at hs
       exact ⟨k + 1, hlt, by omega, ⟨rfl, rfl, rfl, congrArg AV.int hs.symm, rfl, tI⟩, rfl⟩
 · obtain rfl : k = e.letters.length := by omega
   repeat' (first | refine aoQ rfl rfl rfl (fun hg => by first | exact std0 | exact std1) (by exact rfl) ?_ | refine sqW ?_ | refine rgK (fun K' hK => ?_) | (refine aoN (hK _ _ ?_); clear hK K') | (refine cdW rfl tI (fun hc => ?_) (fun hc => ?_) <;> (first | (simp only [dEt] at hc) | (simp only [dEf, iNl, iNe] at hc) | skip)) | refine blK ?_ | refine exW ?_ | refine skW ?_ | refine rtW ?_)
   all_goals (first | (exfalso; omega) | skip)
   exact ⟨.inr rfl, Ent.of rfl⟩
set_option maxHeartbeats 4000000 in
set_option maxRecDepth 20000 in
theorem before31_spec (e : Ed.Edition) (hl : e.letters.length ≤ 1000000) (hp : ∀ k, k < e.letters.length → 0 ≤ (e.letters.getD k default).pos ∧ (e.letters.getD k default).pos ≤ 4000) (i : Int) (hi : 0 ≤ i ∧ i ≤ 4000) :
 PCall Tryz.prog 112 [.agg (Ed.encE e), .int i, .b false] (.int (bestL e i true e.letters.length)) := by
 refine PCall.body Tryz.func112 rfl rfl Tryz.ntmps112 rfl rfl ?_
 repeat' (first | refine aoQ rfl rfl rfl (fun hg => by exact std0) (by exact rfl) ?_ | refine sqW ?_ | refine rgK (fun K' hK => ?_) | (refine aoN (hK _ _ ?_); clear hK K') | refine aoE (bxW rfl rfl rfl rfl rfl tI rfl rfl ?_) | refine blK ?_)
 refine lpD (ι := Nat) (fun k => [(1, .int i), (2, .b false), (3, .ptr 0 0), (7, .int (bestL e i true k)), (8, .int k)]) (fun _ => [.var (Ed.encE e)])
  (fun k => k ≤ e.letters.length) (fun k => e.letters.length - k) 1 (fun _ => rfl) 0 (nZl _) ⟨rfl, rfl, rfl, rfl, rfl, tI⟩ rfl (fun _ _ => rfl) (fun _ _ => rfl) ?_
 intro k hk
 by_cases hlt : k < e.letters.length
 · have hin := bestL_in (e := e) (i := i) (before := true) k hk
   have hs := bestL_succ e i true k
   obtain ⟨L, hL⟩ : ∃ L, e.letters.getD k default = L := ⟨_, rfl⟩
   have hpk := hp k hlt
   rw [hL] at hs hpk
   have hside : sideL i true L = (decide (L.pos > i) || decide (L.pos < i - 1000)) := by
    unfold sideL
    rw [zAl]
    simp
    omega
   rw [hside] at hs
   rcases hin with hb | ⟨j, hb, hjk, hjs⟩
   · rw [hb] at hs ⊢
     repeat' (first | refine aoQ rfl rfl rfl (fun hg => by first | exact PRun.eq (v := .iptr (Ed.encL (e.letters.getD ((k : Nat) : Int).toNat default))) (piW tabOk rfl rfl nd rfl nd rfl rfl (by omega)) (congrArg (fun x => AV.iptr (Ed.encL x)) (show e.letters.getD ((k : Nat) : Int).toNat default = L from hL)) | exact std0 | exact (Bool.noConfusion (show false = true from hg) : PRun _ _ _ _ (.b false)) | exact std1) (by exact rfl) ?_ | refine sqW ?_ | refine rgK (fun K' hK => ?_) | (refine aoN (hK _ _ ?_); clear hK K') | (refine cdW rfl tI (fun hc => ?_) (fun hc => ?_) <;> (first | (simp only [dEt] at hc) | (simp only [dEf, iNl, iNe] at hc) | skip)) | refine blK ?_ | refine exW ?_ | refine skW ?_ | refine rtW ?_)
     all_goals (first | (exfalso; omega) | skip)
     · have hc2 : (decide (L.pos > i) || decide (L.pos < i - 1000)) = true := by simpa using hc
       rw [if_pos hc2] at hs
       exact ⟨k + 1, hlt, by omega, ⟨rfl, rfl, rfl, congrArg AV.int hs.symm, rfl, tI⟩, rfl⟩
     · rename_i h0
       have hc2 : ¬ (decide (L.pos > i) || decide (L.pos < i - 1000)) = true := by simpa using h0
       rw [if_neg hc2, if_pos (by decide)] at hs
       exact ⟨k + 1, hlt, by omega, ⟨rfl, rfl, rfl, congrArg AV.int hs.symm, rfl, tI⟩, rfl⟩
     · exfalso; simp at hc
   · rw [hb] at hs ⊢
     obtain ⟨B, hB⟩ : ∃ B, e.letters.getD j default = B := ⟨_, rfl⟩
     rw [zAa, hB] at hs
     rw [hB] at hjs
     have hj0 : ¬ ((j : Nat) : Int) < 0 := by omega
     have hjl : j < e.letters.length := by omega
     have hjs2 : B.pos ≤ i := by
      unfold sideL at hjs
      simp at hjs
      omega
     repeat' (first | refine aoQ rfl rfl rfl (fun hg => by first | exact PRun.eq (v := .iptr (Ed.encL (e.letters.getD ((j : Nat) : Int).toNat default))) (piW tabOk rfl rfl nd rfl nd rfl rfl (by omega)) (congrArg (fun x => AV.iptr (Ed.encL x)) (show e.letters.getD ((j : Nat) : Int).toNat default = B from hB)) | exact PRun.eq (v := .iptr (Ed.encL (e.letters.getD ((k : Nat) : Int).toNat default))) (piW tabOk rfl rfl nd rfl nd rfl rfl (by omega)) (congrArg (fun x => AV.iptr (Ed.encL x)) (show e.letters.getD ((k : Nat) : Int).toNat default = L from hL)) | exact std0 | exact std1) (by exact rfl) ?_ | refine sqW ?_ | refine rgK (fun K' hK => ?_) | (refine aoN (hK _ _ ?_); clear hK K') | (refine cdW rfl tI (fun hc => ?_) (fun hc => ?_) <;> (first | (simp only [dEt] at hc) | (simp only [dEf, iNl, iNe] at hc) | skip)) | refine blK ?_ | refine exW ?_ | refine skW ?_ | refine rtW ?_)
     all_goals (first | (exfalso; omega) | skip)
     · have hc2 : (decide (L.pos > i) || decide (L.pos < i - 1000)) = true := by simpa using hc
       rw [if_pos hc2] at hs
       exact ⟨k + 1, hlt, by omega, ⟨rfl, rfl, rfl, congrArg AV.int hs.symm, rfl, tI⟩, rfl⟩
     · rename_i h0
       have hc2 : ¬ (decide (L.pos > i) || decide (L.pos < i - 1000)) = true := by simpa using h0
       have hc3 : L.pos > B.pos := by simp at hc; omega
       simp only [zB6, dEt, not_or] at hc2
       rw [if_neg (by simp only [zB6, dEt, not_or]; exact hc2), if_neg hj0, if_pos (by omega)] at hs
       exact ⟨k + 1, hlt, by omega, ⟨rfl, rfl, rfl, congrArg AV.int hs.symm, rfl, tI⟩, rfl⟩
     · rename_i h0
       have hc2 : ¬ (decide (L.pos > i) || decide (L.pos < i - 1000)) = true := by simpa using h0
       have hc3 : ¬ L.pos > B.pos := by simp at hc; omega
       simp only [zB6, dEt, not_or] at hc2
       rw [if_neg (by simp only [zB6, dEt, not_or]; exact hc2), if_neg hj0, if_neg (by omega)] at hs
       exact ⟨k + 1, hlt, by omega, ⟨rfl, rfl, rfl, congrArg AV.int hs.symm, rfl, tI⟩, rfl⟩
 · obtain rfl : k = e.letters.length := by omega
   repeat' (first | refine aoQ rfl rfl rfl (fun hg => by first | exact std0 | exact std1) (by exact rfl) ?_ | refine sqW ?_ | refine rgK (fun K' hK => ?_) | (refine aoN (hK _ _ ?_); clear hK K') | (refine cdW rfl tI (fun hc => ?_) (fun hc => ?_) <;> (first | (simp only [dEt] at hc) | (simp only [dEf, iNl, iNe] at hc) | skip)) | refine blK ?_ | refine exW ?_ | refine skW ?_ | refine rtW ?_)
   all_goals (first | (exfalso; omega) | skip)
   exact ⟨.inr rfl, Ent.of rfl⟩
end Go.Proofs.YtdglbdfdkabjfaaGreatDoor.Pl
