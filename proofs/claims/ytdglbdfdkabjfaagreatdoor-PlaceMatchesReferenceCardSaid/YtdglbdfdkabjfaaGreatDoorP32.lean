/- Contracts by content: place of the reference: near.  Contracts by content: place of the reference: Locate. No statement is proved here. -/
import Derived.Test.YtdglbdfdkabjfaaGreatDoorP31
set_option linter.unusedVariables false
set_option linter.unusedSimpArgs false
namespace Go.Proofs.YtdglbdfdkabjfaaGreatDoor.Pl
open Go.Ab Go.Pl
attribute [local irreducible] AWP AOps EStep AQ PStep PRun PCall TCall VCall
def nearC (e : Ed.Edition) (i : Int) : Call × Bool := match near e i with
 | none => (noCall, false)
 | some x => (⟨x.letter, x.number, i - x.pos, ⟨0, 0⟩, 0⟩, true)
set_option maxHeartbeats 4000000 in
set_option maxRecDepth 20000 in
theorem near31_spec (e : Ed.Edition) (hb : e.bars.length ≤ 4000) (hl : e.letters.length ≤ 1000000) (hp : ∀ k, k < e.letters.length → 0 ≤ (e.letters.getD k default).pos ∧ (e.letters.getD k default).pos ≤ 4000) (i : Nat) (hi : i < e.bars.length) :
 PCall Tryz.prog 59 [.agg (Ed.encE e), .int i] (.tup [.agg (encCl (nearC e i).1), .b (nearC e i).2]) := by
 have l1 := before31_spec e hl hp i ⟨by omega, by omega⟩
 have l2 := after31_spec e hl hp i ⟨by omega, by omega⟩
 have n1 := down31_spec e (by omega) i hi
 have n2 := up31_spec e (by omega) i hi
 have b1 := bestL_in (e := e) (i := (i : Int)) (before := true) e.letters.length (nLr _)
 have b2 := bestL_in (e := e) (i := (i : Int)) (before := false) e.letters.length (nLr _)
 have d1 := goDown_in (e := e) 1001 (i : Int) (by omega)
 have d2 := goUp_in (e := e) 1000 ((i : Int) + 1) (by omega)
 have en : nearC e i = match (nearL e i).findSome? id with | none => (noCall, false) | some x => (⟨x.letter, x.number, (i : Int) - x.pos, ⟨0, 0⟩, 0⟩, true) := rfl
 unfold nearL nameL nameN at en
 generalize bestL e i true e.letters.length = p1 at *
 generalize bestL e i false e.letters.length = p2 at *
 generalize goDown e 1001 i = q1 at *
 generalize goUp e 1000 ((i : Int) + 1) = q2 at *
 rw [en]
 clear en
 refine PCall.bodyS tabOk Tryz.func59 rfl rfl Tryz.ntmps59 rfl ?_
 repeat' (first | refine aoQ rfl rfl rfl (fun hg => by exact std0) (by exact rfl) ?_ | refine sqW ?_ | refine rgK (fun K' hK => ?_) | (refine aoN (hK _ _ ?_); clear hK K') | refine aoE (bxW rfl rfl rfl rfl rfl tI rfl rfl ?_) | refine aoE (alW tabOk rfl rfl rfl rfl rfl rfl ?_) | refine blK ?_)
 refine lpD (ι := Nat) (fun s => [(1, .int i), (2, .ptr 0 0), (4, .ptr 1 0), (6, .int s)]) (fun _ => [.var (Ed.encE e), .var (encCl noCall)])
  (fun s => s ≤ 2 ∧ (1 ≤ s → p1 < 0 ∧ q1 < 0) ∧ (2 ≤ s → p2 < 0 ∧ q2 < 0)) (fun s => 2 - s) 2 (fun _ => rfl) 0 ⟨by omega, fun h => absurd h (by omega), fun h => absurd h (by omega)⟩ ⟨rfl, rfl, rfl, rfl, tI⟩ rfl (fun _ _ => rfl) (fun _ _ => rfl) ?_
 rintro s ⟨hs2, hs1, hs0⟩
 match s, hs2, hs1, hs0 with
 | 0, hs2, hs1, hs0 =>
   repeat' (first | refine aoQ rfl rfl rfl (fun hg => by exact std0) (by exact rfl) ?_ | refine sqW ?_ | refine rgK (fun K' hK => ?_) | (refine aoN (hK _ _ ?_); clear hK K'))
   refine cdW rfl tI (fun hc => ?_) (fun hc => absurd hc (by simp; try omega))
   repeat' (first | refine aoQ rfl rfl rfl (fun hg => by first | exact std0 | exact pcW (l1) rfl rfl nd rfl nds | fail) (by exact rfl) ?_ | refine sqW ?_ | refine rgK (fun K' hK => ?_) | (refine aoN (hK _ _ ?_); clear hK K') | refine blK ?_ | refine skW ?_)
   by_cases h1 : p1 < 0
   · refine cdW rfl tI (fun hc => absurd hc (by simp; try omega)) (fun hc => ?_)
     repeat' (first | refine aoQ rfl rfl rfl (fun hg => by first | exact std0 | exact pcW (n1) rfl rfl nd rfl nds | fail) (by exact rfl) ?_ | refine sqW ?_ | refine rgK (fun K' hK => ?_) | (refine aoN (hK _ _ ?_); clear hK K') | refine skW ?_)
     by_cases h2 : q1 < 0
     · refine cdW rfl tI (fun hc => absurd hc (by simp; try omega)) (fun hc => ?_)
       repeat' (first | refine aoQ rfl rfl rfl (fun hg => by exact std0) (by exact rfl) ?_ | refine rgK (fun K' hK => ?_) | (refine aoN (hK _ _ ?_); clear hK K') | refine skW ?_)
       exact ⟨1, ⟨by omega, fun _ => ⟨h1, h2⟩, fun h => absurd h (by omega)⟩, by omega, ⟨rfl, rfl, rfl, rfl, tI⟩, rfl⟩
     · refine cdW rfl tI (fun hc => ?_) (fun hc => absurd hc (by simp; try omega))
       obtain ⟨j, rfl⟩ : ∃ j : Nat, q1 = j := ⟨q1.toNat, by omega⟩
       have hjl : j < e.bars.length := by omega
       obtain ⟨B, hB⟩ : ∃ B, e.bars.getD j default = B := ⟨_, rfl⟩
       repeat' (first | refine aoQ rfl rfl rfl (fun hg => by first | exact PRun.eq (v := .iptr (Ed.encP (e.bars.getD ((j : Nat) : Int).toNat default))) (piW tabOk rfl rfl nd rfl nd rfl rfl (by omega)) (congrArg (fun x => AV.iptr (Ed.encP x)) (show e.bars.getD ((j : Nat) : Int).toNat default = B from hB)) | exact std0 | exact pbD tabOk rfl rfl nds | fail) (by exact rfl) ?_ | refine sqW ?_ | refine rgK (fun K' hK => ?_) | (refine aoN (hK _ _ ?_); clear hK K') | refine aoE (stW tabOk rfl rfl rfl tI rfl rfl tI rfl rfl rfl rfl rfl rfl rfl ?_) | refine rtW ?_)
       refine ⟨.inr rfl, _, rfl, Ent.of ?_⟩
       rw [if_pos h1, if_neg h2, zAa, hB]; rfl
   · refine cdW rfl tI (fun hc => ?_) (fun hc => absurd hc (by simp; try omega))
     obtain ⟨j, rfl, hjl, hsd⟩ : ∃ j : Nat, p1 = j ∧ j < e.letters.length ∧ True := by
      rcases b1 with h | ⟨j, h, hj, _⟩
      · omega
      · exact ⟨j, h, hj, tI⟩
     obtain ⟨L, hL⟩ : ∃ L, e.letters.getD j default = L := ⟨_, rfl⟩
     have hpl := hp j hjl
     rw [hL] at hpl
     repeat' (first | refine sqW ?_)
     repeat refine sqW ?_
     refine AWP.drawY (fun j => match j with | 0 => [.var (Ed.encE e), .var (encCl noCall)] | _ => [.var (Ed.encE e), .var (encCl ⟨L.name, 0, (i : Int) - L.pos, ⟨0, 0⟩, 0⟩)]) rfl (by kernel_rfl) (by decide +kernel) rfl (by decide +kernel) (fun K' hK => ?_)
     repeat' (first
      | refine yqQ (a := 0) (b := 0) rfl (by decide +kernel) (by decide +kernel) rfl rfl rfl (fun k h1 h2 hg => by (have hk : k = 0 := (by omega)); (rcases hk with rfl) <;> (first | exact PRun.eq (v := .iptr (Ed.encL (e.letters.getD ((j : Nat) : Int).toNat default))) (piW tabOk rfl rfl nd rfl nd rfl rfl (by omega)) (congrArg (fun x => AV.iptr (Ed.encL x)) (show e.letters.getD ((j : Nat) : Int).toNat default = L from hL)) | exact std0 | exact pbD tabOk rfl rfl nds | exact std1)) (by exact rfl) ?_
      | refine yqQ (a := 0) (b := 1) rfl (by decide +kernel) (by decide +kernel) rfl rfl rfl (fun k h1 h2 hg => by (have hk : k = 0 ∨ k = 1 := (by omega)); (rcases hk with rfl | rfl) <;> (first | exact PRun.eq (v := .iptr (Ed.encL (e.letters.getD ((j : Nat) : Int).toNat default))) (piW tabOk rfl rfl nd rfl nd rfl rfl (by omega)) (congrArg (fun x => AV.iptr (Ed.encL x)) (show e.letters.getD ((j : Nat) : Int).toNat default = L from hL)) | exact std0 | exact pbD tabOk rfl rfl nds | exact std1)) (by exact rfl) ?_
      | refine yqQ (a := 1) (b := 1) rfl (by decide +kernel) (by decide +kernel) rfl rfl rfl (fun k h1 h2 hg => by (have hk : k = 1 := (by omega)); (rcases hk with rfl) <;> (first | exact PRun.eq (v := .iptr (Ed.encL (e.letters.getD ((j : Nat) : Int).toNat default))) (piW tabOk rfl rfl nd rfl nd rfl rfl (by omega)) (congrArg (fun x => AV.iptr (Ed.encL x)) (show e.letters.getD ((j : Nat) : Int).toNat default = L from hL)) | exact std0 | exact pbD tabOk rfl rfl nds | exact std1)) (by exact rfl) ?_
      | refine yqQ (a := 0) (b := 2) rfl (by decide +kernel) (by decide +kernel) rfl rfl rfl (fun k h1 h2 hg => by (have hk : k = 0 ∨ k = 1 ∨ k = 2 := (by omega)); (rcases hk with rfl | rfl | rfl) <;> (first | exact PRun.eq (v := .iptr (Ed.encL (e.letters.getD ((j : Nat) : Int).toNat default))) (piW tabOk rfl rfl nd rfl nd rfl rfl (by omega)) (congrArg (fun x => AV.iptr (Ed.encL x)) (show e.letters.getD ((j : Nat) : Int).toNat default = L from hL)) | exact std0 | exact pbD tabOk rfl rfl nds | exact std1)) (by exact rfl) ?_
      | refine yqQ (a := 1) (b := 2) rfl (by decide +kernel) (by decide +kernel) rfl rfl rfl (fun k h1 h2 hg => by (have hk : k = 1 ∨ k = 2 := (by omega)); (rcases hk with rfl | rfl) <;> (first | exact PRun.eq (v := .iptr (Ed.encL (e.letters.getD ((j : Nat) : Int).toNat default))) (piW tabOk rfl rfl nd rfl nd rfl rfl (by omega)) (congrArg (fun x => AV.iptr (Ed.encL x)) (show e.letters.getD ((j : Nat) : Int).toNat default = L from hL)) | exact std0 | exact pbD tabOk rfl rfl nds | exact std1)) (by exact rfl) ?_
      | refine yqQ (a := 2) (b := 2) rfl (by decide +kernel) (by decide +kernel) rfl rfl rfl (fun k h1 h2 hg => by (have hk : k = 2 := (by omega)); (rcases hk with rfl) <;> (first | exact PRun.eq (v := .iptr (Ed.encL (e.letters.getD ((j : Nat) : Int).toNat default))) (piW tabOk rfl rfl nd rfl nd rfl rfl (by omega)) (congrArg (fun x => AV.iptr (Ed.encL x)) (show e.letters.getD ((j : Nat) : Int).toNat default = L from hL)) | exact std0 | exact pbD tabOk rfl rfl nds | exact std1)) (by exact rfl) ?_)
     refine YQ.e (v := .any) (d := none) rfl rfl rfl ?_ ?_
     · intro env' he
       exact stW tabOk rfl rfl ((rdv_congr (he 4 (by decide +kernel))).trans rfl) (by rw [rdn_congr (he 4 (by decide +kernel))]; first | exact tI | exact rfl) rfl ((rdv_congr (he 34 (by decide +kernel))).trans rfl) (by rw [rdn_congr (he 34 (by decide +kernel))]; first | exact tI | exact rfl) rfl rfl rfl rfl rfl rfl rfl ⟨rfl, rfl⟩
     repeat' (first
      | refine yqQ (a := 0) (b := 0) rfl (by decide +kernel) (by decide +kernel) rfl rfl rfl (fun k h1 h2 hg => by (have hk : k = 0 := (by omega)); (rcases hk with rfl) <;> (first | exact PRun.eq (v := .iptr (Ed.encL (e.letters.getD ((j : Nat) : Int).toNat default))) (piW tabOk rfl rfl nd rfl nd rfl rfl (by omega)) (congrArg (fun x => AV.iptr (Ed.encL x)) (show e.letters.getD ((j : Nat) : Int).toNat default = L from hL)) | exact std0 | exact pbD tabOk rfl rfl nds | exact std1)) (by exact rfl) ?_
      | refine yqQ (a := 0) (b := 1) rfl (by decide +kernel) (by decide +kernel) rfl rfl rfl (fun k h1 h2 hg => by (have hk : k = 0 ∨ k = 1 := (by omega)); (rcases hk with rfl | rfl) <;> (first | exact PRun.eq (v := .iptr (Ed.encL (e.letters.getD ((j : Nat) : Int).toNat default))) (piW tabOk rfl rfl nd rfl nd rfl rfl (by omega)) (congrArg (fun x => AV.iptr (Ed.encL x)) (show e.letters.getD ((j : Nat) : Int).toNat default = L from hL)) | exact std0 | exact pbD tabOk rfl rfl nds | exact std1)) (by exact rfl) ?_
      | refine yqQ (a := 1) (b := 1) rfl (by decide +kernel) (by decide +kernel) rfl rfl rfl (fun k h1 h2 hg => by (have hk : k = 1 := (by omega)); (rcases hk with rfl) <;> (first | exact PRun.eq (v := .iptr (Ed.encL (e.letters.getD ((j : Nat) : Int).toNat default))) (piW tabOk rfl rfl nd rfl nd rfl rfl (by omega)) (congrArg (fun x => AV.iptr (Ed.encL x)) (show e.letters.getD ((j : Nat) : Int).toNat default = L from hL)) | exact std0 | exact pbD tabOk rfl rfl nds | exact std1)) (by exact rfl) ?_
      | refine yqQ (a := 0) (b := 2) rfl (by decide +kernel) (by decide +kernel) rfl rfl rfl (fun k h1 h2 hg => by (have hk : k = 0 ∨ k = 1 ∨ k = 2 := (by omega)); (rcases hk with rfl | rfl | rfl) <;> (first | exact PRun.eq (v := .iptr (Ed.encL (e.letters.getD ((j : Nat) : Int).toNat default))) (piW tabOk rfl rfl nd rfl nd rfl rfl (by omega)) (congrArg (fun x => AV.iptr (Ed.encL x)) (show e.letters.getD ((j : Nat) : Int).toNat default = L from hL)) | exact std0 | exact pbD tabOk rfl rfl nds | exact std1)) (by exact rfl) ?_
      | refine yqQ (a := 1) (b := 2) rfl (by decide +kernel) (by decide +kernel) rfl rfl rfl (fun k h1 h2 hg => by (have hk : k = 1 ∨ k = 2 := (by omega)); (rcases hk with rfl | rfl) <;> (first | exact PRun.eq (v := .iptr (Ed.encL (e.letters.getD ((j : Nat) : Int).toNat default))) (piW tabOk rfl rfl nd rfl nd rfl rfl (by omega)) (congrArg (fun x => AV.iptr (Ed.encL x)) (show e.letters.getD ((j : Nat) : Int).toNat default = L from hL)) | exact std0 | exact pbD tabOk rfl rfl nds | exact std1)) (by exact rfl) ?_
      | refine yqQ (a := 2) (b := 2) rfl (by decide +kernel) (by decide +kernel) rfl rfl rfl (fun k h1 h2 hg => by (have hk : k = 2 := (by omega)); (rcases hk with rfl) <;> (first | exact PRun.eq (v := .iptr (Ed.encL (e.letters.getD ((j : Nat) : Int).toNat default))) (piW tabOk rfl rfl nd rfl nd rfl rfl (by omega)) (congrArg (fun x => AV.iptr (Ed.encL x)) (show e.letters.getD ((j : Nat) : Int).toNat default = L from hL)) | exact std0 | exact pbD tabOk rfl rfl nds | exact std1)) (by exact rfl) ?_)
     refine YQ.nil (hK _ _ ?_)
     clear hK K'
     repeat' (first | refine rtW ?_)
     refine ⟨.inr rfl, _, rfl, Ent.of ?_⟩
     rw [if_neg h1, zAa, hL]; rfl
 | 1, hs2, hs1, hs0 =>
   obtain ⟨hp1, hq1⟩ := hs1 (by omega)
   repeat' (first | refine aoQ rfl rfl rfl (fun hg => by exact std0) (by exact rfl) ?_ | refine sqW ?_ | refine rgK (fun K' hK => ?_) | (refine aoN (hK _ _ ?_); clear hK K'))
   refine cdW rfl tI (fun hc => ?_) (fun hc => absurd hc (by simp; try omega))
   repeat' (first | refine aoQ rfl rfl rfl (fun hg => by first | exact std0 | exact pcW (l2) rfl rfl nd rfl nds | fail) (by exact rfl) ?_ | refine sqW ?_ | refine rgK (fun K' hK => ?_) | (refine aoN (hK _ _ ?_); clear hK K') | refine blK ?_ | refine skW ?_)
   by_cases h1 : p2 < 0
   · refine cdW rfl tI (fun hc => absurd hc (by simp; try omega)) (fun hc => ?_)
     repeat' (first | refine aoQ rfl rfl rfl (fun hg => by first | exact std0 | exact pcW (n2) rfl rfl nd rfl nds | fail) (by exact rfl) ?_ | refine sqW ?_ | refine rgK (fun K' hK => ?_) | (refine aoN (hK _ _ ?_); clear hK K') | refine skW ?_)
     by_cases h2 : q2 < 0
     · refine cdW rfl tI (fun hc => absurd hc (by simp; try omega)) (fun hc => ?_)
       repeat' (first | refine aoQ rfl rfl rfl (fun hg => by exact std0) (by exact rfl) ?_ | refine rgK (fun K' hK => ?_) | (refine aoN (hK _ _ ?_); clear hK K') | refine skW ?_)
       exact ⟨2, ⟨by omega, fun _ => ⟨hp1, hq1⟩, fun _ => ⟨h1, h2⟩⟩, by omega, ⟨rfl, rfl, rfl, rfl, tI⟩, rfl⟩
     · refine cdW rfl tI (fun hc => ?_) (fun hc => absurd hc (by simp; try omega))
       obtain ⟨j, rfl⟩ : ∃ j : Nat, q2 = j := ⟨q2.toNat, by omega⟩
       have hjl : j < e.bars.length := by omega
       obtain ⟨B, hB⟩ : ∃ B, e.bars.getD j default = B := ⟨_, rfl⟩
       repeat' (first | refine aoQ rfl rfl rfl (fun hg => by first | exact PRun.eq (v := .iptr (Ed.encP (e.bars.getD ((j : Nat) : Int).toNat default))) (piW tabOk rfl rfl nd rfl nd rfl rfl (by omega)) (congrArg (fun x => AV.iptr (Ed.encP x)) (show e.bars.getD ((j : Nat) : Int).toNat default = B from hB)) | exact std0 | exact pbD tabOk rfl rfl nds | fail) (by exact rfl) ?_ | refine sqW ?_ | refine rgK (fun K' hK => ?_) | (refine aoN (hK _ _ ?_); clear hK K') | refine aoE (stW tabOk rfl rfl rfl tI rfl rfl tI rfl rfl rfl rfl rfl rfl rfl ?_) | refine rtW ?_)
       refine ⟨.inr rfl, _, rfl, Ent.of ?_⟩
       rw [if_pos hp1, if_pos hq1, if_pos h1, if_neg h2, zAa, hB]; rfl
   · refine cdW rfl tI (fun hc => ?_) (fun hc => absurd hc (by simp; try omega))
     obtain ⟨j, rfl, hjl, hsd⟩ : ∃ j : Nat, p2 = j ∧ j < e.letters.length ∧ True := by
      rcases b2 with h | ⟨j, h, hj, _⟩
      · omega
      · exact ⟨j, h, hj, tI⟩
     obtain ⟨L, hL⟩ : ∃ L, e.letters.getD j default = L := ⟨_, rfl⟩
     have hpl := hp j hjl
     rw [hL] at hpl
     repeat' (first | refine sqW ?_)
     repeat refine sqW ?_
     refine AWP.drawY (fun j => match j with | 0 => [.var (Ed.encE e), .var (encCl noCall)] | _ => [.var (Ed.encE e), .var (encCl ⟨L.name, 0, (i : Int) - L.pos, ⟨0, 0⟩, 0⟩)]) rfl (by kernel_rfl) (by decide +kernel) rfl (by decide +kernel) (fun K' hK => ?_)
     repeat' (first
      | refine yqQ (a := 0) (b := 0) rfl (by decide +kernel) (by decide +kernel) rfl rfl rfl (fun k h1 h2 hg => by (have hk : k = 0 := (by omega)); (rcases hk with rfl) <;> (first | exact PRun.eq (v := .iptr (Ed.encL (e.letters.getD ((j : Nat) : Int).toNat default))) (piW tabOk rfl rfl nd rfl nd rfl rfl (by omega)) (congrArg (fun x => AV.iptr (Ed.encL x)) (show e.letters.getD ((j : Nat) : Int).toNat default = L from hL)) | exact std0 | exact pbD tabOk rfl rfl nds | exact std1)) (by exact rfl) ?_
      | refine yqQ (a := 0) (b := 1) rfl (by decide +kernel) (by decide +kernel) rfl rfl rfl (fun k h1 h2 hg => by (have hk : k = 0 ∨ k = 1 := (by omega)); (rcases hk with rfl | rfl) <;> (first | exact PRun.eq (v := .iptr (Ed.encL (e.letters.getD ((j : Nat) : Int).toNat default))) (piW tabOk rfl rfl nd rfl nd rfl rfl (by omega)) (congrArg (fun x => AV.iptr (Ed.encL x)) (show e.letters.getD ((j : Nat) : Int).toNat default = L from hL)) | exact std0 | exact pbD tabOk rfl rfl nds | exact std1)) (by exact rfl) ?_
      | refine yqQ (a := 1) (b := 1) rfl (by decide +kernel) (by decide +kernel) rfl rfl rfl (fun k h1 h2 hg => by (have hk : k = 1 := (by omega)); (rcases hk with rfl) <;> (first | exact PRun.eq (v := .iptr (Ed.encL (e.letters.getD ((j : Nat) : Int).toNat default))) (piW tabOk rfl rfl nd rfl nd rfl rfl (by omega)) (congrArg (fun x => AV.iptr (Ed.encL x)) (show e.letters.getD ((j : Nat) : Int).toNat default = L from hL)) | exact std0 | exact pbD tabOk rfl rfl nds | exact std1)) (by exact rfl) ?_
      | refine yqQ (a := 0) (b := 2) rfl (by decide +kernel) (by decide +kernel) rfl rfl rfl (fun k h1 h2 hg => by (have hk : k = 0 ∨ k = 1 ∨ k = 2 := (by omega)); (rcases hk with rfl | rfl | rfl) <;> (first | exact PRun.eq (v := .iptr (Ed.encL (e.letters.getD ((j : Nat) : Int).toNat default))) (piW tabOk rfl rfl nd rfl nd rfl rfl (by omega)) (congrArg (fun x => AV.iptr (Ed.encL x)) (show e.letters.getD ((j : Nat) : Int).toNat default = L from hL)) | exact std0 | exact pbD tabOk rfl rfl nds | exact std1)) (by exact rfl) ?_
      | refine yqQ (a := 1) (b := 2) rfl (by decide +kernel) (by decide +kernel) rfl rfl rfl (fun k h1 h2 hg => by (have hk : k = 1 ∨ k = 2 := (by omega)); (rcases hk with rfl | rfl) <;> (first | exact PRun.eq (v := .iptr (Ed.encL (e.letters.getD ((j : Nat) : Int).toNat default))) (piW tabOk rfl rfl nd rfl nd rfl rfl (by omega)) (congrArg (fun x => AV.iptr (Ed.encL x)) (show e.letters.getD ((j : Nat) : Int).toNat default = L from hL)) | exact std0 | exact pbD tabOk rfl rfl nds | exact std1)) (by exact rfl) ?_
      | refine yqQ (a := 2) (b := 2) rfl (by decide +kernel) (by decide +kernel) rfl rfl rfl (fun k h1 h2 hg => by (have hk : k = 2 := (by omega)); (rcases hk with rfl) <;> (first | exact PRun.eq (v := .iptr (Ed.encL (e.letters.getD ((j : Nat) : Int).toNat default))) (piW tabOk rfl rfl nd rfl nd rfl rfl (by omega)) (congrArg (fun x => AV.iptr (Ed.encL x)) (show e.letters.getD ((j : Nat) : Int).toNat default = L from hL)) | exact std0 | exact pbD tabOk rfl rfl nds | exact std1)) (by exact rfl) ?_)
     refine YQ.e (v := .any) (d := none) rfl rfl rfl ?_ ?_
     · intro env' he
       exact stW tabOk rfl rfl ((rdv_congr (he 4 (by decide +kernel))).trans rfl) (by rw [rdn_congr (he 4 (by decide +kernel))]; first | exact tI | exact rfl) rfl ((rdv_congr (he 34 (by decide +kernel))).trans rfl) (by rw [rdn_congr (he 34 (by decide +kernel))]; first | exact tI | exact rfl) rfl rfl rfl rfl rfl rfl rfl ⟨rfl, rfl⟩
     repeat' (first
      | refine yqQ (a := 0) (b := 0) rfl (by decide +kernel) (by decide +kernel) rfl rfl rfl (fun k h1 h2 hg => by (have hk : k = 0 := (by omega)); (rcases hk with rfl) <;> (first | exact PRun.eq (v := .iptr (Ed.encL (e.letters.getD ((j : Nat) : Int).toNat default))) (piW tabOk rfl rfl nd rfl nd rfl rfl (by omega)) (congrArg (fun x => AV.iptr (Ed.encL x)) (show e.letters.getD ((j : Nat) : Int).toNat default = L from hL)) | exact std0 | exact pbD tabOk rfl rfl nds | exact std1)) (by exact rfl) ?_
      | refine yqQ (a := 0) (b := 1) rfl (by decide +kernel) (by decide +kernel) rfl rfl rfl (fun k h1 h2 hg => by (have hk : k = 0 ∨ k = 1 := (by omega)); (rcases hk with rfl | rfl) <;> (first | exact PRun.eq (v := .iptr (Ed.encL (e.letters.getD ((j : Nat) : Int).toNat default))) (piW tabOk rfl rfl nd rfl nd rfl rfl (by omega)) (congrArg (fun x => AV.iptr (Ed.encL x)) (show e.letters.getD ((j : Nat) : Int).toNat default = L from hL)) | exact std0 | exact pbD tabOk rfl rfl nds | exact std1)) (by exact rfl) ?_
      | refine yqQ (a := 1) (b := 1) rfl (by decide +kernel) (by decide +kernel) rfl rfl rfl (fun k h1 h2 hg => by (have hk : k = 1 := (by omega)); (rcases hk with rfl) <;> (first | exact PRun.eq (v := .iptr (Ed.encL (e.letters.getD ((j : Nat) : Int).toNat default))) (piW tabOk rfl rfl nd rfl nd rfl rfl (by omega)) (congrArg (fun x => AV.iptr (Ed.encL x)) (show e.letters.getD ((j : Nat) : Int).toNat default = L from hL)) | exact std0 | exact pbD tabOk rfl rfl nds | exact std1)) (by exact rfl) ?_
      | refine yqQ (a := 0) (b := 2) rfl (by decide +kernel) (by decide +kernel) rfl rfl rfl (fun k h1 h2 hg => by (have hk : k = 0 ∨ k = 1 ∨ k = 2 := (by omega)); (rcases hk with rfl | rfl | rfl) <;> (first | exact PRun.eq (v := .iptr (Ed.encL (e.letters.getD ((j : Nat) : Int).toNat default))) (piW tabOk rfl rfl nd rfl nd rfl rfl (by omega)) (congrArg (fun x => AV.iptr (Ed.encL x)) (show e.letters.getD ((j : Nat) : Int).toNat default = L from hL)) | exact std0 | exact pbD tabOk rfl rfl nds | exact std1)) (by exact rfl) ?_
      | refine yqQ (a := 1) (b := 2) rfl (by decide +kernel) (by decide +kernel) rfl rfl rfl (fun k h1 h2 hg => by (have hk : k = 1 ∨ k = 2 := (by omega)); (rcases hk with rfl | rfl) <;> (first | exact PRun.eq (v := .iptr (Ed.encL (e.letters.getD ((j : Nat) : Int).toNat default))) (piW tabOk rfl rfl nd rfl nd rfl rfl (by omega)) (congrArg (fun x => AV.iptr (Ed.encL x)) (show e.letters.getD ((j : Nat) : Int).toNat default = L from hL)) | exact std0 | exact pbD tabOk rfl rfl nds | exact std1)) (by exact rfl) ?_
      | refine yqQ (a := 2) (b := 2) rfl (by decide +kernel) (by decide +kernel) rfl rfl rfl (fun k h1 h2 hg => by (have hk : k = 2 := (by omega)); (rcases hk with rfl) <;> (first | exact PRun.eq (v := .iptr (Ed.encL (e.letters.getD ((j : Nat) : Int).toNat default))) (piW tabOk rfl rfl nd rfl nd rfl rfl (by omega)) (congrArg (fun x => AV.iptr (Ed.encL x)) (show e.letters.getD ((j : Nat) : Int).toNat default = L from hL)) | exact std0 | exact pbD tabOk rfl rfl nds | exact std1)) (by exact rfl) ?_)
     refine YQ.nil (hK _ _ ?_)
     clear hK K'
     repeat' (first | refine rtW ?_)
     refine ⟨.inr rfl, _, rfl, Ent.of ?_⟩
     rw [if_pos hp1, if_pos hq1, if_neg h1, zAa, hL]; rfl
 | 2, hs2, hs1, hs0 =>
   obtain ⟨hp1, hq1⟩ := hs1 (by omega)
   obtain ⟨hp2, hq2⟩ := hs0 (by omega)
   repeat' (first | refine aoQ rfl rfl rfl (fun hg => by exact std0) (by exact rfl) ?_ | refine sqW ?_ | refine rgK (fun K' hK => ?_) | (refine aoN (hK _ _ ?_); clear hK K'))
   refine cdW rfl tI (fun hc => absurd hc (by decide)) (fun hc => ?_)
   repeat' (first | refine aoQ rfl rfl rfl (fun hg => by first | exact std0 | exact pbD tabOk rfl rfl nds | fail) (by exact rfl) ?_ | refine sqW ?_ | refine rgK (fun K' hK => ?_) | (refine aoN (hK _ _ ?_); clear hK K') | refine aoE (stW tabOk rfl rfl rfl tI rfl rfl tI rfl rfl rfl rfl rfl rfl rfl ?_) | refine exW ?_ | refine rtW ?_)
   refine ⟨.inr rfl, _, rfl, Ent.of ?_⟩
   rw [if_pos hp1, if_pos hq1, if_pos hp2, if_pos hq2]; rfl
 | n + 3, hs2, _, _ => exact absurd hs2 (by omega)
set_option maxHeartbeats 4000000 in
set_option maxRecDepth 20000 in
theorem locate31_spec (s : Score) (hs : s.Small) (e : Ed.Edition) (hw : Ed.Wf e) (r : Room) (hf : FIn r.form) (m : Mom) :
 PCall Tryz.prog 14 [.agg (encS s), .agg (Ed.encE e), .agg (encRm r), .agg (encMo m)] (.tup [.agg (encCl (locate s e r m).1), .b (locate s e r m).2.1, .int (locate s e r m).2.2]) := by
 have h1 := right31_spec s hs e r hf
 have h2 := moment31_spec m
 by_cases hok : (rightB s e r && momOk m) = false
 · rw [show locate s e r m = (noCall, false, 1) by unfold locate; rw [if_pos hok]]
   generalize rightB s e r = a at *
   generalize momOk m = b at *
   refine PCall.bodyS tabOk Tryz.func14 rfl rfl Tryz.ntmps14 rfl ?_
   repeat' (first | refine aoQ rfl rfl rfl (fun hg => by first | exact std0 | exact pcW (h1) rfl rfl nd rfl nds | exact pcW (h2) rfl rfl nd rfl nds | fail) (by exact rfl) ?_ | refine sqW ?_ | refine rgK (fun K' hK => ?_) | (refine aoN (hK _ _ ?_); clear hK K') | refine aoE (bxW rfl rfl rfl rfl rfl tI rfl rfl ?_) | refine aoE (alW tabOk rfl rfl rfl rfl rfl rfl ?_))
   refine cdW rfl tI (fun hc => ?_) (fun hc => absurd hok (by revert hc; cases a <;> cases b <;> decide))
   repeat' (first | refine aoQ rfl rfl rfl (fun hg => by first | exact std0 | exact pbD tabOk rfl rfl nds | fail) (by exact rfl) ?_ | refine sqW ?_ | refine rgK (fun K' hK => ?_) | (refine aoN (hK _ _ ?_); clear hK K') | refine aoE (stW tabOk rfl rfl rfl tI rfl rfl tI rfl rfl rfl rfl rfl rfl rfl ?_) | refine rtW ?_)
   exact ⟨.inr rfl, _, rfl, Ent.of rfl⟩
 · have hok2 : rightB s e r = true ∧ momOk m = true := by simpa using hok
   obtain ⟨hr, hmo⟩ := hok2
   obtain ⟨hsc, hfm, hform, hbars, _⟩ := right_parts hr
   have hdur : durOk m.pos = true := by
    unfold momOk at hmo
    simp only [zA0] at hmo
    exact hmo.1.1
   have h3 := reason31_spec s hs hsc r hf hform m hdur
   have h4 := Ed.place11_spec e hw m.bar m.pass
   have hpl := plR_in hfm m.bar m.pass
   have hel := form_small hfm
   have e1 : locate s e r m = if reason s r m ≠ 0 then (noCall, false, reason s r m)
    else if (Ed.plR e m.bar m.pass).ok = false then (noCall, false, 0)
    else match near e (Ed.plR e m.bar m.pass).pos with
     | none => (noCall, false, 0)
     | some x => (⟨x.letter, x.number, (Ed.plR e m.bar m.pass).pos - x.pos, m.pos, (Ed.plR e m.bar m.pass).pass⟩, true, 0) := by
    unfold locate; rw [if_neg hok]; rfl
   rw [e1]
   rw [hr] at h1
   rw [hmo] at h2
   obtain ⟨R, hR⟩ : ∃ R, Ed.plR e m.bar m.pass = R := ⟨_, rfl⟩
   rw [hR] at h4 hpl ⊢
   obtain ⟨rp, rs, rk, re⟩ := R
   dsimp only at *
   change PCall _ _ _ (.tup [.int rp, .int rs, .b rk, .int re]) at h4
   obtain ⟨i, rfl⟩ := zAy hpl.1
   have hlb : ∀ k, k < e.letters.length → 0 ≤ (e.letters.getD k default).pos ∧ (e.letters.getD k default).pos ≤ 4000 := fun k hk => by
    have hl := letOk_at hfm hk
    unfold Ed.letOk inB at hl
    simp only [zA0, dEt] at hl
    omega
   have hll : e.letters.length ≤ 1000000 := by
    unfold Ed.formB Ed.headOk at hfm
    simp only [zA0, dEt] at hfm
    omega
   have h5 := near31_spec e hel hll hlb i (by omega)
   generalize reason s r m = q at *
   refine PCall.bodyS tabOk Tryz.func14 rfl rfl Tryz.ntmps14 rfl ?_
   repeat' (first | refine aoQ rfl rfl rfl (fun hg => by first | exact std0 | exact pcW (h1) rfl rfl nd rfl nds | exact pcW (h2) rfl rfl nd rfl nds | fail) (by exact rfl) ?_ | refine sqW ?_ | refine rgK (fun K' hK => ?_) | (refine aoN (hK _ _ ?_); clear hK K') | refine aoE (bxW rfl rfl rfl rfl rfl tI rfl rfl ?_) | refine aoE (alW tabOk rfl rfl rfl rfl rfl rfl ?_))
   refine cdW rfl tI (fun hc => absurd hc (by decide)) (fun hc => ?_)
   repeat' (first | refine aoQ rfl rfl rfl (fun hg => by first | exact std0 | exact pcW (h3) rfl rfl nd rfl nds | fail) (by exact rfl) ?_ | refine sqW ?_ | refine rgK (fun K' hK => ?_) | (refine aoN (hK _ _ ?_); clear hK K') | refine skW ?_)
   by_cases hq : q ≠ 0
   · rw [if_pos hq]
     refine cdW rfl tI (fun hc => ?_) (fun hc => absurd hc (by simp; exact hq))
     repeat' (first | refine aoQ rfl rfl rfl (fun hg => by first | exact std0 | exact pbD tabOk rfl rfl nds | fail) (by exact rfl) ?_ | refine sqW ?_ | refine rgK (fun K' hK => ?_) | (refine aoN (hK _ _ ?_); clear hK K') | refine aoE (stW tabOk rfl rfl rfl tI rfl rfl tI rfl rfl rfl rfl rfl rfl rfl ?_) | refine rtW ?_)
     exact ⟨.inr rfl, _, rfl, Ent.of rfl⟩
   · rw [if_neg hq]
     refine cdW rfl tI (fun hc => absurd hc (by simpa using hq)) (fun hc => ?_)
     repeat' (first | refine aoQ rfl rfl rfl (fun hg => by first | exact std0 | exact pcW (h4) rfl rfl nd rfl nds | fail) (by exact rfl) ?_ | refine sqW ?_ | refine rgK (fun K' hK => ?_) | (refine aoN (hK _ _ ?_); clear hK K') | refine skW ?_)
     cases rk with
     | false =>
       rw [if_pos rfl]
       refine cdW rfl tI (fun hc => ?_) (fun hc => absurd hc (by decide))
       repeat' (first | refine aoQ rfl rfl rfl (fun hg => by first | exact std0 | exact pbD tabOk rfl rfl nds | fail) (by exact rfl) ?_ | refine sqW ?_ | refine rgK (fun K' hK => ?_) | (refine aoN (hK _ _ ?_); clear hK K') | refine aoE (stW tabOk rfl rfl rfl tI rfl rfl tI rfl rfl rfl rfl rfl rfl rfl ?_) | refine rtW ?_)
       exact ⟨.inr rfl, _, rfl, Ent.of rfl⟩
     | true =>
       rw [if_neg (by decide)]
       refine cdW rfl tI (fun hc => absurd hc (by decide)) (fun hc => ?_)
       unfold nearC at h5
       cases hne : near e (i : Int) with
       | none =>
         rw [hne] at h5
         change PCall _ _ _ (.tup [.agg (encCl noCall), .b false]) at h5
         repeat' (first | refine aoQ rfl rfl rfl (fun hg => by first | exact std0 | exact pcW (h5) rfl rfl nd rfl nds | fail) (by exact rfl) ?_ | refine sqW ?_ | refine rgK (fun K' hK => ?_) | (refine aoN (hK _ _ ?_); clear hK K') | refine aoE (stW tabOk rfl rfl rfl tI rfl rfl tI rfl rfl rfl rfl rfl rfl rfl ?_) | refine aoE (alW tabOk rfl rfl rfl rfl rfl rfl ?_) | refine skW ?_)
         refine cdW rfl tI (fun hc => ?_) (fun hc => absurd hc (by decide))
         repeat' (first | refine aoQ rfl rfl rfl (fun hg => by first | exact std0 | exact pbD tabOk rfl rfl nds | fail) (by exact rfl) ?_ | refine sqW ?_ | refine rgK (fun K' hK => ?_) | (refine aoN (hK _ _ ?_); clear hK K') | refine aoE (stW tabOk rfl rfl rfl tI rfl rfl tI rfl rfl rfl rfl rfl rfl rfl ?_) | refine rtW ?_)
         exact ⟨.inr rfl, _, rfl, Ent.of rfl⟩
       | some x =>
         rw [hne] at h5
         change PCall _ _ _ (.tup [.agg (encCl ⟨x.letter, x.number, (i : Int) - x.pos, ⟨0, 0⟩, 0⟩), .b true]) at h5
         repeat' (first | refine aoQ rfl rfl rfl (fun hg => by first | exact std0 | exact pcW (h5) rfl rfl nd rfl nds | fail) (by exact rfl) ?_ | refine sqW ?_ | refine rgK (fun K' hK => ?_) | (refine aoN (hK _ _ ?_); clear hK K') | refine aoE (stW tabOk rfl rfl rfl tI rfl rfl tI rfl rfl rfl rfl rfl rfl rfl ?_) | refine aoE (alW tabOk rfl rfl rfl rfl rfl rfl ?_) | refine skW ?_)
         refine cdW rfl tI (fun hc => absurd hc (by decide)) (fun hc => ?_)
         repeat' (first | refine aoQ rfl rfl rfl (fun hg => by exact std0) (by exact rfl) ?_ | refine sqW ?_ | refine rgK (fun K' hK => ?_) | (refine aoN (hK _ _ ?_); clear hK K') | refine aoE (stW tabOk rfl rfl rfl tI rfl rfl tI rfl rfl rfl rfl rfl rfl rfl ?_) | refine skW ?_ | refine rtW ?_)
         exact ⟨.inr rfl, _, rfl, Ent.of rfl⟩
end Go.Proofs.YtdglbdfdkabjfaaGreatDoor.Pl
