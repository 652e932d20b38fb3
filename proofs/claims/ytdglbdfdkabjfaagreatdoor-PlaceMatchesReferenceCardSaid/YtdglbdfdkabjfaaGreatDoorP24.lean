/- Contracts by content: the finders of names.  Contracts by content: finders, Locate. No statement is proved here. -/
import Derived.Test.YtdglbdfdkabjfaaGreatDoorP23
set_option linter.unusedVariables false
set_option linter.unusedSimpArgs false
namespace Go.Proofs.YtdglbdfdkabjfaaGreatDoor.Pl
open Go.Ab Go.Pl
attribute [local irreducible] AWP AOps EStep AQ PStep PRun PCall TCall VCall
abbrev encCN (x : Nm) : List AV := [.str x.letter, .int x.number, .int 0, .int 0, .int 0, .int 0]
def nmV : Option Nm → AV
 | none => .tup [.agg [.str ⟨#[]⟩, .int 0, .int 0, .int 0, .int 0, .int 0], .int 0, .b false]
 | some x => .tup [.agg (encCN x), .int x.pos, .b true]
theorem bestL_succ (e : Ed.Edition) (i : Int) (before : Bool) (k : Nat) : bestL e i before (k + 1) = if sideL i before (e.letters.getD k default) then bestL e i before k
 else if bestL e i before k < 0 then (k : Int)
 else if max ((e.letters.getD k default).pos - i) (i - (e.letters.getD k default).pos) < max ((e.letters.getD (bestL e i before k).toNat default).pos - i) (i - (e.letters.getD (bestL e i before k).toNat default).pos) then (k : Int)
 else bestL e i before k := rfl
set_option maxHeartbeats 2000000 in
set_option maxRecDepth 20000 in
theorem fl_spec (e : Ed.Edition) (hw : Ed.Wf e) (hlb : ∀ k, k < e.letters.length → 0 ≤ (e.letters.getD k default).pos ∧ (e.letters.getD k default).pos ≤ 4000) (i : Int) (hi : 0 ≤ i ∧ i ≤ 4000) (before : Bool) :
 PCall Tryz.prog 108 [.iptr (Ed.encE e), .iptr [.int i], .iptr [.b before]] (nmV (nameL e (bestL e i before e.letters.length))) := by
 have hl := hw.letters
 refine PCall.bodyS tabOk Tryz.func108 rfl rfl Tryz.ntmps108 rfl ?_
 repeat' (first | refine aoQ rfl rfl rfl (fun hg => by first | exact std0 | exact std1) (by exact rfl) ?_ | refine sqW ?_ | refine rgK (fun K' hK => ?_) | (refine aoN (hK _ _ ?_); clear hK K') | refine aoE (alW tabOk rfl rfl rfl rfl rfl rfl ?_) | refine blK ?_)
 refine lpD (ι := Nat) (fun k => [(0, .iptr (Ed.encE e)), (1, .iptr [.int i]), (2, .iptr [.b before]), (3, .ptr 0 0), (6, .int (bestL e i before k)), (11, .sl 2 (e.letters.map Ed.encL) .no), (12, .int e.letters.length), (13, .int k)]) (fun _ => [.var [.str ⟨#[]⟩, .int 0, .int 0, .int 0, .int 0, .int 0]])
  (fun k => k ≤ e.letters.length) (fun k => e.letters.length - k) 1 (fun _ => rfl) 0 (nZl _) ⟨rfl, rfl, rfl, rfl, rfl, rfl, rfl, rfl, tI⟩ rfl (fun _ _ => rfl) (fun _ _ => rfl) ?_
 intro k hk
 have hin := bestL_in (e := e) (i := i) (before := before) k hk
 by_cases hlt : k < e.letters.length
 · have hst := bestL_succ e i before k
   obtain ⟨hL1, hL2⟩ := hlb k hlt
   obtain ⟨L, hL⟩ : ∃ L, e.letters.getD k default = L := ⟨_, rfl⟩
   rw [hL] at hst hL1 hL2
   rcases hin with h | ⟨j, h, hj, _⟩
   · rw [h] at hst ⊢
     repeat' (first | refine aoQ rfl rfl rfl (fun hg => by first | exact PRun.eq (v := .iptr (Ed.encL (e.letters.getD ((k : Nat) : Int).toNat default))) (piW tabOk rfl rfl nd rfl nd rfl rfl (by omega)) (congrArg (fun x => AV.iptr (Ed.encL x)) (show e.letters.getD ((k : Nat) : Int).toNat default = L from hL)) | exact std0) (by exact rfl) ?_ | refine sqW ?_ | refine rgK (fun K' hK => ?_) | (refine aoN (hK _ _ ?_); clear hK K') | refine aoE (stW tabOk rfl rfl rfl tI rfl rfl tI rfl rfl rfl rfl rfl rfl rfl ?_) | refine aoE (alW tabOk rfl rfl rfl rfl rfl rfl ?_) | (refine cdW rfl tI (fun hc => ?_) (fun hc => ?_) <;> (first | (simp only [dEt] at hc) | (simp only [dEf, iNl, iNe] at hc) | skip)) | refine blK ?_ | refine exW ?_ | refine skW ?_ | refine dK2 (by decide +kernel) (by kernel_rfl) (by decide +kernel) rfl (fun K' hK => ?_) | (refine aqN (hK _ ?_); clear hK K') | refine aqQ rfl rfl (fun hg => by first | exact std0 | exact piW tabOk rfl rfl nd rfl nd rfl rfl (Bool.noConfusion (show false = true from hg)) | fail) (by exact rfl) ?_)
     all_goals first | (exfalso; omega) | skip
     · have h1 : sideL i before L = true := hc
       refine ⟨k + 1, by omega, by omega, ⟨rfl, rfl, rfl, rfl, congrArg AV.int (hst.trans (if_pos h1)).symm, rfl, rfl, rfl, tI⟩, rfl⟩
     · rename_i hc0
       have h1 : ¬ sideL i before L = true := by rw [show sideL i before L = false from hc0]; decide
       refine ⟨k + 1, by omega, by omega, ⟨rfl, rfl, rfl, rfl, congrArg AV.int (hst.trans ((if_neg h1).trans (if_pos (by decide)))).symm, rfl, rfl, rfl, tI⟩, rfl⟩
     · exfalso; simp at hc
   · rw [h] at hst ⊢
     obtain ⟨hB1, hB2⟩ := hlb j (by omega)
     obtain ⟨B, hB⟩ : ∃ B, e.letters.getD j default = B := ⟨_, rfl⟩
     rw [zAa, hB] at hst
     rw [hB] at hB1 hB2
     repeat' (first | refine aoQ rfl rfl rfl (fun hg => by first | exact PRun.eq (v := .iptr (Ed.encL (e.letters.getD ((k : Nat) : Int).toNat default))) (piW tabOk rfl rfl nd rfl nd rfl rfl (by omega)) (congrArg (fun x => AV.iptr (Ed.encL x)) (show e.letters.getD ((k : Nat) : Int).toNat default = L from hL)) | exact std0) (by exact rfl) ?_ | refine sqW ?_ | refine rgK (fun K' hK => ?_) | (refine aoN (hK _ _ ?_); clear hK K') | refine aoE (stW tabOk rfl rfl rfl tI rfl rfl tI rfl rfl rfl rfl rfl rfl rfl ?_) | refine aoE (alW tabOk rfl rfl rfl rfl rfl rfl ?_) | (refine cdW rfl tI (fun hc => ?_) (fun hc => ?_) <;> (first | (simp only [dEt] at hc) | (simp only [dEf, iNl, iNe] at hc) | skip)) | refine blK ?_ | refine exW ?_ | refine skW ?_ | refine dK2 (by decide +kernel) (by kernel_rfl) (by decide +kernel) rfl (fun K' hK => ?_) | (refine aqN (hK _ ?_); clear hK K') | refine aqQ rfl rfl (fun hg => by first | exact PRun.eq (v := .iptr (Ed.encL (e.letters.getD ((j : Nat) : Int).toNat default))) (piW tabOk rfl rfl nd rfl nd rfl rfl (by omega)) (congrArg (fun x => AV.iptr (Ed.encL x)) (show e.letters.getD ((j : Nat) : Int).toNat default = B from hB)) | exact std0) (by exact rfl) ?_)
     all_goals first | (exfalso; omega) | skip
     · have h1 : sideL i before L = true := hc
       refine ⟨k + 1, by omega, by omega, ⟨rfl, rfl, rfl, rfl, congrArg AV.int (hst.trans (if_pos h1)).symm, rfl, rfl, rfl, tI⟩, rfl⟩
     · rename_i hc0
       have h1 : ¬ sideL i before L = true := by rw [show sideL i before L = false from hc0]; decide
       have h2 : ¬ ((j : Nat) : Int) < 0 := by omega
       have h3 : max (L.pos - i) (i - L.pos) < max (B.pos - i) (i - B.pos) := by
        rw [decide_eq_false h2, zD5, zA0, dEt, dEt] at hc
        exact hc.2
       refine ⟨k + 1, by omega, by omega, ⟨rfl, rfl, rfl, rfl, congrArg AV.int (hst.trans ((if_neg h1).trans ((if_neg h2).trans (if_pos h3)))).symm, rfl, rfl, rfl, tI⟩, rfl⟩
     · rename_i hc0
       have h1 : ¬ sideL i before L = true := by rw [show sideL i before L = false from hc0]; decide
       have h2 : ¬ ((j : Nat) : Int) < 0 := by omega
       have h3 : ¬ max (L.pos - i) (i - L.pos) < max (B.pos - i) (i - B.pos) := by
        rw [decide_eq_false h2, zD5, decide_eq_true (show ((j : Nat) : Int) ≥ 0 by omega), zBd, dEf] at hc
        exact hc
       refine ⟨k + 1, by omega, by omega, ⟨rfl, rfl, rfl, rfl, congrArg AV.int (hst.trans ((if_neg h1).trans ((if_neg h2).trans (if_neg h3)))).symm, rfl, rfl, rfl, tI⟩, rfl⟩
 · have hkl : k = e.letters.length := by omega
   subst hkl
   rcases hin with h | ⟨j, h, hj, _⟩
   · rw [h]
     repeat' (first | refine aoQ rfl rfl rfl (fun hg => by first | exact std0 | exact pbD tabOk rfl rfl nds | exact std1) (by exact rfl) ?_ | refine sqW ?_ | refine rgK (fun K' hK => ?_) | (refine aoN (hK _ _ ?_); clear hK K') | refine aoE (stW tabOk rfl rfl rfl tI rfl rfl tI rfl rfl rfl rfl rfl rfl rfl ?_) | refine aoE (alW tabOk rfl rfl rfl rfl rfl rfl ?_) | (refine cdW rfl tI (fun hc => ?_) (fun hc => ?_) <;> (first | (simp only [dEt] at hc) | (simp only [dEf, iNl, iNe] at hc) | skip)) | refine blK ?_ | refine exW ?_ | refine skW ?_ | refine rtW ?_ | refine dK2 (by decide +kernel) (by kernel_rfl) (by decide +kernel) rfl (fun K' hK => ?_) | (refine aqN (hK _ ?_); clear hK K') | refine aqQ rfl rfl (fun hg => by first | exact std0 | exact std1) (by exact rfl) ?_)
     all_goals first | (exfalso; omega) | skip
     exact ⟨.inr rfl, _, rfl, Ent.of rfl⟩
   · rw [h]
     obtain ⟨B, hB⟩ : ∃ B, e.letters.getD j default = B := ⟨_, rfl⟩
     repeat' (first | refine aoQ rfl rfl rfl (fun hg => by first | exact std0 | exact std1) (by exact rfl) ?_ | refine sqW ?_ | refine rgK (fun K' hK => ?_) | (refine aoN (hK _ _ ?_); clear hK K') | refine aoE (stW tabOk rfl rfl rfl tI rfl rfl tI rfl rfl rfl rfl rfl rfl rfl ?_) | refine aoE (alW tabOk rfl rfl rfl rfl rfl rfl ?_) | (refine cdW rfl tI (fun hc => ?_) (fun hc => ?_) <;> (first | (simp only [dEt] at hc) | (simp only [dEf, iNl, iNe] at hc) | skip)) | refine blK ?_ | refine exW ?_ | refine skW ?_ | refine dK2 (by decide +kernel) (by kernel_rfl) (by decide +kernel) rfl (fun K' hK => ?_) | (refine aqN (hK _ ?_); clear hK K') | refine aqQ rfl rfl (fun hg => by first | exact std0 | exact std1) (by exact rfl) ?_)
     all_goals first | (exfalso; omega) | skip
     refine AWP.drawY (fun j => match j with | 0 => [.var [.str ⟨#[]⟩, .int 0, .int 0, .int 0, .int 0, .int 0]] | _ => [.var [.str B.name, .int 0, .int 0, .int 0, .int 0, .int 0]]) rfl (by kernel_rfl) (by decide +kernel) rfl (by decide +kernel) (fun K' hK => ?_)
     repeat' (first
      | refine yqQ (a := 0) (b := 0) rfl (by decide +kernel) (by decide +kernel) rfl rfl rfl (fun k h1 h2 hg => by (have hk : k = 0 := (by omega)); (rcases hk with rfl) <;> (first | exact PRun.eq (v := .iptr (Ed.encL (e.letters.getD ((j : Nat) : Int).toNat default))) (piW tabOk rfl rfl nd rfl nd rfl rfl (by omega)) (congrArg (fun x => AV.iptr (Ed.encL x)) (show e.letters.getD ((j : Nat) : Int).toNat default = B from hB)) | exact std0 | exact pbD tabOk rfl rfl nds | exact std1)) (by exact rfl) ?_
      | refine yqQ (a := 0) (b := 1) rfl (by decide +kernel) (by decide +kernel) rfl rfl rfl (fun k h1 h2 hg => by (have hk : k = 0 ∨ k = 1 := (by omega)); (rcases hk with rfl | rfl) <;> (first | exact PRun.eq (v := .iptr (Ed.encL (e.letters.getD ((j : Nat) : Int).toNat default))) (piW tabOk rfl rfl nd rfl nd rfl rfl (by omega)) (congrArg (fun x => AV.iptr (Ed.encL x)) (show e.letters.getD ((j : Nat) : Int).toNat default = B from hB)) | exact std0 | exact pbD tabOk rfl rfl nds | exact std1)) (by exact rfl) ?_
      | refine yqQ (a := 1) (b := 1) rfl (by decide +kernel) (by decide +kernel) rfl rfl rfl (fun k h1 h2 hg => by (have hk : k = 1 := (by omega)); (rcases hk with rfl) <;> (first | exact PRun.eq (v := .iptr (Ed.encL (e.letters.getD ((j : Nat) : Int).toNat default))) (piW tabOk rfl rfl nd rfl nd rfl rfl (by omega)) (congrArg (fun x => AV.iptr (Ed.encL x)) (show e.letters.getD ((j : Nat) : Int).toNat default = B from hB)) | exact std0 | exact pbD tabOk rfl rfl nds | exact std1)) (by exact rfl) ?_
      | refine yqQ (a := 0) (b := 2) rfl (by decide +kernel) (by decide +kernel) rfl rfl rfl (fun k h1 h2 hg => by (have hk : k = 0 ∨ k = 1 ∨ k = 2 := (by omega)); (rcases hk with rfl | rfl | rfl) <;> (first | exact PRun.eq (v := .iptr (Ed.encL (e.letters.getD ((j : Nat) : Int).toNat default))) (piW tabOk rfl rfl nd rfl nd rfl rfl (by omega)) (congrArg (fun x => AV.iptr (Ed.encL x)) (show e.letters.getD ((j : Nat) : Int).toNat default = B from hB)) | exact std0 | exact pbD tabOk rfl rfl nds | exact std1)) (by exact rfl) ?_
      | refine yqQ (a := 1) (b := 2) rfl (by decide +kernel) (by decide +kernel) rfl rfl rfl (fun k h1 h2 hg => by (have hk : k = 1 ∨ k = 2 := (by omega)); (rcases hk with rfl | rfl) <;> (first | exact PRun.eq (v := .iptr (Ed.encL (e.letters.getD ((j : Nat) : Int).toNat default))) (piW tabOk rfl rfl nd rfl nd rfl rfl (by omega)) (congrArg (fun x => AV.iptr (Ed.encL x)) (show e.letters.getD ((j : Nat) : Int).toNat default = B from hB)) | exact std0 | exact pbD tabOk rfl rfl nds | exact std1)) (by exact rfl) ?_
      | refine yqQ (a := 2) (b := 2) rfl (by decide +kernel) (by decide +kernel) rfl rfl rfl (fun k h1 h2 hg => by (have hk : k = 2 := (by omega)); (rcases hk with rfl) <;> (first | exact PRun.eq (v := .iptr (Ed.encL (e.letters.getD ((j : Nat) : Int).toNat default))) (piW tabOk rfl rfl nd rfl nd rfl rfl (by omega)) (congrArg (fun x => AV.iptr (Ed.encL x)) (show e.letters.getD ((j : Nat) : Int).toNat default = B from hB)) | exact std0 | exact pbD tabOk rfl rfl nds | exact std1)) (by exact rfl) ?_)
     refine YQ.e (v := .any) (d := none) rfl rfl rfl ?_ ?_
     · intro env' he
       exact stW tabOk rfl rfl ((rdv_congr (he 3 (by decide +kernel))).trans rfl) (by rw [rdn_congr (he 3 (by decide +kernel))]; first | exact tI | exact rfl) rfl ((rdv_congr (he 83 (by decide +kernel))).trans rfl) (by rw [rdn_congr (he 83 (by decide +kernel))]; first | exact tI | exact rfl) rfl rfl rfl rfl rfl rfl rfl ⟨rfl, rfl⟩
     repeat' (first
      | refine yqQ (a := 0) (b := 0) rfl (by decide +kernel) (by decide +kernel) rfl rfl rfl (fun k h1 h2 hg => by (have hk : k = 0 := (by omega)); (rcases hk with rfl) <;> (first | exact PRun.eq (v := .iptr (Ed.encL (e.letters.getD ((j : Nat) : Int).toNat default))) (piW tabOk rfl rfl nd rfl nd rfl rfl (by omega)) (congrArg (fun x => AV.iptr (Ed.encL x)) (show e.letters.getD ((j : Nat) : Int).toNat default = B from hB)) | exact std0 | exact pbD tabOk rfl rfl nds | exact std1)) (by exact rfl) ?_
      | refine yqQ (a := 0) (b := 1) rfl (by decide +kernel) (by decide +kernel) rfl rfl rfl (fun k h1 h2 hg => by (have hk : k = 0 ∨ k = 1 := (by omega)); (rcases hk with rfl | rfl) <;> (first | exact PRun.eq (v := .iptr (Ed.encL (e.letters.getD ((j : Nat) : Int).toNat default))) (piW tabOk rfl rfl nd rfl nd rfl rfl (by omega)) (congrArg (fun x => AV.iptr (Ed.encL x)) (show e.letters.getD ((j : Nat) : Int).toNat default = B from hB)) | exact std0 | exact pbD tabOk rfl rfl nds | exact std1)) (by exact rfl) ?_
      | refine yqQ (a := 1) (b := 1) rfl (by decide +kernel) (by decide +kernel) rfl rfl rfl (fun k h1 h2 hg => by (have hk : k = 1 := (by omega)); (rcases hk with rfl) <;> (first | exact PRun.eq (v := .iptr (Ed.encL (e.letters.getD ((j : Nat) : Int).toNat default))) (piW tabOk rfl rfl nd rfl nd rfl rfl (by omega)) (congrArg (fun x => AV.iptr (Ed.encL x)) (show e.letters.getD ((j : Nat) : Int).toNat default = B from hB)) | exact std0 | exact pbD tabOk rfl rfl nds | exact std1)) (by exact rfl) ?_
      | refine yqQ (a := 0) (b := 2) rfl (by decide +kernel) (by decide +kernel) rfl rfl rfl (fun k h1 h2 hg => by (have hk : k = 0 ∨ k = 1 ∨ k = 2 := (by omega)); (rcases hk with rfl | rfl | rfl) <;> (first | exact PRun.eq (v := .iptr (Ed.encL (e.letters.getD ((j : Nat) : Int).toNat default))) (piW tabOk rfl rfl nd rfl nd rfl rfl (by omega)) (congrArg (fun x => AV.iptr (Ed.encL x)) (show e.letters.getD ((j : Nat) : Int).toNat default = B from hB)) | exact std0 | exact pbD tabOk rfl rfl nds | exact std1)) (by exact rfl) ?_
      | refine yqQ (a := 1) (b := 2) rfl (by decide +kernel) (by decide +kernel) rfl rfl rfl (fun k h1 h2 hg => by (have hk : k = 1 ∨ k = 2 := (by omega)); (rcases hk with rfl | rfl) <;> (first | exact PRun.eq (v := .iptr (Ed.encL (e.letters.getD ((j : Nat) : Int).toNat default))) (piW tabOk rfl rfl nd rfl nd rfl rfl (by omega)) (congrArg (fun x => AV.iptr (Ed.encL x)) (show e.letters.getD ((j : Nat) : Int).toNat default = B from hB)) | exact std0 | exact pbD tabOk rfl rfl nds | exact std1)) (by exact rfl) ?_
      | refine yqQ (a := 2) (b := 2) rfl (by decide +kernel) (by decide +kernel) rfl rfl rfl (fun k h1 h2 hg => by (have hk : k = 2 := (by omega)); (rcases hk with rfl) <;> (first | exact PRun.eq (v := .iptr (Ed.encL (e.letters.getD ((j : Nat) : Int).toNat default))) (piW tabOk rfl rfl nd rfl nd rfl rfl (by omega)) (congrArg (fun x => AV.iptr (Ed.encL x)) (show e.letters.getD ((j : Nat) : Int).toNat default = B from hB)) | exact std0 | exact pbD tabOk rfl rfl nds | exact std1)) (by exact rfl) ?_)
     refine YQ.nil (hK _ _ ?_)
     clear hK K'
     repeat' (first | refine rtW ?_)
     refine ⟨.inr rfl, _, rfl, Ent.of ?_⟩
     have h2 : ¬ ((j : Nat) : Int) < 0 := by omega
     unfold nameL
     rw [if_neg h2, zAa, hB]; rfl
theorem goDown_succ (e : Ed.Edition) (n : Nat) (k : Int) : goDown e (n + 1) k = if k < 0 then -1 else if onceP e k then k else goDown e n (k - 1) := rfl
theorem goUp_succ (e : Ed.Edition) (n : Nat) (k : Int) : goUp e (n + 1) k = if (e.bars.length : Int) ≤ k then -1 else if onceP e k then k else goUp e n (k + 1) := rfl
def tmAL (l : List Ed.Printed) : List (Int × Int) := cntAL (l.map fun p => p.number)
theorem lk_tm (l : List Ed.Printed) (n : Int) : (lk (tmAL l) n).getD 0 = (l.countP (Ed.numP n) : Int) := by
 unfold tmAL
 rw [lk_cnt, List.count_eq_countP, List.countP_map]; rfl
set_option maxHeartbeats 2000000 in
theorem fn_down (e : Ed.Edition) (hw : Ed.Wf e) (hb4 : e.bars.length ≤ 4000) (i : Int) (hi : 0 ≤ i ∧ i < (e.bars.length : Int)) :
 PCall Tryz.prog 110 [.iptr [.int i], .iptr [.int (-1)], .iptr (Ed.encE e), .iptr [.imap (encM ekI AV.int (tmAL e.bars))]] (nmV (nameN e (goDown e 1001 i))) := by
 generalize hG : goDown e 1001 i = G
 refine PCall.bodyS tabOk Tryz.func110 rfl rfl Tryz.ntmps110 rfl ?_
 repeat' (first | refine aoQ rfl rfl rfl (fun hg => by exact std0) (by exact rfl) ?_ | refine sqW ?_ | refine rgK (fun K' hK => ?_) | (refine aoN (hK _ _ ?_); clear hK K') | refine aoE (alW tabOk rfl rfl rfl rfl rfl rfl ?_) | (refine cdW rfl tI (fun hc => ?_) (fun hc => ?_) <;> (first | (simp only [dEt] at hc) | (simp only [dEf, iNl, iNe] at hc) | skip)) | refine blK ?_ | refine skW ?_)
 all_goals first | (exfalso; omega) | skip
 refine lpD (ι := Nat × Int) (fun q => [(0, .iptr [.int i]), (1, .iptr [.int (-1)]), (2, .iptr (Ed.encE e)), (3, .iptr [.imap (encM ekI AV.int (tmAL e.bars))]), (4, .ptr 0 0), (7, .int q.2)]) (fun _ => [.var [.str ⟨#[]⟩, .int 0, .int 0, .int 0, .int 0, .int 0]])
  (fun q => (-1 ≤ q.2 ∧ q.2 ≤ i ∧ i - q.2 + q.1 = 1001) ∧ G = goDown e q.1 q.2) (fun q => q.1) 1 (fun _ => rfl) (1001, i) ⟨⟨by dsimp only; omega, zBh _, by dsimp only; omega⟩, hG.symm⟩ ⟨rfl, rfl, rfl, rfl, rfl, rfl, tI⟩ rfl (fun _ _ => rfl) (fun _ _ => rfl) ?_
 clear hG
 rintro ⟨n, k⟩ ⟨⟨hk1, hk2, hk3⟩, hg0⟩
 dsimp only at hk1 hk2 hk3 hg0 ⊢
 cases n with
 | zero =>
   have hg1 : G = -1 := hg0
   subst hg1
   repeat' (first | refine aoQ rfl rfl rfl (fun hg => by first | exact std0 | exact pbD tabOk rfl rfl nds | exact std1) (by exact rfl) ?_ | refine sqW ?_ | refine rgK (fun K' hK => ?_) | (refine aoN (hK _ _ ?_); clear hK K') | refine aoE (stW tabOk rfl rfl rfl tI rfl rfl tI rfl rfl rfl rfl rfl rfl rfl ?_) | (refine cdW rfl tI (fun hc => ?_) (fun hc => ?_) <;> (first | (simp only [dEt] at hc) | (simp only [dEf, iNl, iNe] at hc) | skip)) | refine blK ?_ | refine exW ?_ | refine skW ?_ | refine rtW ?_ | refine dK2 (by decide +kernel) (by kernel_rfl) (by decide +kernel) rfl (fun K' hK => ?_) | refine aqQ rfl rfl (fun hg => by exact std0) (by exact rfl) ?_)
   · exfalso; simp at hc; omega
   · exact ⟨.inr rfl, _, rfl, Ent.of rfl⟩
 | succ n =>
   rw [goDown_succ] at hg0
   by_cases hk : k < 0
   · rw [if_pos hk] at hg0
     subst hg0
     repeat' (first | refine aoQ rfl rfl rfl (fun hg => by first | exact std0 | exact pbD tabOk rfl rfl nds | exact std1) (by exact rfl) ?_ | refine sqW ?_ | refine rgK (fun K' hK => ?_) | (refine aoN (hK _ _ ?_); clear hK K') | refine aoE (stW tabOk rfl rfl rfl tI rfl rfl tI rfl rfl rfl rfl rfl rfl rfl ?_) | (refine cdW rfl tI (fun hc => ?_) (fun hc => ?_) <;> (first | (simp only [dEt] at hc) | (simp only [dEf, iNl, iNe] at hc) | skip)) | refine blK ?_ | refine exW ?_ | refine skW ?_ | refine rtW ?_ | refine dK2 (by decide +kernel) (by kernel_rfl) (by decide +kernel) rfl (fun K' hK => ?_) | refine aqQ rfl rfl (fun hg => by exact std0) (by exact rfl) ?_)
     · exfalso; simp at hc; omega
     · exact ⟨.inr rfl, _, rfl, Ent.of rfl⟩
   · rw [if_neg hk] at hg0
     obtain ⟨j, rfl⟩ : ∃ j : Nat, k = j := ⟨k.toNat, by omega⟩
     have hjl : j < e.bars.length := by omega
     obtain ⟨B, hB⟩ : ∃ B, e.bars.getD j default = B := ⟨_, rfl⟩
     have hon : onceP e j = ((lk (tmAL e.bars) B.number).getD 0 == 1) := by
      unfold onceP timesN
      rw [zAa, hB, lk_tm, zAl]; simp
      omega
     rw [hon] at hg0
     repeat' (first | refine aoQ rfl rfl rfl (fun hg => by first | exact PRun.eq (v := .iptr (Ed.encP (e.bars.getD ((j : Nat) : Int).toNat default))) (piW tabOk rfl rfl nd rfl nd rfl rfl (by omega)) (congrArg (fun x => AV.iptr (Ed.encP x)) (show e.bars.getD ((j : Nat) : Int).toNat default = B from hB)) | exact std0 | exact pbD tabOk rfl rfl nds | exact std1) (by exact rfl) ?_ | refine sqW ?_ | refine rgK (fun K' hK => ?_) | (refine aoN (hK _ _ ?_); clear hK K') | refine aoE (stW tabOk rfl rfl rfl tI rfl rfl tI rfl rfl rfl rfl rfl rfl rfl ?_) | (refine cdW rfl tI (fun hc => ?_) (fun hc => ?_) <;> (first | (simp only [dEt] at hc) | (simp only [dEf, iNl, iNe] at hc) | skip)) | refine blK ?_ | refine exW ?_ | refine skW ?_ | refine rtW ?_ | refine dK2 (by decide +kernel) (by kernel_rfl) (by decide +kernel) rfl (fun K' hK => ?_) | (refine aqN (hK _ ?_); clear hK K') | refine aqQ rfl rfl (fun hg => by first | exact PRun.eq (v := .iptr (Ed.encP (e.bars.getD ((j : Nat) : Int).toNat default))) (piW tabOk rfl rfl nd rfl nd rfl rfl (by omega)) (congrArg (fun x => AV.iptr (Ed.encP x)) (show e.bars.getD ((j : Nat) : Int).toNat default = B from hB)) | exact std0 | exact PRun.lookup (ek := ekI) (ev := AV.int) (zv := 0) (keyLaw_int (LOk.of (tabOk.get rfl))) (LOk.of (tabOk.get rfl)) (LOk.of (tabOk.get rfl)) rfl rfl (Rd.w rfl nd) (Or.inl rfl) (Rd.w rfl nd) rfl) (by exact rfl) ?_)
     · rw [if_pos hc] at hg0
       subst hg0
       have h2 : ¬ ((j : Nat) : Int) < 0 := by omega
       refine ⟨.inr rfl, _, rfl, Ent.of ?_⟩
       unfold nameN
       rw [if_neg h2, zAa, hB]; rfl
     · rw [if_neg (by rw [hc]; decide)] at hg0
       exact ⟨(n, (j : Int) + (-1)), ⟨⟨by dsimp only; omega, by dsimp only; omega, by dsimp only; omega⟩, by show G = goDown e n ((j : Int) + (-1)); rw [show (j : Int) + (-1) = j - 1 by omega]; exact hg0⟩, Nat.lt_succ_self _, ⟨rfl, rfl, rfl, rfl, rfl, rfl, tI⟩, rfl⟩
     · exfalso; simp at hc; omega
set_option maxHeartbeats 2000000 in
theorem fn_up (e : Ed.Edition) (hw : Ed.Wf e) (hb4 : e.bars.length ≤ 4000) (i : Int) (hi : 0 ≤ i ∧ i < (e.bars.length : Int)) :
 PCall Tryz.prog 110 [.iptr [.int i], .iptr [.int 1], .iptr (Ed.encE e), .iptr [.imap (encM ekI AV.int (tmAL e.bars))]] (nmV (nameN e (goUp e 1000 (i + 1)))) := by
 generalize hG : goUp e 1000 (i + 1) = G
 refine PCall.bodyS tabOk Tryz.func110 rfl rfl Tryz.ntmps110 rfl ?_
 repeat' (first | refine aoQ rfl rfl rfl (fun hg => by exact std0) (by exact rfl) ?_ | refine sqW ?_ | refine rgK (fun K' hK => ?_) | (refine aoN (hK _ _ ?_); clear hK K') | refine aoE (alW tabOk rfl rfl rfl rfl rfl rfl ?_) | (refine cdW rfl tI (fun hc => ?_) (fun hc => ?_) <;> (first | (simp only [dEt] at hc) | (simp only [dEf, iNl, iNe] at hc) | skip)) | refine blK ?_ | refine skW ?_)
 all_goals first | (exfalso; omega) | skip
 refine lpD (ι := Nat × Int) (fun q => [(0, .iptr [.int i]), (1, .iptr [.int (1)]), (2, .iptr (Ed.encE e)), (3, .iptr [.imap (encM ekI AV.int (tmAL e.bars))]), (4, .ptr 0 0), (7, .int q.2)]) (fun _ => [.var [.str ⟨#[]⟩, .int 0, .int 0, .int 0, .int 0, .int 0]])
  (fun q => (i + 1 ≤ q.2 ∧ q.2 - i + q.1 = 1001) ∧ G = goUp e q.1 q.2) (fun q => q.1) 1 (fun _ => rfl) (1000, i + 1) ⟨⟨zBh _, by dsimp only; omega⟩, hG.symm⟩ ⟨rfl, rfl, rfl, rfl, rfl, rfl, tI⟩ rfl (fun _ _ => rfl) (fun _ _ => rfl) ?_
 clear hG
 rintro ⟨n, k⟩ ⟨⟨hk1, hk3⟩, hg0⟩
 dsimp only at hk1 hk3 hg0 ⊢
 cases n with
 | zero =>
   have hg1 : G = -1 := hg0
   subst hg1
   repeat' (first | refine aoQ rfl rfl rfl (fun hg => by first | exact std0 | exact pbD tabOk rfl rfl nds | exact std1) (by exact rfl) ?_ | refine sqW ?_ | refine rgK (fun K' hK => ?_) | (refine aoN (hK _ _ ?_); clear hK K') | refine aoE (stW tabOk rfl rfl rfl tI rfl rfl tI rfl rfl rfl rfl rfl rfl rfl ?_) | (refine cdW rfl tI (fun hc => ?_) (fun hc => ?_) <;> (first | (simp only [dEt] at hc) | (simp only [dEf, iNl, iNe] at hc) | skip)) | refine blK ?_ | refine exW ?_ | refine skW ?_ | refine rtW ?_ | refine dK2 (by decide +kernel) (by kernel_rfl) (by decide +kernel) rfl (fun K' hK => ?_) | refine aqQ rfl rfl (fun hg => by exact std0) (by exact rfl) ?_)
   · exfalso; simp at hc; omega
   · exact ⟨.inr rfl, _, rfl, Ent.of rfl⟩
 | succ n =>
   rw [goUp_succ] at hg0
   by_cases hk : (e.bars.length : Int) ≤ k
   · rw [if_pos hk] at hg0
     subst hg0
     repeat' (first | refine aoQ rfl rfl rfl (fun hg => by first | exact std0 | exact pbD tabOk rfl rfl nds | exact std1) (by exact rfl) ?_ | refine sqW ?_ | refine rgK (fun K' hK => ?_) | (refine aoN (hK _ _ ?_); clear hK K') | refine aoE (stW tabOk rfl rfl rfl tI rfl rfl tI rfl rfl rfl rfl rfl rfl rfl ?_) | (refine cdW rfl tI (fun hc => ?_) (fun hc => ?_) <;> (first | (simp only [dEt] at hc) | (simp only [dEf, iNl, iNe] at hc) | skip)) | refine blK ?_ | refine exW ?_ | refine skW ?_ | refine rtW ?_ | refine dK2 (by decide +kernel) (by kernel_rfl) (by decide +kernel) rfl (fun K' hK => ?_) | refine aqQ rfl rfl (fun hg => by exact std0) (by exact rfl) ?_)
     · exfalso; simp at hc; omega
     · exact ⟨.inr rfl, _, rfl, Ent.of rfl⟩
   · rw [if_neg hk] at hg0
     obtain ⟨j, rfl⟩ : ∃ j : Nat, k = j := ⟨k.toNat, by omega⟩
     have hjl : j < e.bars.length := by omega
     obtain ⟨B, hB⟩ : ∃ B, e.bars.getD j default = B := ⟨_, rfl⟩
     have hon : onceP e j = ((lk (tmAL e.bars) B.number).getD 0 == 1) := by
      unfold onceP timesN
      rw [zAa, hB, lk_tm, zAl]; simp
      omega
     rw [hon] at hg0
     repeat' (first | refine aoQ rfl rfl rfl (fun hg => by first | exact PRun.eq (v := .iptr (Ed.encP (e.bars.getD ((j : Nat) : Int).toNat default))) (piW tabOk rfl rfl nd rfl nd rfl rfl (by omega)) (congrArg (fun x => AV.iptr (Ed.encP x)) (show e.bars.getD ((j : Nat) : Int).toNat default = B from hB)) | exact std0 | exact pbD tabOk rfl rfl nds | exact std1) (by exact rfl) ?_ | refine sqW ?_ | refine rgK (fun K' hK => ?_) | (refine aoN (hK _ _ ?_); clear hK K') | refine aoE (stW tabOk rfl rfl rfl tI rfl rfl tI rfl rfl rfl rfl rfl rfl rfl ?_) | (refine cdW rfl tI (fun hc => ?_) (fun hc => ?_) <;> (first | (simp only [dEt] at hc) | (simp only [dEf, iNl, iNe] at hc) | skip)) | refine blK ?_ | refine exW ?_ | refine skW ?_ | refine rtW ?_ | refine dK2 (by decide +kernel) (by kernel_rfl) (by decide +kernel) rfl (fun K' hK => ?_) | (refine aqN (hK _ ?_); clear hK K') | refine aqQ rfl rfl (fun hg => by first | exact PRun.eq (v := .iptr (Ed.encP (e.bars.getD ((j : Nat) : Int).toNat default))) (piW tabOk rfl rfl nd rfl nd rfl rfl (by omega)) (congrArg (fun x => AV.iptr (Ed.encP x)) (show e.bars.getD ((j : Nat) : Int).toNat default = B from hB)) | exact std0 | exact PRun.lookup (ek := ekI) (ev := AV.int) (zv := 0) (keyLaw_int (LOk.of (tabOk.get rfl))) (LOk.of (tabOk.get rfl)) (LOk.of (tabOk.get rfl)) rfl rfl (Rd.w rfl nd) (Or.inl rfl) (Rd.w rfl nd) rfl) (by exact rfl) ?_)
     · rw [if_pos hc] at hg0
       subst hg0
       have h2 : ¬ ((j : Nat) : Int) < 0 := by omega
       refine ⟨.inr rfl, _, rfl, Ent.of ?_⟩
       unfold nameN
       rw [if_neg h2, zAa, hB]; rfl
     · rw [if_neg (by rw [hc]; decide)] at hg0
       exact ⟨(n, (j : Int) + 1), ⟨⟨by dsimp only; omega, by dsimp only; omega⟩, hg0⟩, Nat.lt_succ_self _, ⟨rfl, rfl, rfl, rfl, rfl, rfl, tI⟩, rfl⟩
     · exfalso; simp at hc; omega
theorem fin1_spec (e : Ed.Edition) (i : Int) (b : Bool) : PCall Tryz.prog 107 [.b b, .iptr (Ed.encE e), .iptr [.int i]] (.fn (.func 108) [] [.iptr (Ed.encE e), .iptr [.int i], .iptr [.b b]]) := by
 refine PCall.body Tryz.func107 rfl rfl Tryz.ntmps107 rfl rfl ?_
 repeat' (first | refine aoQ rfl rfl rfl (fun hg => by exact std0) (by exact rfl) ?_ | refine sqW ?_ | refine rgK (fun K' hK => ?_) | (refine aoN (hK _ _ ?_); clear hK K') | refine aoE (bxW rfl rfl rfl rfl rfl tI rfl rfl ?_))
 refine AWP.freezeV 0 rfl rfl ?_
 exact rtW ⟨.inr rfl, fun _ _ h => h⟩
theorem fin2_spec (e : Ed.Edition) (i st : Int) (al : List (Value × AV)) : PCall Tryz.prog 109 [.int st, .iptr [.int i], .iptr (Ed.encE e), .iptr [.imap al]] (.fn (.func 110) [] [.iptr [.int i], .iptr [.int st], .iptr (Ed.encE e), .iptr [.imap al]]) := by
 refine PCall.body Tryz.func109 rfl rfl Tryz.ntmps109 rfl rfl ?_
 repeat' (first | refine aoQ rfl rfl rfl (fun hg => by exact std0) (by exact rfl) ?_ | refine sqW ?_ | refine rgK (fun K' hK => ?_) | (refine aoN (hK _ _ ?_); clear hK K') | refine aoE (bxW rfl rfl rfl rfl rfl tI rfl rfl ?_))
 refine AWP.freezeV 0 rfl rfl ?_
 exact rtW ⟨.inr rfl, fun _ _ h => h⟩
structure Fin where
 k : FuncId
 caps : List (List AV)
 res : Option Nm
instance : Inhabited Fin := ⟨⟨0, [], none⟩⟩
def encFi (c : Fin) : List AV := [.fn (.func c.k) [] (c.caps.map AV.iptr)]
def finL (e : Ed.Edition) (i : Int) : List Fin := [
 ⟨108, [Ed.encE e, [.int i], [.b true]], nameL e (bestL e i true e.letters.length)⟩,
 ⟨110, [[.int i], [.int (-1)], Ed.encE e, [.imap (encM ekI AV.int (tmAL e.bars))]], nameN e (goDown e 1001 i)⟩,
 ⟨108, [Ed.encE e, [.int i], [.b false]], nameL e (bestL e i false e.letters.length)⟩,
 ⟨110, [[.int i], [.int 1], Ed.encE e, [.imap (encM ekI AV.int (tmAL e.bars))]], nameN e (goUp e 1000 (i + 1))⟩]
theorem tmAL_succ {e : Ed.Edition} {k : Nat} (h : k < e.bars.length) : tmAL (e.bars.take (k + 1)) = ins (tmAL (e.bars.take k)) (e.bars.getD k default).number ((lk (tmAL (e.bars.take k)) (e.bars.getD k default).number).getD 0 + 1) := by
 unfold tmAL
 rw [zBi, zA1 h, zC2, getD_at' h]
 exact cntAL_snoc _ _
set_option maxHeartbeats 2000000 in
theorem finders_spec (e : Ed.Edition) (hw : Ed.Wf e) (hb4 : e.bars.length ≤ 4000) (i : Int) :
 PCall Tryz.prog 54 [.agg (Ed.encE e), .int i] (.sl 1 ((finL e i).map encFi) .no) := by
 have hq1 := fun b => TCall.val (first := []) (avs := [.b b]) (caps := [.iptr (Ed.encE e), .iptr [.int i]]) (PCall.tcall (σ := [.dead, .dead, .dead, .dead]) (fin1_spec e i b) (fun v hv => by
  rcases zB3.1 hv with rfl | hv
  · rfl
  rcases zB3.1 hv with rfl | hv
  · rfl
  rw [zAf.1 hv]; rfl))
 have hq2 := fun st => TCall.val (first := []) (avs := [.int st]) (caps := [.iptr [.int i], .iptr (Ed.encE e), .iptr [.imap (encM ekI AV.int (tmAL e.bars))]]) (PCall.tcall (σ := [.dead, .dead, .dead, .dead]) (fin2_spec e i st (encM ekI AV.int (tmAL e.bars))) (fun v hv => by
  rcases zB3.1 hv with rfl | hv
  · rfl
  rcases zB3.1 hv with rfl | hv
  · rfl
  rcases zB3.1 hv with rfl | hv
  · rfl
  rw [zAf.1 hv]; rfl))
 refine PCall.body Tryz.func54 rfl rfl Tryz.ntmps54 rfl rfl ?_
 repeat' (first | refine aoQ rfl rfl rfl (fun hg => by first | exact std0 | exact std1) (by exact rfl) ?_ | refine sqW ?_ | refine rgK (fun K' hK => ?_) | (refine aoN (hK _ _ ?_); clear hK K') | refine aoE (bxW rfl rfl rfl rfl rfl tI rfl rfl ?_) | refine aoE (stW tabOk rfl rfl rfl tI rfl rfl tI rfl rfl rfl rfl rfl rfl rfl ?_) | refine aoE (alW tabOk rfl rfl rfl rfl rfl rfl ?_) | refine aoE (EStep.makeMapW rfl rfl rfl rfl ?_) | refine blK ?_)
 refine lpD (ι := Nat) (fun k => [(2, .ptr 0 0), (3, .ptr 1 0), (5, .ptr 3 0), (12, .sl 3 (e.bars.map Ed.encP) .no), (13, .int e.bars.length), (14, .int k)]) (fun k => [.var (Ed.encE e), .var [.int i], .map (encM ekI AV.int (tmAL (e.bars.take k))), .var [.map 2]])
  (fun k => k ≤ e.bars.length) (fun k => e.bars.length - k) 4 (fun _ => rfl) 0 (nZl _) ⟨rfl, rfl, rfl, rfl, rfl, rfl, tI⟩ rfl (fun _ _ => rfl) (fun k _ => by simp [okObj, encM, okRef, Ed.encE]) ?_
 intro k hk
 by_cases hlt : k < e.bars.length
 · obtain ⟨B, hB⟩ : ∃ B, e.bars.getD k default = B := ⟨_, rfl⟩
   have hst := tmAL_succ hlt
   have hcnt : (lk (tmAL (e.bars.take k)) B.number).getD 0 ≤ 4000 := by
    rw [lk_tm]
    have := List.countP_le_length (p := Ed.numP B.number) (l := e.bars.take k)
    rw [zC4] at this
    omega
   have hcnt0 : 0 ≤ (lk (tmAL (e.bars.take k)) B.number).getD 0 := by rw [lk_tm]; omega
   rw [hB] at hst
   repeat' (first | refine aoQ rfl rfl rfl (fun hg => by first | exact PRun.eq (v := .iptr (Ed.encP (e.bars.getD ((k : Nat) : Int).toNat default))) (piW tabOk rfl rfl nd rfl nd rfl rfl (by omega)) (congrArg (fun x => AV.iptr (Ed.encP x)) (show e.bars.getD ((k : Nat) : Int).toNat default = B from hB)) | exact std0 | exact PRun.lookup (ek := ekI) (ev := AV.int) (zv := 0) (keyLaw_int (LOk.of (tabOk.get rfl))) (LOk.of (tabOk.get rfl)) (LOk.of (tabOk.get rfl)) rfl rfl (Rd.w rfl nd) (Or.inr ⟨_, rfl, rfl⟩) (Rd.w rfl nd) rfl) (by exact rfl) ?_ | refine sqW ?_ | refine rgK (fun K' hK => ?_) | (refine aoN (hK _ _ ?_); clear hK K') | refine aoE (stW tabOk rfl rfl rfl tI rfl rfl tI rfl rfl rfl rfl rfl rfl rfl ?_) | refine aoE (alW tabOk rfl rfl rfl rfl rfl rfl ?_) | refine aoE (EStep.mapUpd (ek := ekI) (ev := AV.int) (v := (lk (tmAL (e.bars.take k)) B.number).getD 0 + 1) (keyLaw_int (LOk.of (tabOk.get rfl))) (LOk.of (tabOk.get rfl)) rfl rfl rfl (Rd.w rfl tI) rfl (Rd.w rfl tI) rfl (Rd.w rfl tI) ?_) | (refine cdW rfl tI (fun hc => ?_) (fun hc => ?_) <;> (first | (simp only [dEt] at hc) | (simp only [dEf, iNl, iNe] at hc) | skip)) | refine blK ?_ | refine exW ?_ | refine skW ?_)
   all_goals first | (exfalso; omega) | skip
   refine ⟨k + 1, by omega, by omega, ⟨rfl, rfl, rfl, rfl, rfl, rfl, tI⟩, ?_⟩
   rw [hst]; rfl
 · have hkl : e.bars.take k = e.bars := zAi (by omega)
   rw [hkl]
   refine AWP.freezeMapV (ek := ekI) (ev := AV.int) (l := 2) (al := tmAL e.bars) rfl (pureE_flat fun _ => rfl) ?_
   refine AWP.freezeV 0 rfl rfl ?_
   refine AWP.freezeV 1 rfl rfl ?_
   refine AWP.freezeV 3 rfl rfl ?_
   refine AWP.keep [(2, .iptr (Ed.encE e)), (3, .iptr [.int i]), (5, .iptr [.imap (encM ekI AV.int (tmAL e.bars))]), (12, .sl 3 (e.bars.map Ed.encP) .no), (13, .int e.bars.length), (14, .int k)] ⟨rfl, rfl, rfl, rfl, rfl, rfl, tI⟩ ?_
   repeat' (first | refine aoQ rfl rfl rfl (fun hg => by first | exact std0 | exact PRun.callQ (hq1 _) rfl rfl nd rfl rfl nds | exact PRun.callQ (hq2 _) rfl rfl nd rfl rfl nds | exact pbD tabOk rfl rfl nds | exact pbS tabOk rfl rfl nds | exact std1) (by exact rfl) ?_ | refine sqW ?_ | refine rgK (fun K' hK => ?_) | (refine aoN (hK _ _ ?_); clear hK K') | refine aoE (stW tabOk rfl rfl rfl tI rfl rfl tI rfl rfl rfl rfl rfl rfl rfl ?_) | refine aoE (alW tabOk rfl rfl rfl rfl rfl rfl ?_) | (refine cdW rfl tI (fun hc => ?_) (fun hc => ?_) <;> (first | (simp only [dEt] at hc) | (simp only [dEf, iNl, iNe] at hc) | skip)) | refine blK ?_ | refine exW ?_ | refine skW ?_ | refine rtW ?_)
   all_goals first | (exfalso; omega) | skip
   exact ⟨.inr rfl, Ent.of rfl⟩
theorem fs_at : ∀ (l : List Fin) (k : Nat), k < l.length → (l.getD k default).res.isSome = true → (∀ j, j < k → (l.getD j default).res.isSome = false) → (l.map fun x => x.res).findSome? id = (l.getD k default).res
 | [], k, h, _, _ => absurd h (Nat.not_lt_zero _)
 | a :: l, 0, _, h, _ => by
   obtain ⟨x, hx⟩ := Option.isSome_iff_exists.1 h
   have hx : a.res = some x := hx
   show (a.res :: _).findSome? id = a.res
   rw [List.findSome?_cons, hx]; rfl
 | a :: l, k + 1, hk, h, hj => by
   have h0 : a.res = none := by simpa using hj 0 (zBp _)
   show (a.res :: _).findSome? id = (l.getD k default).res
   rw [List.findSome?_cons, h0]
   exact fs_at l k (by simpa using hk) h fun j hj' => hj (j + 1) (by omega)
theorem fs_no : ∀ (l : List Fin), (∀ j, j < l.length → (l.getD j default).res.isSome = false) → (l.map fun x => x.res).findSome? id = none
 | [], _ => rfl
 | a :: l, hj => by
   have h0 : a.res = none := by simpa using hj 0 (zBp _)
   show (a.res :: _).findSome? id = none
   rw [List.findSome?_cons, h0]
   exact fs_no l fun j hj' => hj (j + 1) (by simpa using hj')
theorem near_eq (e : Ed.Edition) (i : Int) : near e i = ((finL e i).map fun x => x.res).findSome? id := rfl
theorem nm_of_L {e : Ed.Edition} (hf : Ed.formB e = true) {i : Int} {b : Bool} {x : Nm} (h : nameL e (bestL e i b e.letters.length) = some x) : NmOk e i x := by
 rcases bestL_in (e := e) (i := i) (before := b) e.letters.length (nLr _) with h1 | ⟨j, h1, h2, h3⟩
 · rw [h1] at h; cases h
 · rw [h1] at h
   unfold nameL at h
   rw [if_neg (by omega), zAa] at h
   cases h
   have hl := letOk_at hf h2
   unfold Ed.letOk inB at hl
   simp only [zA0, dEt] at hl
   unfold sideL at h3
   simp only [zAk, dEf] at h3
   exact ⟨⟨hl.1.2.1, by show (e.letters.getD j default).pos < _; omega⟩, ⟨by show i - (e.letters.getD j default).pos ≤ 1000; omega, by show (e.letters.getD j default).pos - i ≤ 1000; omega⟩, .inl ⟨j, h2, rfl, rfl, rfl⟩⟩
theorem nm_of_N {e : Ed.Edition} {i k : Int} {x : Nm} (h : nameN e k = some x) (hk : k = -1 ∨ (0 ≤ k ∧ k < (e.bars.length : Int) ∧ onceP e k = true ∧ i - k ≤ 1000 ∧ k - i ≤ 1000)) : NmOk e i x := by
 rcases hk with rfl | ⟨h1, h2, h3, h4, h5⟩
 · cases h
 · unfold nameN at h
   rw [if_neg (by omega)] at h
   cases h
   exact ⟨⟨h1, h2⟩, ⟨h4, h5⟩, .inr ⟨rfl, rfl, h3⟩⟩
theorem near_ok {e : Ed.Edition} (hf : Ed.formB e = true) {i : Int} (hi : 0 ≤ i ∧ i < (e.bars.length : Int)) {x : Nm} (h : some x ∈ nearL e i) : NmOk e i x := by
 unfold nearL at h
 simp only [zB3, zCs, or_false] at h
 rcases h with h | h | h | h
 · exact nm_of_L hf h.symm
 · refine nm_of_N h.symm ?_
   rcases goDown_in (e := e) 1001 i hi.2 with h1 | ⟨h1, h2, h3, h4, h5⟩
   · exact .inl h1
   · exact .inr ⟨h1, h2, h3, by omega, by omega⟩
 · exact nm_of_L hf h.symm
 · refine nm_of_N h.symm ?_
   rcases goUp_in (e := e) 1000 (i + 1) (by omega) with h1 | ⟨h1, h2, h3, h4, h5⟩
   · exact .inl h1
   · exact .inr ⟨h1, h2, h3, by omega, by omega⟩
theorem capsU (c : List (List AV)) : ∀ v ∈ c.map AV.iptr, unb 4 v = v := fun v hv => by
 obtain ⟨cs, _, rfl⟩ := zB4.1 hv; rfl
theorem loc5_spec (c : Fin) (h : PCall Tryz.prog c.k (c.caps.map AV.iptr) (nmV c.res)) : PCall Tryz.prog 56 [.agg (encFi c)] (.b c.res.isSome) := by
 have hq := TCall.val (first := []) (avs := []) (PCall.tcall (σ := [.var (encFi c)]) h (capsU c.caps))
 cases hr : c.res with
 | none =>
   rw [hr] at hq
   unfold nmV at hq
   refine PCall.body Tryz.func56 rfl rfl Tryz.ntmps56 rfl rfl ?_
   repeat' (first | refine aoQ rfl rfl rfl (fun hg => by first | exact std0 | exact PRun.callQ (hq) rfl rfl nd rfl rfl nds) (by exact rfl) ?_ | refine sqW ?_ | refine rgK (fun K' hK => ?_) | (refine aoN (hK _ _ ?_); clear hK K') | refine aoE (bxW rfl rfl rfl rfl rfl tI rfl rfl ?_) | refine aoE (stW tabOk rfl rfl rfl tI rfl rfl tI rfl rfl rfl rfl rfl rfl rfl ?_) | refine aoE (alW tabOk rfl rfl rfl rfl rfl rfl ?_) | refine rtW ?_)
   exact ⟨.inr rfl, Ent.b rfl⟩
 | some x =>
   rw [hr] at hq
   unfold nmV at hq
   refine PCall.body Tryz.func56 rfl rfl Tryz.ntmps56 rfl rfl ?_
   repeat' (first | refine aoQ rfl rfl rfl (fun hg => by first | exact std0 | exact PRun.callQ (hq) rfl rfl nd rfl rfl nds) (by exact rfl) ?_ | refine sqW ?_ | refine rgK (fun K' hK => ?_) | (refine aoN (hK _ _ ?_); clear hK K') | refine aoE (bxW rfl rfl rfl rfl rfl tI rfl rfl ?_) | refine aoE (stW tabOk rfl rfl rfl tI rfl rfl tI rfl rfl rfl rfl rfl rfl rfl ?_) | refine aoE (alW tabOk rfl rfl rfl rfl rfl rfl ?_) | refine rtW ?_)
   exact ⟨.inr rfl, Ent.b rfl⟩
theorem idxFi_spec (l : List Fin) (h : ∀ k, k < l.length → PCall Tryz.prog (l.getD k default).k ((l.getD k default).caps.map AV.iptr) (nmV (l.getD k default).res)) (hl : l.length ≤ 1000000000) :
 PCall Tryz.prog 55 [.sl 1 (l.map encFi) .no, .fn (.func 56) [] []] (.int (findI (fun x => x.res.isSome) l)) := by
 refine PCall.bodyX [1] Tryz.func55 rfl rfl Tryz.ntmps55 rfl rfl ?_
 repeat' (first | refine aoQ rfl rfl rfl (fun hg => by first | exact std0 | exact std1) (by exact rfl) ?_ | refine sqW ?_ | refine rgK (fun K' hK => ?_) | (refine aoN (hK _ _ ?_); clear hK K') | refine blK ?_)
 refine lpW (ι := Nat) (fun k => [(0, .sl 1 (l.map encFi) .no), (1, .ext (.fn (.func 56) [] [])), (6, .sl 1 (l.map encFi) .no), (7, .int l.length), (8, .int k)]) (fun _ => []) (fun k => k ≤ l.length ∧ ∀ j, j < k → (l.getD j default).res.isSome = false) (fun k => l.length - k) 0 ⟨nZl _, fun j h => absurd h (by omega)⟩ ⟨rfl, rfl, rfl, rfl, rfl, tI⟩ rfl ?_
 rintro k ⟨hk, hall⟩
 by_cases hlt : k < l.length
 · have hv : FnCall Tryz.prog (.fn (.func 56) [] []) [.agg (encFi (l.getD k default))] (.b (l.getD k default).res.isSome) := ⟨_, [], [], rfl, loc5_spec _ (h k hlt)⟩
   have hv' : FnCall Tryz.prog (.fn (.func 56) [] []) [.agg [.fn (.func (l.getD k default).k) [] (((l.getD k default).caps.map AV.iptr).map (unb 2))]] (.b (l.getD k default).res.isSome) := by
    rw [show ((l.getD k default).caps.map AV.iptr).map (unb 2) = (l.getD k default).caps.map AV.iptr by rw [List.map_map]; rfl]; exact hv
   repeat' (first | refine aoQ rfl rfl rfl (fun hg => by first | exact std0 | exact PRun.callV (hv') rfl rfl nd rfl nds | exact std1) (by exact rfl) ?_ | refine sqW ?_ | refine rgK (fun K' hK => ?_) | (refine aoN (hK _ _ ?_); clear hK K') | (refine cdW rfl tI (fun hc => ?_) (fun hc => ?_) <;> (first | (simp only [dEt] at hc) | (simp only [dEf, iNl, iNe] at hc) | skip)) | refine blK ?_ | refine exW ?_ | refine skW ?_ | refine rtW ?_)
   all_goals first | (exfalso; omega) | skip
   · refine ⟨.inr rfl, ?_⟩
     rw [show findI (fun x : Fin => x.res.isSome) l = k from findI_at hlt hc hall]
     exact fun _ _ h => h
   · exact ⟨k + 1, ⟨by omega, fun j hj => lt_succ_cases hall hc hj⟩, by omega, ⟨rfl, rfl, rfl, rfl, rfl, tI⟩, rfl⟩
 · repeat' (first | refine aoQ rfl rfl rfl (fun hg => by first | exact std0 | exact std1) (by exact rfl) ?_ | refine sqW ?_ | refine rgK (fun K' hK => ?_) | (refine aoN (hK _ _ ?_); clear hK K') | (refine cdW rfl tI (fun hc => ?_) (fun hc => ?_) <;> (first | (simp only [dEt] at hc) | (simp only [dEf, iNl, iNe] at hc) | skip)) | refine blK ?_ | refine exW ?_ | refine skW ?_ | refine rtW ?_)
   all_goals first | (exfalso; omega) | skip
   refine ⟨.inr rfl, ?_⟩
   rw [show findI (fun x : Fin => x.res.isSome) l = -1 from findI_no fun j hj => hall j (by omega)]
   exact fun _ _ h => h
theorem loc1_spec (n hi : Int) : PCall Tryz.prog 48 [.int n, .int hi] (.b (inB n 1 hi)) := by
 refine PCall.body Tryz.func48 rfl rfl Tryz.ntmps48 rfl rfl ?_
 repeat' (first | refine aoQ rfl rfl rfl (fun hg => by exact std0) (by exact rfl) ?_ | refine sqW ?_ | refine rgK (fun K' hK => ?_) | (refine aoN (hK _ _ ?_); clear hK K') | refine rtW ?_)
 exact ⟨.inr rfl, Ent.b rfl⟩
theorem loc2_spec (s : Score) (hs : s.Small) (e : Ed.Edition) (hw : Ed.Wf e) (r : Room) (hf : FIn r.form) : PCall Tryz.prog 49 ([encS s, Ed.encE e, encRm r].map AV.iptr) (.prim (errV (if rightB s e r then 0 else 1))) := by
 have h1 := right_spec s hs e hw r hf
 refine PCall.body Tryz.func49 rfl rfl Tryz.ntmps49 rfl rfl ?_
 repeat' (first | refine aoQ rfl rfl rfl (fun hg => by first | exact std0 | exact pcW (h1) rfl rfl nd rfl nds) (by exact rfl) ?_ | refine sqW ?_ | refine rgK (fun K' hK => ?_) | (refine aoN (hK _ _ ?_); clear hK K') | refine rtW ?_)
 exact ⟨.inr rfl, fun _ _ h => h⟩
theorem loc3_spec (m : Mom) : PCall Tryz.prog 50 ([encMo m, [.fn (.func 48) [] []]].map AV.iptr) (.prim (errV (if momOk m then 0 else 1))) := by
 have v := rvalid_spec m.pos
 have hd : ratOk m.pos = true → m.pos.d ≠ 0 := fun h => by have := ratOk_iff.1 h; omega
 have h4 := need_spec (momOk m) 1 (by decide)
 have hq := fun n hi => TCall.val (first := []) (avs := [.int n, .int hi]) (caps := []) (PCall.tcall (σ := []) (loc1_spec n hi) (fun v hv => by
  rcases zB3.1 hv with rfl | hv
  · rfl
  rw [zAf.1 hv]; rfl))
 refine PCall.body Tryz.func50 rfl rfl Tryz.ntmps50 rfl rfl ?_
 repeat' (first | refine aoQ rfl rfl rfl (fun hg => by first | exact std0 | exact pcW (v) rfl rfl nd rfl nds | exact pcW (h4) rfl rfl nd rfl nds | exact PRun.callQ (hq _ _) rfl rfl nd rfl rfl nds) (by exact rfl) ?_ | refine sqW ?_ | refine rgK (fun K' hK => ?_) | (refine aoN (hK _ _ ?_); clear hK K') | refine rtW ?_)
 exact ⟨.inr rfl, fun _ _ h => h⟩
theorem loc4_spec (s : Score) (hs : s.Small) (hsc : scoreOk s = true) (r : Room) (hf : FIn r.form) (hform : formOk r.form = true) (m : Mom) : PCall Tryz.prog 52 ([encS s, encRm r, encMo m].map AV.iptr) (.prim (errV (reason s r m))) := by
 have h1 := inForce_spec s hs hsc r hf hform m
 refine PCall.body Tryz.func52 rfl rfl Tryz.ntmps52 rfl rfl ?_
 repeat' (first | refine aoQ rfl rfl rfl (fun hg => by first | exact std0 | exact pcW (h1) rfl rfl nd rfl nds) (by exact rfl) ?_ | refine sqW ?_ | refine rgK (fun K' hK => ?_) | (refine aoN (hK _ _ ?_); clear hK K') | refine rtW ?_)
 exact ⟨.inr rfl, fun _ _ h => h⟩
end Go.Proofs.YtdglbdfdkabjfaaGreatDoor.Pl
