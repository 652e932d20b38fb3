/- Contracts by content: the laws over carried marks: scores and marks of the example, what is usable.  Carried marks in plain words: the example's.  Carried marks in plain words: what the example's calls answer.  Contracts by content: the example of the laws over carried marks.  Contracts by content: the laws over carried marks: which scores and marks are few, which are usable. No statement is proved here. -/
import Derived.Test.YtekfpcgagoidcaaGreatDoorU16
import Derived.Test.YtekfpcgagoidcaaGreatDoorU24
import Derived.Test.YtekfpcgagoidcaaGreatDoorU28
set_option linter.unusedVariables false
set_option linter.unusedSimpArgs false
namespace Go.Proofs.YtekfpcgagoidcaaGreatDoor.Cy
open Go.Ab Go.Sort Al Mk
attribute [local irreducible] AWP AOps EStep AQ PStep PRun PCall TCall VCall
theorem lrat21_spec (n d : Int) : PCall Tryz.prog 97 [.int n, .int d] (.agg [.int n, .int d]) := by
 refine PCall.bodyS tabOk Tryz.func97 rfl rfl Tryz.ntmps97 rfl ?_
 repeat' (first | refine aoQ rfl rfl rfl (fun hg => by first | exact std0 | exact pbD tabOk rfl rfl nds) (by exact rfl) ?_ | refine sqW ?_ | refine rgK (fun K' hK => ?_) | (refine aoN (hK _ _ ?_); clear hK K') | refine aoE (stW tabOk rfl rfl rfl tI rfl rfl tI rfl rfl rfl rfl rfl rfl rfl ?_) | refine aoE (alW tabOk rfl rfl rfl rfl rfl rfl ?_) | refine rtW ?_)
 exact ⟨.inr rfl, _, rfl, Ent.of rfl⟩
def mk1 (id note : Int) : Jo.Mark := ⟨id, 2, 4, ⟨0, 0, 0⟩, 1, note, 0, []⟩
theorem mark21_spec (id note : Int) : PCall Tryz.prog 67 [.int id, .int note] (.agg (encMk (mk1 id note))) := by
 refine PCall.bodyS tabOk Tryz.func67 rfl rfl Tryz.ntmps67 rfl ?_
 repeat' (first | refine aoQ rfl rfl rfl (fun hg => by first | exact std0 | exact pbD tabOk rfl rfl nds) (by exact rfl) ?_ | refine sqW ?_ | refine rgK (fun K' hK => ?_) | (refine aoN (hK _ _ ?_); clear hK K') | refine aoE (stW tabOk rfl rfl rfl tI rfl rfl tI rfl rfl rfl rfl rfl rfl rfl ?_) | refine aoE (alW tabOk rfl rfl rfl rfl rfl rfl ?_) | refine rtW ?_)
 exact ⟨.inr rfl, _, rfl, Ent.of rfl⟩
def yBar (x : Int) : Bar := ⟨x, ⟨4, 1⟩, 0⟩
def yNote (x : Int) : Note := ⟨10 + x, 1, x, 0, 0, ⟨0, 1⟩, ⟨1, 1⟩, ⟨x, 0, 4⟩⟩
def yS (v : Int) (l : List Int) : Score := ⟨v, l.map yBar, [exP], l.map yNote⟩
def YW (v : Int) (B : List (List AV)) (nb : Nat) (N : List (List AV)) (nn : Nat) : Store := [.var [.int 0, .nils, .nils, .nils], .var [.int v, .sl 4 B (.own 2), .sl 13 [encP exP] .fresh, .sl 12 N (.own 3)], .own 4 nb, .own 12 nn]
set_option maxHeartbeats 8000000 in
set_option maxRecDepth 20000 in
theorem work21_spec (v : Int) (l : List Int) (hl : l.length ≤ 1000) (hin : ∀ x ∈ l, 0 ≤ x ∧ x ≤ 1000) : PCall Tryz.prog 66 [.int v, .sl 1 (l.map Al.encI) .no] (.agg (encS (yS v l))) := by
 have r1 := lrat21_spec 4 1
 have r2 := lrat21_spec 0 1
 have r3 := lrat21_spec 1 1
 refine PCall.bodyS tabOk Tryz.func66 rfl rfl Tryz.ntmps66 rfl ?_
 repeat' (first | refine aoQ rfl rfl rfl (fun hg => by first | exact std0 | exact pbD tabOk rfl rfl nds | exact pbS tabOk rfl rfl nds | exact std1) (by exact rfl) ?_ | refine sqW ?_ | refine rgK (fun K' hK => ?_) | (refine aoN (hK _ _ ?_); clear hK K') | refine aoE (stW tabOk rfl rfl rfl tI rfl rfl tI rfl rfl rfl rfl rfl rfl rfl ?_) | refine aoE (alW tabOk rfl rfl rfl rfl rfl rfl ?_) | refine blK ?_)
 refine AWP.ownNilV (v := 1) (i := 1) (sz := 4) rfl rfl ?_
 refine AWP.ownNilV (v := 1) (i := 3) (sz := 12) rfl rfl ?_
 refine lpD (ι := Nat) (fun k => [(4, .ptr 0 0), (5, .ptr 1 0), (13, .sl 1 (l.map Al.encI) .no), (14, .int l.length), (15, .int k)]) (fun k => YW v (((l.take k).map yBar).map encB) (((l.take k).map yBar).map encB).length (((l.take k).map yNote).map encN) (((l.take k).map yNote).map encN).length)
  (fun k => k ≤ l.length) (fun k => l.length - k) 4 (fun _ => rfl) 0 (nZl _) ⟨rfl, rfl, rfl, rfl, rfl, tI⟩ rfl (fun _ _ => rfl) (fun _ _ => rfl) ?_
 intro k hk
 have hl1 : ((l.take k).map yBar).length ≤ 1000 := by rw [lLm, zAl]; omega
 have hl2 : ((l.take k).map yNote).length ≤ 1000 := by rw [lLm, zAl]; omega
 by_cases hlt : k < l.length
 · obtain ⟨z, hz⟩ : ∃ z, l.getD k default = z := ⟨_, rfl⟩
   obtain ⟨z1, z2⟩ := hin z (by rw [← hz, getD_lt hlt]; exact lGm hlt)
   have e1 : (l.take (k + 1)).map yBar = (l.take k).map yBar ++ [yBar z] := by rw [takeS hlt, hz, zAs]; rfl
   have e2 : (l.take (k + 1)).map yNote = (l.take k).map yNote ++ [yNote z] := by rw [takeS hlt, hz, zAs]; rfl
   generalize (l.take k).map yBar = p1 at *
   generalize (l.take k).map yNote = p2 at *
   repeat' (first | refine aoQ rfl rfl rfl (fun hg => by first | exact PRun.eq (v := .iptr (Al.encI (l.getD ((k : Nat) : Int).toNat default))) (piW tabOk rfl rfl nd rfl nd rfl rfl (by omega)) (congrArg (fun x => AV.iptr (Al.encI x)) hz) | exact std0) (by exact rfl) ?_ | refine sqW ?_ | refine rgK (fun K' hK => ?_) | (refine aoN (hK _ _ ?_); clear hK K') | refine aoE (stW tabOk rfl rfl rfl tI rfl rfl tI rfl rfl rfl rfl rfl rfl rfl ?_) | refine cdN rfl tI (fun hc => ?_) (fun hc => ?_) | refine blK ?_ | refine exW ?_ | refine skW ?_ | refine rtW ?_)
   all_goals (first | exact dd | skip)
   refine AWP.drawYM effOp (fun j => match j with | 0 => YW v (p1.map encB) (p1.map encB).length (p2.map encN) (p2.map encN).length | 1 => YW v (p1.map encB) (p1.map encB ++ [encB (yBar z)]).length (p2.map encN) (p2.map encN).length | _ => YW v (p1.map encB ++ [encB (yBar z)]) (p1.map encB ++ [encB (yBar z)]).length (p2.map encN) (p2.map encN).length) rfl (by kernel_rfl) (by decide +kernel) rfl (by decide +kernel) (fun K' hK => ?_)
   repeat' (first
    | refine yqQ (a := 0) (b := 0) rfl (by decide +kernel) (by decide +kernel) rfl rfl rfl (fun k h1 h2 hg => by (have hk : k = 0 := (by omega)); (rcases hk with rfl) <;> (first | exact std0 | exact pcW (r1) rfl rfl nd rfl nds | exact pbD tabOk rfl rfl nds | exact pbS tabOk rfl rfl nds | exact std1)) (by exact rfl) ?_
    | refine yqQ (a := 0) (b := 1) rfl (by decide +kernel) (by decide +kernel) rfl rfl rfl (fun k h1 h2 hg => by (have hk : k = 0 ∨ k = 1 := (by omega)); (rcases hk with rfl | rfl) <;> (first | exact std0 | exact pcW (r1) rfl rfl nd rfl nds | exact pbD tabOk rfl rfl nds | exact pbS tabOk rfl rfl nds | exact std1)) (by exact rfl) ?_
    | refine yqQ (a := 1) (b := 1) rfl (by decide +kernel) (by decide +kernel) rfl rfl rfl (fun k h1 h2 hg => by (have hk : k = 1 := (by omega)); (rcases hk with rfl) <;> (first | exact std0 | exact pcW (r1) rfl rfl nd rfl nds | exact pbD tabOk rfl rfl nds | exact pbS tabOk rfl rfl nds | exact std1)) (by exact rfl) ?_
    | refine yqQ (a := 0) (b := 2) rfl (by decide +kernel) (by decide +kernel) rfl rfl rfl (fun k h1 h2 hg => by (have hk : k = 0 ∨ k = 1 ∨ k = 2 := (by omega)); (rcases hk with rfl | rfl | rfl) <;> (first | exact std0 | exact pcW (r1) rfl rfl nd rfl nds | exact pbD tabOk rfl rfl nds | exact pbS tabOk rfl rfl nds | exact std1)) (by exact rfl) ?_
    | refine yqQ (a := 1) (b := 2) rfl (by decide +kernel) (by decide +kernel) rfl rfl rfl (fun k h1 h2 hg => by (have hk : k = 1 ∨ k = 2 := (by omega)); (rcases hk with rfl | rfl) <;> (first | exact std0 | exact pcW (r1) rfl rfl nd rfl nds | exact pbD tabOk rfl rfl nds | exact pbS tabOk rfl rfl nds | exact std1)) (by exact rfl) ?_
    | refine yqQ (a := 2) (b := 2) rfl (by decide +kernel) (by decide +kernel) rfl rfl rfl (fun k h1 h2 hg => by (have hk : k = 2 := (by omega)); (rcases hk with rfl) <;> (first | exact std0 | exact pcW (r1) rfl rfl nd rfl nds | exact pbD tabOk rfl rfl nds | exact pbS tabOk rfl rfl nds | exact std1)) (by exact rfl) ?_)
   refine YQ.e (v := .sl 4 (p1.map encB ++ [encB (yBar z)]) (.own 2)) (d := some 25) rfl rfl rfl ?_ ?_
   · intro env' he
     exact apO (l := 2) tabOk rfl rfl rfl (by decide) (Rd.w ((rdv_congr (he 20 (by decide +kernel))).trans rfl) (by rw [rdn_congr (he 20 (by decide +kernel))]; first | exact tI | exact rfl)) rfl (Rd.w ((rdv_congr (he 24 (by decide +kernel))).trans rfl) (by rw [rdn_congr (he 24 (by decide +kernel))]; first | exact tI | exact rfl)) (.sl rfl (by intro x hx; rcases zAn.1 hx with rfl; rfl)) (LOk.of (tabOk.get rfl)) (LOk.of (tabOk.get rfl)) rfl rfl (by simp only [lLm, lLa, zA8, zAg]; omega) (by simp only [lLm, lLa, zA8, zAg]; omega) ⟨rfl, rfl⟩
   repeat' (first
    | refine yqQ (a := 0) (b := 0) rfl (by decide +kernel) (by decide +kernel) rfl rfl rfl (fun k h1 h2 hg => by (have hk : k = 0 := (by omega)); (rcases hk with rfl) <;> (first | exact std0 | exact std1)) (by exact rfl) ?_
    | refine yqQ (a := 0) (b := 1) rfl (by decide +kernel) (by decide +kernel) rfl rfl rfl (fun k h1 h2 hg => by (have hk : k = 0 ∨ k = 1 := (by omega)); (rcases hk with rfl | rfl) <;> (first | exact std0 | exact std1)) (by exact rfl) ?_
    | refine yqQ (a := 1) (b := 1) rfl (by decide +kernel) (by decide +kernel) rfl rfl rfl (fun k h1 h2 hg => by (have hk : k = 1 := (by omega)); (rcases hk with rfl) <;> (first | exact std0 | exact std1)) (by exact rfl) ?_
    | refine yqQ (a := 0) (b := 2) rfl (by decide +kernel) (by decide +kernel) rfl rfl rfl (fun k h1 h2 hg => by (have hk : k = 0 ∨ k = 1 ∨ k = 2 := (by omega)); (rcases hk with rfl | rfl | rfl) <;> (first | exact std0 | exact std1)) (by exact rfl) ?_
    | refine yqQ (a := 1) (b := 2) rfl (by decide +kernel) (by decide +kernel) rfl rfl rfl (fun k h1 h2 hg => by (have hk : k = 1 ∨ k = 2 := (by omega)); (rcases hk with rfl | rfl) <;> (first | exact std0 | exact std1)) (by exact rfl) ?_
    | refine yqQ (a := 2) (b := 2) rfl (by decide +kernel) (by decide +kernel) rfl rfl rfl (fun k h1 h2 hg => by (have hk : k = 2 := (by omega)); (rcases hk with rfl) <;> (first | exact std0 | exact std1)) (by exact rfl) ?_)
   refine YQ.e (v := .any) (d := none) rfl rfl rfl ?_ ?_
   · intro env' he
     exact stW tabOk rfl rfl ((rdv_congr (he 26 (by decide +kernel))).trans rfl) (by rw [rdn_congr (he 26 (by decide +kernel))]; first | exact tI | exact rfl) rfl ((rdv_congr (he 25 (by decide +kernel))).trans rfl) (by rw [rdn_congr (he 25 (by decide +kernel))]; first | exact tI | exact rfl) rfl rfl rfl rfl rfl rfl rfl ⟨rfl, rfl⟩
   repeat' (first
    | refine yqQ (a := 0) (b := 0) rfl (by decide +kernel) (by decide +kernel) rfl rfl rfl (fun k h1 h2 hg => by (have hk : k = 0 := (by omega)); (rcases hk with rfl) <;> (first | exact std0 | exact std1)) (by exact rfl) ?_
    | refine yqQ (a := 0) (b := 1) rfl (by decide +kernel) (by decide +kernel) rfl rfl rfl (fun k h1 h2 hg => by (have hk : k = 0 ∨ k = 1 := (by omega)); (rcases hk with rfl | rfl) <;> (first | exact std0 | exact std1)) (by exact rfl) ?_
    | refine yqQ (a := 1) (b := 1) rfl (by decide +kernel) (by decide +kernel) rfl rfl rfl (fun k h1 h2 hg => by (have hk : k = 1 := (by omega)); (rcases hk with rfl) <;> (first | exact std0 | exact std1)) (by exact rfl) ?_
    | refine yqQ (a := 0) (b := 2) rfl (by decide +kernel) (by decide +kernel) rfl rfl rfl (fun k h1 h2 hg => by (have hk : k = 0 ∨ k = 1 ∨ k = 2 := (by omega)); (rcases hk with rfl | rfl | rfl) <;> (first | exact std0 | exact std1)) (by exact rfl) ?_
    | refine yqQ (a := 1) (b := 2) rfl (by decide +kernel) (by decide +kernel) rfl rfl rfl (fun k h1 h2 hg => by (have hk : k = 1 ∨ k = 2 := (by omega)); (rcases hk with rfl | rfl) <;> (first | exact std0 | exact std1)) (by exact rfl) ?_
    | refine yqQ (a := 2) (b := 2) rfl (by decide +kernel) (by decide +kernel) rfl rfl rfl (fun k h1 h2 hg => by (have hk : k = 2 := (by omega)); (rcases hk with rfl) <;> (first | exact std0 | exact std1)) (by exact rfl) ?_)
   refine YQ.nil (hK _ _ ?_)
   clear hK K'
   show AWP _ _ _ _ _ (YW v (p1.map encB ++ [encB (yBar z)]) (p1.map encB ++ [encB (yBar z)]).length (p2.map encN) (p2.map encN).length)
   skip
   refine AWP.drawYM effOp (fun j => match j with | 0 => YW v (p1.map encB ++ [encB (yBar z)]) (p1.map encB ++ [encB (yBar z)]).length (p2.map encN) (p2.map encN).length | 1 => YW v (p1.map encB ++ [encB (yBar z)]) (p1.map encB ++ [encB (yBar z)]).length (p2.map encN) (p2.map encN ++ [encN (yNote z)]).length | _ => YW v (p1.map encB ++ [encB (yBar z)]) (p1.map encB ++ [encB (yBar z)]).length (p2.map encN ++ [encN (yNote z)]) (p2.map encN ++ [encN (yNote z)]).length) rfl (by kernel_rfl) (by decide +kernel) rfl (by decide +kernel) (fun K' hK => ?_)
   repeat' (first
    | refine yqQ (a := 0) (b := 0) rfl (by decide +kernel) (by decide +kernel) rfl rfl rfl (fun k h1 h2 hg => by (have hk : k = 0 := (by omega)); (rcases hk with rfl) <;> (first | exact std0 | exact pcW (r2) rfl rfl nd rfl nds | exact pcW (r3) rfl rfl nd rfl nds | exact pbD tabOk rfl rfl nds | exact pbS tabOk rfl rfl nds | exact std1)) (by exact rfl) ?_
    | refine yqQ (a := 0) (b := 1) rfl (by decide +kernel) (by decide +kernel) rfl rfl rfl (fun k h1 h2 hg => by (have hk : k = 0 ∨ k = 1 := (by omega)); (rcases hk with rfl | rfl) <;> (first | exact std0 | exact pcW (r2) rfl rfl nd rfl nds | exact pcW (r3) rfl rfl nd rfl nds | exact pbD tabOk rfl rfl nds | exact pbS tabOk rfl rfl nds | exact std1)) (by exact rfl) ?_
    | refine yqQ (a := 1) (b := 1) rfl (by decide +kernel) (by decide +kernel) rfl rfl rfl (fun k h1 h2 hg => by (have hk : k = 1 := (by omega)); (rcases hk with rfl) <;> (first | exact std0 | exact pcW (r2) rfl rfl nd rfl nds | exact pcW (r3) rfl rfl nd rfl nds | exact pbD tabOk rfl rfl nds | exact pbS tabOk rfl rfl nds | exact std1)) (by exact rfl) ?_
    | refine yqQ (a := 0) (b := 2) rfl (by decide +kernel) (by decide +kernel) rfl rfl rfl (fun k h1 h2 hg => by (have hk : k = 0 ∨ k = 1 ∨ k = 2 := (by omega)); (rcases hk with rfl | rfl | rfl) <;> (first | exact std0 | exact pcW (r2) rfl rfl nd rfl nds | exact pcW (r3) rfl rfl nd rfl nds | exact pbD tabOk rfl rfl nds | exact pbS tabOk rfl rfl nds | exact std1)) (by exact rfl) ?_
    | refine yqQ (a := 1) (b := 2) rfl (by decide +kernel) (by decide +kernel) rfl rfl rfl (fun k h1 h2 hg => by (have hk : k = 1 ∨ k = 2 := (by omega)); (rcases hk with rfl | rfl) <;> (first | exact std0 | exact pcW (r2) rfl rfl nd rfl nds | exact pcW (r3) rfl rfl nd rfl nds | exact pbD tabOk rfl rfl nds | exact pbS tabOk rfl rfl nds | exact std1)) (by exact rfl) ?_
    | refine yqQ (a := 2) (b := 2) rfl (by decide +kernel) (by decide +kernel) rfl rfl rfl (fun k h1 h2 hg => by (have hk : k = 2 := (by omega)); (rcases hk with rfl) <;> (first | exact std0 | exact pcW (r2) rfl rfl nd rfl nds | exact pcW (r3) rfl rfl nd rfl nds | exact pbD tabOk rfl rfl nds | exact pbS tabOk rfl rfl nds | exact std1)) (by exact rfl) ?_)
   refine YQ.e (v := .sl 12 (p2.map encN ++ [encN (yNote z)]) (.own 3)) (d := some 38) rfl rfl rfl ?_ ?_
   · intro env' he
     exact apO (l := 3) tabOk rfl rfl rfl (by decide) (Rd.w ((rdv_congr (he 28 (by decide +kernel))).trans rfl) (by rw [rdn_congr (he 28 (by decide +kernel))]; first | exact tI | exact rfl)) rfl (Rd.w ((rdv_congr (he 37 (by decide +kernel))).trans rfl) (by rw [rdn_congr (he 37 (by decide +kernel))]; first | exact tI | exact rfl)) (.sl rfl (by intro x hx; rcases zAn.1 hx with rfl; rfl)) (LOk.of (tabOk.get rfl)) (LOk.of (tabOk.get rfl)) rfl rfl (by simp only [lLm, lLa, zA8, zAg]; omega) (by simp only [lLm, lLa, zA8, zAg]; omega) ⟨rfl, rfl⟩
   repeat' (first
    | refine yqQ (a := 0) (b := 0) rfl (by decide +kernel) (by decide +kernel) rfl rfl rfl (fun k h1 h2 hg => by (have hk : k = 0 := (by omega)); (rcases hk with rfl) <;> (first | exact std0 | exact std1)) (by exact rfl) ?_
    | refine yqQ (a := 0) (b := 1) rfl (by decide +kernel) (by decide +kernel) rfl rfl rfl (fun k h1 h2 hg => by (have hk : k = 0 ∨ k = 1 := (by omega)); (rcases hk with rfl | rfl) <;> (first | exact std0 | exact std1)) (by exact rfl) ?_
    | refine yqQ (a := 1) (b := 1) rfl (by decide +kernel) (by decide +kernel) rfl rfl rfl (fun k h1 h2 hg => by (have hk : k = 1 := (by omega)); (rcases hk with rfl) <;> (first | exact std0 | exact std1)) (by exact rfl) ?_
    | refine yqQ (a := 0) (b := 2) rfl (by decide +kernel) (by decide +kernel) rfl rfl rfl (fun k h1 h2 hg => by (have hk : k = 0 ∨ k = 1 ∨ k = 2 := (by omega)); (rcases hk with rfl | rfl | rfl) <;> (first | exact std0 | exact std1)) (by exact rfl) ?_
    | refine yqQ (a := 1) (b := 2) rfl (by decide +kernel) (by decide +kernel) rfl rfl rfl (fun k h1 h2 hg => by (have hk : k = 1 ∨ k = 2 := (by omega)); (rcases hk with rfl | rfl) <;> (first | exact std0 | exact std1)) (by exact rfl) ?_
    | refine yqQ (a := 2) (b := 2) rfl (by decide +kernel) (by decide +kernel) rfl rfl rfl (fun k h1 h2 hg => by (have hk : k = 2 := (by omega)); (rcases hk with rfl) <;> (first | exact std0 | exact std1)) (by exact rfl) ?_)
   refine YQ.e (v := .any) (d := none) rfl rfl rfl ?_ ?_
   · intro env' he
     exact stW tabOk rfl rfl ((rdv_congr (he 39 (by decide +kernel))).trans rfl) (by rw [rdn_congr (he 39 (by decide +kernel))]; first | exact tI | exact rfl) rfl ((rdv_congr (he 38 (by decide +kernel))).trans rfl) (by rw [rdn_congr (he 38 (by decide +kernel))]; first | exact tI | exact rfl) rfl rfl rfl rfl rfl rfl rfl ⟨rfl, rfl⟩
   repeat' (first
    | refine yqQ (a := 0) (b := 0) rfl (by decide +kernel) (by decide +kernel) rfl rfl rfl (fun k h1 h2 hg => by (have hk : k = 0 := (by omega)); (rcases hk with rfl) <;> (first | exact std0 | exact std1)) (by exact rfl) ?_
    | refine yqQ (a := 0) (b := 1) rfl (by decide +kernel) (by decide +kernel) rfl rfl rfl (fun k h1 h2 hg => by (have hk : k = 0 ∨ k = 1 := (by omega)); (rcases hk with rfl | rfl) <;> (first | exact std0 | exact std1)) (by exact rfl) ?_
    | refine yqQ (a := 1) (b := 1) rfl (by decide +kernel) (by decide +kernel) rfl rfl rfl (fun k h1 h2 hg => by (have hk : k = 1 := (by omega)); (rcases hk with rfl) <;> (first | exact std0 | exact std1)) (by exact rfl) ?_
    | refine yqQ (a := 0) (b := 2) rfl (by decide +kernel) (by decide +kernel) rfl rfl rfl (fun k h1 h2 hg => by (have hk : k = 0 ∨ k = 1 ∨ k = 2 := (by omega)); (rcases hk with rfl | rfl | rfl) <;> (first | exact std0 | exact std1)) (by exact rfl) ?_
    | refine yqQ (a := 1) (b := 2) rfl (by decide +kernel) (by decide +kernel) rfl rfl rfl (fun k h1 h2 hg => by (have hk : k = 1 ∨ k = 2 := (by omega)); (rcases hk with rfl | rfl) <;> (first | exact std0 | exact std1)) (by exact rfl) ?_
    | refine yqQ (a := 2) (b := 2) rfl (by decide +kernel) (by decide +kernel) rfl rfl rfl (fun k h1 h2 hg => by (have hk : k = 2 := (by omega)); (rcases hk with rfl) <;> (first | exact std0 | exact std1)) (by exact rfl) ?_)
   refine YQ.nil (hK _ _ ?_)
   clear hK K'
   show AWP _ _ _ _ _ (YW v (p1.map encB ++ [encB (yBar z)]) (p1.map encB ++ [encB (yBar z)]).length (p2.map encN ++ [encN (yNote z)]) (p2.map encN ++ [encN (yNote z)]).length)
   repeat' (first | refine aoQ rfl rfl rfl (fun hg => by exact std0) (by exact rfl) ?_ | refine rgK (fun K' hK => ?_) | (refine aoN (hK _ _ ?_); clear hK K'))
   refine ⟨k + 1, hlt, by show l.length - (k + 1) < l.length - k; omega, ⟨rfl, rfl, rfl, rfl, rfl, tI⟩, ?_⟩
   show _ = YW v (((l.take (k + 1)).map yBar).map encB) (((l.take (k + 1)).map yBar).map encB).length (((l.take (k + 1)).map yNote).map encN) (((l.take (k + 1)).map yNote).map encN).length
   rw [e1, e2, zAs, zAs]; rfl
 · obtain rfl : k = l.length := by omega
   rw [zB9] at *
   repeat' (first | refine aoQ rfl rfl rfl (fun hg => by first | exact std0 | exact std1) (by exact rfl) ?_ | refine sqW ?_ | refine rgK (fun K' hK => ?_) | (refine aoN (hK _ _ ?_); clear hK K') | refine aoE (stW tabOk rfl rfl rfl tI rfl rfl tI rfl rfl rfl rfl rfl rfl rfl ?_) | refine cdN rfl tI (fun hc => ?_) (fun hc => ?_) | refine blK ?_ | refine exW ?_ | refine skW ?_ | refine rtW ?_)
   all_goals (first | exact dd | skip)
   exact ⟨.inr rfl, _, rfl, Ent.of rfl⟩
end Go.Proofs.YtekfpcgagoidcaaGreatDoor.Cy
namespace Go.Proofs.YtekfpcgagoidcaaGreatDoor.Cy
open Go.Ab Go.Sort Al Mk
def y1 : Score := yS 1 [1, 2, 3]
def y2 : Score := yS 2 [1, 3]
def y3 : Score := yS 3 [1, 2, 3]
def exL : List Score := [y1, y2, y3]
theorem y1_ok : scoreOk y1 = true := by rw [scoreOk_eq]; decide +kernel
theorem y2_ok : scoreOk y2 = true := by rw [scoreOk_eq]; decide +kernel
theorem y3_ok : scoreOk y3 = true := by rw [scoreOk_eq]; decide +kernel
theorem y12_p : alignR (costR y1 y2) 3 2 = [(0, 0), (2, 1)] := by unfold alignR; rw [← backF_back _ 6 3 2 (by decide)]; decide +kernel
theorem y13_p : alignR (costR y1 y3) 3 3 = [(0, 0), (1, 1), (2, 2)] := by unfold alignR; rw [← backF_back _ 7 3 3 (by decide)]; decide +kernel
theorem exL_vers : versOk exL = true := by
 unfold versOk
 have h : ∀ k, k < 3 → stepV exL k = true := fun k hk => by
  unfold stepV
  match k, hk with
  | 0, _ => rw [show atS exL 0 = y1 from rfl, y1_ok]; rfl
  | 1, _ => rw [show atS exL 1 = y2 from rfl, y2_ok]; rfl
  | 2, _ => rw [show atS exL 2 = y3 from rfl, y3_ok]; rfl
 rw [show exL.length = 3 from rfl, zA7.2 fun k hk => h k (zB2.1 hk)]; rfl
theorem exL_find1 : findV exL 1 = 0 := by decide +kernel
theorem exL_find2 : findV exL 2 = 1 := by decide +kernel
theorem exL_find3 : findV exL 3 = 2 := by decide +kernel
theorem map12 : mapF exL 2 y2 1 = insL [] (notesM y1 y2 [(0, 0), (2, 1)]) := by
 unfold mapF mapW
 rw [if_neg (by decide), exL_find1, if_neg (by decide), show atS exL (0 : Int).toNat = y1 from rfl, show y1.bars.length = 3 from rfl, show y2.bars.length = 2 from rfl, y12_p]; rfl
theorem map13 : mapF exL 3 y3 1 = insL [] (notesM y1 y3 [(0, 0), (1, 1), (2, 2)]) := by
 unfold mapF mapW
 rw [if_neg (by decide), exL_find1, if_neg (by decide), show atS exL (0 : Int).toNat = y1 from rfl, show y1.bars.length = 3 from rfl, show y3.bars.length = 3 from rfl, y13_p]; rfl
def mk2 (id v note : Int) : Jo.Mark := ⟨id, 2, 4, ⟨0, 0, 0⟩, v, note, 0, []⟩
theorem c52 : carryM exL 2 y2 (mk1 5 12) = none := by
 unfold carryM
 rw [show (mk1 5 12).version = 1 from rfl, map12]; decide +kernel
theorem c62 : carryM exL 2 y2 (mk1 6 13) = some (mk2 6 2 13) := by
 unfold carryM
 rw [show (mk1 6 13).version = 1 from rfl, map12]; decide +kernel
theorem c53 : carryM exL 3 y3 (mk1 5 12) = some (mk2 5 3 12) := by
 unfold carryM
 rw [show (mk1 5 12).version = 1 from rfl, map13]; decide +kernel
theorem c63 : carryM exL 3 y3 (mk1 6 13) = some (mk2 6 3 13) := by
 unfold carryM
 rw [show (mk1 6 13).version = 1 from rfl, map13]; decide +kernel
def exMs : List Jo.Mark := [mk1 5 12, mk1 6 13]
theorem exMs_ok : marksOk exMs = true := by decide +kernel
theorem exA2 : allR exL exMs 2 = (([mk2 6 2 13], [mk1 5 12]), 0) := by
 unfold allR argsOk
 rw [exL_vers, exMs_ok, if_pos (by decide), exL_find2, if_neg (by decide), show atS exL (1 : Int).toNat = y2 from rfl]
 unfold placedL heldL exMs
 simp [c52, c62]
theorem exA3 : allR exL exMs 3 = (([mk2 5 3 12, mk2 6 3 13], []), 0) := by
 unfold allR argsOk
 rw [exL_vers, exMs_ok, if_pos (by decide), exL_find3, if_neg (by decide), show atS exL (2 : Int).toNat = y3 from rfl]
 unfold placedL heldL exMs
 simp [c53, c63]
theorem exC3 : carryR exL (mk1 5 12) 3 = (some (mk2 5 3 12), 0) := by
 unfold carryR argOk
 rw [exL_vers, show Jo.markOk (mk1 5 12) = true by decide +kernel, if_pos (by decide), exL_find3, if_neg (by decide), show atS exL (2 : Int).toNat = y3 from rfl, c53]
theorem exC2 : carryR exL (mk1 5 12) 2 = (none, 0) := by
 unfold carryR argOk
 rw [exL_vers, show Jo.markOk (mk1 5 12) = true by decide +kernel, if_pos (by decide), exL_find2, if_neg (by decide), show atS exL (1 : Int).toNat = y2 from rfl, c52]
theorem exC4 : carryR exL (mk1 5 12) 4 = (none, 32) := by
 unfold carryR argOk
 rw [exL_vers, show Jo.markOk (mk1 5 12) = true by decide +kernel, if_pos (by decide), if_pos (by decide +kernel)]
theorem exD_vers : versOk [y2, y3] = true := by
 unfold versOk
 have h : ∀ k, k < 2 → stepV [y2, y3] k = true := fun k hk => by
  unfold stepV
  match k, hk with
  | 0, _ => rw [show atS [y2, y3] 0 = y2 from rfl, y2_ok]; rfl
  | 1, _ => rw [show atS [y2, y3] 1 = y3 from rfl, y3_ok]; rfl
 rw [show [y2, y3].length = 2 from rfl, zA7.2 fun k hk => h k (zB2.1 hk)]; rfl
theorem exCd : carryR [y2, y3] (mk1 5 12) 2 = (none, 0) := by
 unfold carryR argOk
 rw [exD_vers, show Jo.markOk (mk1 5 12) = true by decide +kernel, if_pos (by decide), show findV [y2, y3] 2 = 0 by decide +kernel, if_neg (by decide), show atS [y2, y3] (0 : Int).toNat = y2 from rfl]
 unfold carryM mapF mapW
 rw [if_neg (by decide), if_pos (by decide +kernel)]; rfl
theorem exA0 : allR [] exMs 2 = (([], []), 1) := by
 unfold allR argsOk
 rw [show versOk [] = false from rfl, if_neg (by simp)]
theorem exL_few : ∀ s ∈ exL, few12 s = true := fun s hs => by
 simp only [exL, zB6, zCa, or_false] at hs
 rcases hs with rfl | rfl | rfl <;> decide +kernel
end Go.Proofs.YtekfpcgagoidcaaGreatDoor.Cy
namespace Go.Proofs.YtekfpcgagoidcaaGreatDoor.Cy
open Go.Ab Go.Sort Al Mk
attribute [local irreducible] AWP AOps EStep AQ PStep PRun PCall TCall VCall
set_option maxHeartbeats 16000000 in
set_option maxRecDepth 20000 in
theorem head21_spec : PCall Tryz.prog 30 [] (.b true) := by
 have w1 := work21_spec 1 [1, 2, 3] (by decide) (by decide)
 have w2 := work21_spec 2 [1, 3] (by decide) (by decide)
 have w3 := work21_spec 3 [1, 2, 3] (by decide) (by decide)
 rw [show yS 1 [1, 2, 3] = y1 from rfl] at w1
 rw [show yS 2 [1, 3] = y2 from rfl] at w2
 rw [show yS 3 [1, 2, 3] = y3 from rfl] at w3
 have m1 := mark21_spec 5 12
 have m2 := mark21_spec 6 13
 have ht : TextsIn exMs := fun m hm => by
  simp only [exMs, zB6, zCa, or_false] at hm
  rcases hm with rfl | rfl <;> decide
 have hf2 : ∀ s ∈ [y2, y3], few12 s = true := fun s hs => exL_few s (zAm _ hs)
 have a2 := All_spec exL (by decide) exL_few exMs (by decide) ht 2
 have a3 := All_spec exL (by decide) exL_few exMs (by decide) ht 3
 have a0 := PCall.argE (u := .nils) Ent.nil (All_spec [] (by decide) (fun s hs => by cases hs) exMs (by decide) ht 2)
 have c3 := Carry_spec exL (by decide) exL_few (mk1 5 12) (by decide) 3
 have c2 := Carry_spec exL (by decide) exL_few (mk1 5 12) (by decide) 2
 have c4 := Carry_spec exL (by decide) exL_few (mk1 5 12) (by decide) 4
 have cd := Carry_spec [y2, y3] (by decide) hf2 (mk1 5 12) (by decide) 2
 rw [exA2] at a2
 rw [exA3] at a3
 rw [exA0] at a0
 rw [exC3] at c3
 rw [exC2] at c2
 rw [exC4] at c4
 rw [exCd] at cd
 unfold tupA at a2 a3 a0
 unfold tupC at c3 c2 c4 cd
 unfold exL exMs at *
 generalize y1 = A at *
 generalize y2 = B at *
 generalize y3 = C at *
 clear hf2 ht
 dsimp only [zBq, Option.getD_none, Option.isSome_some, Option.isSome_none] at a2 a3 a0 c3 c2 c4 cd
 refine PCall.body Tryz.func30 rfl rfl Tryz.ntmps30 rfl rfl ?_
 repeat' (first | refine aoQ rfl rfl rfl (fun hg => by first | exact piW (α := Jo.Mark) (l := [mk1 5 12, mk1 6 13]) (f := encMk) tabOk rfl rfl nd rfl nd rfl rfl ⟨by decide, by decide⟩ | exact std0 | exact pcW (w1) rfl rfl nd rfl nds | exact pcW (w2) rfl rfl nd rfl nds | exact pcW (w3) rfl rfl nd rfl nds | exact pcW (m1) rfl rfl nd rfl nds | exact pcW (m2) rfl rfl nd rfl nds | exact pbS tabOk rfl rfl nds | exact pcW (a2) rfl rfl nd rfl nds | exact pcW (a3) rfl rfl nd rfl nds | exact pcW (c3) rfl rfl nd rfl nds | exact pcW (c2) rfl rfl nd rfl nds) (by exact rfl) ?_ | refine sqW ?_ | refine rgK (fun K' hK => ?_) | (refine aoN (hK _ _ ?_); clear hK K') | refine aoE (stW tabOk rfl rfl rfl tI rfl rfl tI rfl rfl rfl rfl rfl rfl rfl ?_) | refine aoE (alW tabOk rfl rfl rfl rfl rfl rfl ?_))
 refine AWP.drawYM effOp (fun j => match j with | 0 => [.var (encMk (mk2 5 3 12)), .var (encMk Jo.noMark)] | 1 => [.var (encMk (mk2 5 3 12)), .var (encMk Jo.noMark), .var zeroMk] | _ => [.var (encMk (mk2 5 3 12)), .var (encMk Jo.noMark), .var (encMk Jo.noMark)]) rfl (by kernel_rfl) (by decide +kernel) rfl (by decide +kernel) (fun K' hK => ?_)
 repeat' (first
  | refine yqQ (a := 0) (b := 0) rfl (by decide +kernel) (by decide +kernel) rfl rfl rfl (fun k h1 h2 hg => by (have hk : k = 0 := (by omega)); (rcases hk with rfl) <;> (first | exact PRun.sliceLoM (α := Score) (al := [A, B, C]) (f := encS) tabOk rfl rfl nd rfl nd rfl (by simp) | exact piW (α := Jo.Mark) (l := [mk1 5 12, mk1 6 13]) (f := encMk) tabOk rfl rfl nd rfl nd rfl rfl ⟨by decide, by decide⟩ | exact std0 | exact pcW (cd) rfl rfl nd rfl nds | exact std1)) (by exact rfl) ?_
  | refine yqQ (a := 0) (b := 1) rfl (by decide +kernel) (by decide +kernel) rfl rfl rfl (fun k h1 h2 hg => by (have hk : k = 0 ∨ k = 1 := (by omega)); (rcases hk with rfl | rfl) <;> (first | exact PRun.sliceLoM (α := Score) (al := [A, B, C]) (f := encS) tabOk rfl rfl nd rfl nd rfl (by simp) | exact piW (α := Jo.Mark) (l := [mk1 5 12, mk1 6 13]) (f := encMk) tabOk rfl rfl nd rfl nd rfl rfl ⟨by decide, by decide⟩ | exact std0 | exact pcW (cd) rfl rfl nd rfl nds | exact std1)) (by exact rfl) ?_
  | refine yqQ (a := 1) (b := 1) rfl (by decide +kernel) (by decide +kernel) rfl rfl rfl (fun k h1 h2 hg => by (have hk : k = 1 := (by omega)); (rcases hk with rfl) <;> (first | exact PRun.sliceLoM (α := Score) (al := [A, B, C]) (f := encS) tabOk rfl rfl nd rfl nd rfl (by simp) | exact piW (α := Jo.Mark) (l := [mk1 5 12, mk1 6 13]) (f := encMk) tabOk rfl rfl nd rfl nd rfl rfl ⟨by decide, by decide⟩ | exact std0 | exact pcW (cd) rfl rfl nd rfl nds | exact std1)) (by exact rfl) ?_
  | refine yqQ (a := 0) (b := 2) rfl (by decide +kernel) (by decide +kernel) rfl rfl rfl (fun k h1 h2 hg => by (have hk : k = 0 ∨ k = 1 ∨ k = 2 := (by omega)); (rcases hk with rfl | rfl | rfl) <;> (first | exact PRun.sliceLoM (α := Score) (al := [A, B, C]) (f := encS) tabOk rfl rfl nd rfl nd rfl (by simp) | exact piW (α := Jo.Mark) (l := [mk1 5 12, mk1 6 13]) (f := encMk) tabOk rfl rfl nd rfl nd rfl rfl ⟨by decide, by decide⟩ | exact std0 | exact pcW (cd) rfl rfl nd rfl nds | exact std1)) (by exact rfl) ?_
  | refine yqQ (a := 1) (b := 2) rfl (by decide +kernel) (by decide +kernel) rfl rfl rfl (fun k h1 h2 hg => by (have hk : k = 1 ∨ k = 2 := (by omega)); (rcases hk with rfl | rfl) <;> (first | exact PRun.sliceLoM (α := Score) (al := [A, B, C]) (f := encS) tabOk rfl rfl nd rfl nd rfl (by simp) | exact piW (α := Jo.Mark) (l := [mk1 5 12, mk1 6 13]) (f := encMk) tabOk rfl rfl nd rfl nd rfl rfl ⟨by decide, by decide⟩ | exact std0 | exact pcW (cd) rfl rfl nd rfl nds | exact std1)) (by exact rfl) ?_
  | refine yqQ (a := 2) (b := 2) rfl (by decide +kernel) (by decide +kernel) rfl rfl rfl (fun k h1 h2 hg => by (have hk : k = 2 := (by omega)); (rcases hk with rfl) <;> (first | exact PRun.sliceLoM (α := Score) (al := [A, B, C]) (f := encS) tabOk rfl rfl nd rfl nd rfl (by simp) | exact piW (α := Jo.Mark) (l := [mk1 5 12, mk1 6 13]) (f := encMk) tabOk rfl rfl nd rfl nd rfl rfl ⟨by decide, by decide⟩ | exact std0 | exact pcW (cd) rfl rfl nd rfl nds | exact std1)) (by exact rfl) ?_)
 refine YQ.e (v := .ptr 2 0) (d := some 15) rfl rfl rfl ?_ ?_
 · intro env' he
   exact alW tabOk rfl rfl rfl rfl rfl rfl ⟨rfl, rfl⟩
 repeat' (first
  | refine yqQ (a := 0) (b := 0) rfl (by decide +kernel) (by decide +kernel) rfl rfl rfl (fun k h1 h2 hg => by (have hk : k = 0 := (by omega)); (rcases hk with rfl) <;> (first | exact PRun.sliceLoM (α := Score) (al := [A, B, C]) (f := encS) tabOk rfl rfl nd rfl nd rfl (by simp) | exact piW (α := Jo.Mark) (l := [mk1 5 12, mk1 6 13]) (f := encMk) tabOk rfl rfl nd rfl nd rfl rfl ⟨by decide, by decide⟩ | exact std0 | exact pcW (cd) rfl rfl nd rfl nds | exact std1)) (by exact rfl) ?_
  | refine yqQ (a := 0) (b := 1) rfl (by decide +kernel) (by decide +kernel) rfl rfl rfl (fun k h1 h2 hg => by (have hk : k = 0 ∨ k = 1 := (by omega)); (rcases hk with rfl | rfl) <;> (first | exact PRun.sliceLoM (α := Score) (al := [A, B, C]) (f := encS) tabOk rfl rfl nd rfl nd rfl (by simp) | exact piW (α := Jo.Mark) (l := [mk1 5 12, mk1 6 13]) (f := encMk) tabOk rfl rfl nd rfl nd rfl rfl ⟨by decide, by decide⟩ | exact std0 | exact pcW (cd) rfl rfl nd rfl nds | exact std1)) (by exact rfl) ?_
  | refine yqQ (a := 1) (b := 1) rfl (by decide +kernel) (by decide +kernel) rfl rfl rfl (fun k h1 h2 hg => by (have hk : k = 1 := (by omega)); (rcases hk with rfl) <;> (first | exact PRun.sliceLoM (α := Score) (al := [A, B, C]) (f := encS) tabOk rfl rfl nd rfl nd rfl (by simp) | exact piW (α := Jo.Mark) (l := [mk1 5 12, mk1 6 13]) (f := encMk) tabOk rfl rfl nd rfl nd rfl rfl ⟨by decide, by decide⟩ | exact std0 | exact pcW (cd) rfl rfl nd rfl nds | exact std1)) (by exact rfl) ?_
  | refine yqQ (a := 0) (b := 2) rfl (by decide +kernel) (by decide +kernel) rfl rfl rfl (fun k h1 h2 hg => by (have hk : k = 0 ∨ k = 1 ∨ k = 2 := (by omega)); (rcases hk with rfl | rfl | rfl) <;> (first | exact PRun.sliceLoM (α := Score) (al := [A, B, C]) (f := encS) tabOk rfl rfl nd rfl nd rfl (by simp) | exact piW (α := Jo.Mark) (l := [mk1 5 12, mk1 6 13]) (f := encMk) tabOk rfl rfl nd rfl nd rfl rfl ⟨by decide, by decide⟩ | exact std0 | exact pcW (cd) rfl rfl nd rfl nds | exact std1)) (by exact rfl) ?_
  | refine yqQ (a := 1) (b := 2) rfl (by decide +kernel) (by decide +kernel) rfl rfl rfl (fun k h1 h2 hg => by (have hk : k = 1 ∨ k = 2 := (by omega)); (rcases hk with rfl | rfl) <;> (first | exact PRun.sliceLoM (α := Score) (al := [A, B, C]) (f := encS) tabOk rfl rfl nd rfl nd rfl (by simp) | exact piW (α := Jo.Mark) (l := [mk1 5 12, mk1 6 13]) (f := encMk) tabOk rfl rfl nd rfl nd rfl rfl ⟨by decide, by decide⟩ | exact std0 | exact pcW (cd) rfl rfl nd rfl nds | exact std1)) (by exact rfl) ?_
  | refine yqQ (a := 2) (b := 2) rfl (by decide +kernel) (by decide +kernel) rfl rfl rfl (fun k h1 h2 hg => by (have hk : k = 2 := (by omega)); (rcases hk with rfl) <;> (first | exact PRun.sliceLoM (α := Score) (al := [A, B, C]) (f := encS) tabOk rfl rfl nd rfl nd rfl (by simp) | exact piW (α := Jo.Mark) (l := [mk1 5 12, mk1 6 13]) (f := encMk) tabOk rfl rfl nd rfl nd rfl rfl ⟨by decide, by decide⟩ | exact std0 | exact pcW (cd) rfl rfl nd rfl nds | exact std1)) (by exact rfl) ?_)
 refine YQ.e (v := .any) (d := none) rfl rfl rfl ?_ ?_
 · intro env' he
   exact stW tabOk rfl rfl ((rdv_congr (he 15 (by decide +kernel))).trans rfl) (by rw [rdn_congr (he 15 (by decide +kernel))]; first | exact tI | exact rfl) rfl ((rdv_congr (he 75 (by decide +kernel))).trans rfl) (by rw [rdn_congr (he 75 (by decide +kernel))]; first | exact tI | exact rfl) rfl rfl rfl rfl rfl rfl rfl ⟨rfl, rfl⟩
 repeat' (first
  | refine yqQ (a := 0) (b := 0) rfl (by decide +kernel) (by decide +kernel) rfl rfl rfl (fun k h1 h2 hg => by (have hk : k = 0 := (by omega)); (rcases hk with rfl) <;> (first | exact std0 | exact std1)) (by exact rfl) ?_
  | refine yqQ (a := 0) (b := 1) rfl (by decide +kernel) (by decide +kernel) rfl rfl rfl (fun k h1 h2 hg => by (have hk : k = 0 ∨ k = 1 := (by omega)); (rcases hk with rfl | rfl) <;> (first | exact std0 | exact std1)) (by exact rfl) ?_
  | refine yqQ (a := 1) (b := 1) rfl (by decide +kernel) (by decide +kernel) rfl rfl rfl (fun k h1 h2 hg => by (have hk : k = 1 := (by omega)); (rcases hk with rfl) <;> (first | exact std0 | exact std1)) (by exact rfl) ?_
  | refine yqQ (a := 0) (b := 2) rfl (by decide +kernel) (by decide +kernel) rfl rfl rfl (fun k h1 h2 hg => by (have hk : k = 0 ∨ k = 1 ∨ k = 2 := (by omega)); (rcases hk with rfl | rfl | rfl) <;> (first | exact std0 | exact std1)) (by exact rfl) ?_
  | refine yqQ (a := 1) (b := 2) rfl (by decide +kernel) (by decide +kernel) rfl rfl rfl (fun k h1 h2 hg => by (have hk : k = 1 ∨ k = 2 := (by omega)); (rcases hk with rfl | rfl) <;> (first | exact std0 | exact std1)) (by exact rfl) ?_
  | refine yqQ (a := 2) (b := 2) rfl (by decide +kernel) (by decide +kernel) rfl rfl rfl (fun k h1 h2 hg => by (have hk : k = 2 := (by omega)); (rcases hk with rfl) <;> (first | exact std0 | exact std1)) (by exact rfl) ?_)
 refine YQ.nil (hK _ _ ?_)
 clear hK K'
 show AWP _ _ _ _ _ [.var (encMk (mk2 5 3 12)), .var (encMk Jo.noMark), .var (encMk Jo.noMark)]
 repeat' (first | refine aoQ rfl rfl rfl (fun hg => by first | exact piW (α := Jo.Mark) (l := [mk1 5 12, mk1 6 13]) (f := encMk) tabOk rfl rfl nd rfl nd rfl rfl ⟨by decide, by decide⟩ | exact std0 | exact pcW (c4) rfl rfl nd rfl nds | exact pcW (a0) rfl rfl nd rfl nds | exact pcW (m1) rfl rfl nd rfl nds | exact pcW (m2) rfl rfl nd rfl nds) (by exact rfl) ?_ | refine sqW ?_ | refine rgK (fun K' hK => ?_) | (refine aoN (hK _ _ ?_); clear hK K') | refine aoE (stW tabOk rfl rfl rfl tI rfl rfl tI rfl rfl rfl rfl rfl rfl rfl ?_) | refine aoE (alW tabOk rfl rfl rfl rfl rfl rfl ?_) | refine cdN rfl tI (fun hc => ?_) (fun hc => ?_) | refine skW ?_ | refine rtW ?_)
 all_goals (first | exact dd | skip)
 refine dK2 (by decide +kernel) (by kernel_rfl) (by decide +kernel) rfl (fun K' hK => ?_)
 repeat' (first | refine rtW ?_ | (refine aqN (hK _ ?_); clear hK K') | refine aqQ rfl rfl (fun hg => by first | exact piW (α := Jo.Mark) (l := [mk1 5 12, mk1 6 13]) (f := encMk) tabOk rfl rfl nd rfl nd rfl rfl ⟨by decide, by decide⟩ | exact piW (α := Jo.Mark) (l := [mk2 5 3 12, mk2 6 3 13]) (f := encMk) tabOk rfl rfl nd rfl nd rfl rfl ⟨by decide, by decide⟩ | exact piW (α := Jo.Mark) (l := [mk1 5 12]) (f := encMk) tabOk rfl rfl nd rfl nd rfl rfl ⟨by decide, by decide⟩ | exact piW (α := Jo.Mark) (l := [mk2 6 2 13]) (f := encMk) tabOk rfl rfl nd rfl nd rfl rfl ⟨by decide, by decide⟩ | exact std0 | exact PRun.eqN Mk.flM rfl rfl nd rfl nd rfl | exact std1) (by exact rfl) ?_)
 exact ⟨.inr rfl, Ent.b (by decide +kernel)⟩
theorem fewL_no {l : List Score} {n k : Nat} (hk : k < l.length) (h4 : k ≤ 4) (h : few12 (l.getD k default) = false) : fewL l n = false := by
 unfold fewL
 have : (l.take 5).all few12 = false := by
  rw [List.all_eq_false]
  refine ⟨l.getD k default, ?_, by rw [h]; decide⟩
  rw [getD_lt hk]
  exact List.mem_take_iff_getElem.2 ⟨k, by omega, rfl⟩
 rw [this]; rfl
theorem fewL_yes {l : List Score} {n k : Nat} (hk : k = l.length ∨ k = 5) (h : ∀ j, j < k → few12 (l.getD j default) = true) : fewL l n = (decide ((l.length : Int) ≤ 4) && decide ((n : Int) ≤ 12)) := by
 unfold fewL
 have : (l.take 5).all few12 = true := by
  rw [zA7]
  intro s hs
  obtain ⟨j, hj, rfl⟩ := List.mem_take_iff_getElem.1 hs
  have := h j (by omega)
  rwa [getD_lt (by omega)] at this
 rw [this, zC6]
set_option maxHeartbeats 8000000 in
set_option maxRecDepth 20000 in
theorem few21_spec (l : List Score) (hl : l.length ≤ 9223372036854775807) (hsz : ∀ s ∈ l, s.Sized) (ms : List Jo.Mark) (hms : ms.length ≤ 9223372036854775807) : PCall Tryz.prog 31 [.sl 4 (l.map encS) .no, .sl 10 (ms.map encMk) .no] (.b (fewL l ms.length)) := by
 refine PCall.body Tryz.func31 rfl rfl Tryz.ntmps31 rfl rfl ?_
 repeat' (first | refine aoQ rfl rfl rfl (fun hg => by exact std0) (by exact rfl) ?_ | refine sqW ?_ | refine rgK (fun K' hK => ?_) | (refine aoN (hK _ _ ?_); clear hK K') | refine blK ?_)
 refine lpW (ι := Nat) (fun k => [(0, .sl 4 (l.map encS) .no), (1, .sl 10 (ms.map encMk) .no), (5, .int k)]) (fun _ => []) (fun k => k ≤ l.length ∧ k ≤ 5 ∧ ∀ j, j < k → few12 (l.getD j default) = true) (fun k => l.length - k) 0 ⟨nZl _, nZl _, fun j h => absurd h (by omega)⟩ ⟨rfl, rfl, rfl, tI⟩ rfl ?_
 rintro k ⟨hk, h5, hall⟩
 by_cases hlt : k < l.length ∧ k ≤ 4
 · obtain ⟨hlt, h4⟩ := hlt
   obtain ⟨s, hs⟩ : ∃ s, l.getD k default = s := ⟨_, rfl⟩
   have hv := few12_spec s (hsz s (by rw [← hs]; exact getD_mem hlt))
   cases ho : few12 s with
   | false =>
     rw [ho] at hv
     repeat' (first | refine aoQ rfl rfl rfl (fun hg => by first | exact iX encS l (((k) : Nat) : Int) hs (hb := by omega) | exact std0 | exact pcW (hv) rfl rfl nd rfl nds | exact std1) (by exact rfl) ?_ | refine sqW ?_ | refine rgK (fun K' hK => ?_) | (refine aoN (hK _ _ ?_); clear hK K') | refine cdN rfl tI (fun hc => ?_) (fun hc => ?_) | refine blK ?_ | refine exW ?_ | refine skW ?_ | refine rtW ?_)
     all_goals (first | (exact ⟨.inr rfl, Ent.b (Eq.symm (fewL_no hlt h4 (by rw [hs]; exact ho)))⟩) | (exfalso; simp at hc; done) | (exfalso; simp at hc; omega))
   | true =>
     rw [ho] at hv
     repeat' (first | refine aoQ rfl rfl rfl (fun hg => by first | exact iX encS l (((k) : Nat) : Int) hs (hb := by omega) | exact std0 | exact pcW (hv) rfl rfl nd rfl nds | exact std1) (by exact rfl) ?_ | refine sqW ?_ | refine rgK (fun K' hK => ?_) | (refine aoN (hK _ _ ?_); clear hK K') | refine cdN rfl tI (fun hc => ?_) (fun hc => ?_) | refine blK ?_ | refine exW ?_ | refine skW ?_ | refine rtW ?_)
     all_goals (first | (exact ⟨k + 1, ⟨by omega, by omega, fun j hj => by
      rcases nLg j k with g | g
      · exact hall j g
      · obtain rfl : j = k := (by omega)
        rw [hs]; exact ho⟩, by omega, ⟨rfl, rfl, rfl, tI⟩, rfl⟩) | (exfalso; simp at hc; done) | (exfalso; simp at hc; omega))
 · repeat' (first | refine aoQ rfl rfl rfl (fun hg => by first | exact std0 | exact std1) (by exact rfl) ?_ | refine sqW ?_ | refine rgK (fun K' hK => ?_) | (refine aoN (hK _ _ ?_); clear hK K') | refine cdN rfl tI (fun hc => ?_) (fun hc => ?_) | refine blK ?_ | refine exW ?_ | refine skW ?_ | refine rtW ?_)
   all_goals (first | (exact ⟨.inr rfl, Ent.b (Eq.symm (fewL_yes (k := k) (by omega) hall))⟩) | (exfalso; simp at hc; omega))
end Go.Proofs.YtekfpcgagoidcaaGreatDoor.Cy
