/- Contracts by content: a mark of an unknown layer; a mark of the program.  Contracts by content: one event is right; small functions of the journal. No statement is proved here. -/
import Derived.Test.YtbneeinknlddaaaGreatQ17
set_option linter.unusedVariables false
set_option linter.unusedSimpArgs false
namespace Go.Proofs.YtbneeinknlddaaaGreat
open Go.Ab Go.Jo
attribute [local irreducible] AWP AOps EStep AQ PStep PRun PCall TCall VCall DStep TDies AWD DCall
set_option maxHeartbeats 1600000 in
set_option maxRecDepth 20000 in
theorem mvalid0 (m : Jo.Mark) (h : m.layer ≠ 1 ∧ m.layer ≠ 2 ∧ m.layer ≠ 3 ∧ m.layer ≠ 4) (ht : m.text.length ≤ 9223372036854775807) : PCall Tryz.prog 71 [.agg (Go.Proofs.YtbneeinknlddaaaGreat.encM m)] (.b (markOk m)) := by
 have hlk : lk [((1 : Int), (1 : Nat)), (2, 2), (3, 3), (4, 4)] m.layer = none := by simp only [lk]; rw [if_neg (Ne.symm h.1), if_neg (Ne.symm h.2.1), if_neg (Ne.symm h.2.2.1), if_neg (Ne.symm h.2.2.2)]
 have hby : byOk m.layer m.who = false := by unfold byOk; rw [if_neg h.1, if_neg h.2.1, if_neg h.2.2.1, if_neg h.2.2.2]
 refine PCall.body Tryz.func71 rfl rfl Tryz.ntmps71 rfl rfl ?_
 repeat' (first | refine aoQ rfl rfl rfl (fun hg => by first | exact std0 | exact std1) (by exact rfl) ?_ | refine sqW ?_ | refine rgK (fun K' hK => ?_) | (refine aoN (hK _ _ ?_); clear hK K') | refine aoE (bxW rfl rfl rfl rfl rfl tI rfl rfl ?_) | refine aoE (stW tabOk rfl rfl rfl tI rfl rfl tI rfl rfl rfl rfl rfl rfl rfl ?_) | refine aoE (alW tabOk rfl rfl rfl rfl rfl rfl ?_) | refine cdN rfl tI (fun hc => ?_) (fun hc => ?_) | refine blK ?_ | refine exW ?_ | refine skW ?_ | refine rtW ?_ | (refine aqN (hK _ ?_); clear hK K') | refine aqN ?_ | refine aqQ rfl rfl (fun hg => by first | exact std0 | exact std1) (by exact rfl) ?_)
 refine AWP.drawY (fun k => match k with | 0 => [.var (Go.Proofs.YtbneeinknlddaaaGreat.encM m)] | 1 => [.var (Go.Proofs.YtbneeinknlddaaaGreat.encM m), .var [.prim .nilFunc, .prim .nilFunc]] | _ => [.var (Go.Proofs.YtbneeinknlddaaaGreat.encM m), .var [.prim .nilFunc, .prim .nilFunc]]) rfl (by kernel_rfl) (by decide +kernel) rfl (by decide +kernel) (fun K' hK => ?_)
 repeat' (first
  | refine yqQ (a := 0) (b := 0) rfl (by decide +kernel) (by decide +kernel) rfl rfl rfl (fun k h1 h2 hg => by (have hk : k = 0 := (by omega)); (rcases hk with rfl) <;> (first | exact std0 | exact pcW (layers_spec) rfl rfl nd rfl nds | exact PRun.lookupV (ek := ekI) (ev := layF) (zv := 0) hlk (keyLaw_int (LOk.of (tabOk.get rfl))) (LOk.of (tabOk.get rfl)) (LOk.of (tabOk.get rfl)) rfl rfl (Rd.w rfl nd) (Or.inl rfl) (Rd.w rfl nd) rfl | exact std1)) (by exact rfl) ?_
  | refine yqQ (a := 0) (b := 1) rfl (by decide +kernel) (by decide +kernel) rfl rfl rfl (fun k h1 h2 hg => by (have hk : k = 0 ∨ k = 1 := (by omega)); (rcases hk with rfl | rfl) <;> (first | exact std0 | exact pcW (layers_spec) rfl rfl nd rfl nds | exact PRun.lookupV (ek := ekI) (ev := layF) (zv := 0) hlk (keyLaw_int (LOk.of (tabOk.get rfl))) (LOk.of (tabOk.get rfl)) (LOk.of (tabOk.get rfl)) rfl rfl (Rd.w rfl nd) (Or.inl rfl) (Rd.w rfl nd) rfl | exact std1)) (by exact rfl) ?_
  | refine yqQ (a := 1) (b := 1) rfl (by decide +kernel) (by decide +kernel) rfl rfl rfl (fun k h1 h2 hg => by (have hk : k = 1 := (by omega)); (rcases hk with rfl) <;> (first | exact std0 | exact pcW (layers_spec) rfl rfl nd rfl nds | exact PRun.lookupV (ek := ekI) (ev := layF) (zv := 0) hlk (keyLaw_int (LOk.of (tabOk.get rfl))) (LOk.of (tabOk.get rfl)) (LOk.of (tabOk.get rfl)) rfl rfl (Rd.w rfl nd) (Or.inl rfl) (Rd.w rfl nd) rfl | exact std1)) (by exact rfl) ?_
  | refine yqQ (a := 0) (b := 2) rfl (by decide +kernel) (by decide +kernel) rfl rfl rfl (fun k h1 h2 hg => by (have hk : k = 0 ∨ k = 1 ∨ k = 2 := (by omega)); (rcases hk with rfl | rfl | rfl) <;> (first | exact std0 | exact pcW (layers_spec) rfl rfl nd rfl nds | exact PRun.lookupV (ek := ekI) (ev := layF) (zv := 0) hlk (keyLaw_int (LOk.of (tabOk.get rfl))) (LOk.of (tabOk.get rfl)) (LOk.of (tabOk.get rfl)) rfl rfl (Rd.w rfl nd) (Or.inl rfl) (Rd.w rfl nd) rfl | exact std1)) (by exact rfl) ?_
  | refine yqQ (a := 1) (b := 2) rfl (by decide +kernel) (by decide +kernel) rfl rfl rfl (fun k h1 h2 hg => by (have hk : k = 1 ∨ k = 2 := (by omega)); (rcases hk with rfl | rfl) <;> (first | exact std0 | exact pcW (layers_spec) rfl rfl nd rfl nds | exact PRun.lookupV (ek := ekI) (ev := layF) (zv := 0) hlk (keyLaw_int (LOk.of (tabOk.get rfl))) (LOk.of (tabOk.get rfl)) (LOk.of (tabOk.get rfl)) rfl rfl (Rd.w rfl nd) (Or.inl rfl) (Rd.w rfl nd) rfl | exact std1)) (by exact rfl) ?_
  | refine yqQ (a := 2) (b := 2) rfl (by decide +kernel) (by decide +kernel) rfl rfl rfl (fun k h1 h2 hg => by (have hk : k = 2 := (by omega)); (rcases hk with rfl) <;> (first | exact std0 | exact pcW (layers_spec) rfl rfl nd rfl nds | exact PRun.lookupV (ek := ekI) (ev := layF) (zv := 0) hlk (keyLaw_int (LOk.of (tabOk.get rfl))) (LOk.of (tabOk.get rfl)) (LOk.of (tabOk.get rfl)) rfl rfl (Rd.w rfl nd) (Or.inl rfl) (Rd.w rfl nd) rfl | exact std1)) (by exact rfl) ?_)
 refine YQ.e (v := .ptr 1 0) (d := some 3) rfl rfl rfl ?_ ?_
 · intro env' he
   exact alW tabOk rfl rfl rfl rfl rfl rfl ⟨rfl, rfl⟩
 repeat' (first
  | refine yqQ (a := 0) (b := 0) rfl (by decide +kernel) (by decide +kernel) rfl rfl rfl (fun k h1 h2 hg => by (have hk : k = 0 := (by omega)); (rcases hk with rfl) <;> (first | exact std0 | exact std1)) (by exact rfl) ?_
  | refine yqQ (a := 0) (b := 1) rfl (by decide +kernel) (by decide +kernel) rfl rfl rfl (fun k h1 h2 hg => by (have hk : k = 0 ∨ k = 1 := (by omega)); (rcases hk with rfl | rfl) <;> (first | exact std0 | exact std1)) (by exact rfl) ?_
  | refine yqQ (a := 1) (b := 1) rfl (by decide +kernel) (by decide +kernel) rfl rfl rfl (fun k h1 h2 hg => by (have hk : k = 1 := (by omega)); (rcases hk with rfl) <;> (first | exact std0 | exact std1)) (by exact rfl) ?_
  | refine yqQ (a := 0) (b := 2) rfl (by decide +kernel) (by decide +kernel) rfl rfl rfl (fun k h1 h2 hg => by (have hk : k = 0 ∨ k = 1 ∨ k = 2 := (by omega)); (rcases hk with rfl | rfl | rfl) <;> (first | exact std0 | exact std1)) (by exact rfl) ?_
  | refine yqQ (a := 1) (b := 2) rfl (by decide +kernel) (by decide +kernel) rfl rfl rfl (fun k h1 h2 hg => by (have hk : k = 1 ∨ k = 2 := (by omega)); (rcases hk with rfl | rfl) <;> (first | exact std0 | exact std1)) (by exact rfl) ?_
  | refine yqQ (a := 2) (b := 2) rfl (by decide +kernel) (by decide +kernel) rfl rfl rfl (fun k h1 h2 hg => by (have hk : k = 2 := (by omega)); (rcases hk with rfl) <;> (first | exact std0 | exact std1)) (by exact rfl) ?_)
 refine YQ.e (v := .any) (d := none) rfl rfl rfl ?_ ?_
 · intro env' he
   exact stW tabOk rfl rfl ((rdv_congr (he 3 (by decide +kernel))).trans rfl) (by rw [rdn_congr (he 3 (by decide +kernel))]; exact tI) rfl ((rdv_congr (he 12 (by decide +kernel))).trans rfl) (by rw [rdn_congr (he 12 (by decide +kernel))]; exact tI) rfl rfl rfl rfl rfl rfl rfl ⟨rfl, rfl⟩
 repeat' (first
  | refine yqQ (a := 0) (b := 0) rfl (by decide +kernel) (by decide +kernel) rfl rfl rfl (fun k h1 h2 hg => by (have hk : k = 0 := (by omega)); (rcases hk with rfl) <;> (first | exact std0 | exact std1)) (by exact rfl) ?_
  | refine yqQ (a := 0) (b := 1) rfl (by decide +kernel) (by decide +kernel) rfl rfl rfl (fun k h1 h2 hg => by (have hk : k = 0 ∨ k = 1 := (by omega)); (rcases hk with rfl | rfl) <;> (first | exact std0 | exact std1)) (by exact rfl) ?_
  | refine yqQ (a := 1) (b := 1) rfl (by decide +kernel) (by decide +kernel) rfl rfl rfl (fun k h1 h2 hg => by (have hk : k = 1 := (by omega)); (rcases hk with rfl) <;> (first | exact std0 | exact std1)) (by exact rfl) ?_
  | refine yqQ (a := 0) (b := 2) rfl (by decide +kernel) (by decide +kernel) rfl rfl rfl (fun k h1 h2 hg => by (have hk : k = 0 ∨ k = 1 ∨ k = 2 := (by omega)); (rcases hk with rfl | rfl | rfl) <;> (first | exact std0 | exact std1)) (by exact rfl) ?_
  | refine yqQ (a := 1) (b := 2) rfl (by decide +kernel) (by decide +kernel) rfl rfl rfl (fun k h1 h2 hg => by (have hk : k = 1 ∨ k = 2 := (by omega)); (rcases hk with rfl | rfl) <;> (first | exact std0 | exact std1)) (by exact rfl) ?_
  | refine yqQ (a := 2) (b := 2) rfl (by decide +kernel) (by decide +kernel) rfl rfl rfl (fun k h1 h2 hg => by (have hk : k = 2 := (by omega)); (rcases hk with rfl) <;> (first | exact std0 | exact std1)) (by exact rfl) ?_)
 refine YQ.nil (hK _ _ ?_)
 clear hK K'
 refine AWP.keep [(1, .ptr 0 0), (3, .ptr 1 0), (4, .b false)] ⟨rfl, rfl, rfl, tI⟩ ?_
 show AWP _ _ _ _ _ [.var (Go.Proofs.YtbneeinknlddaaaGreat.encM m), .var [.prim .nilFunc, .prim .nilFunc]]
 clear hlk
 have hsz : (⟨m.text.toArray⟩ : ByteArray).size = m.text.length := by simp [ByteArray.size]
 have hw := contains_spec (runesS ⟨m.text.toArray⟩) (by have := runesN_len ⟨m.text.toArray⟩ (⟨m.text.toArray⟩ : ByteArray).size 0; rw [hsz] at this; unfold runesS; rw [hsz]; omega)
 repeat' (first | refine aoQ rfl rfl rfl (fun hg => by first | exact std0 | exact pcW (mid_spec _) rfl rfl nd rfl nds | exact pcW (mwithin_spec _ _ _) rfl rfl nd rfl nds | exact (absurd hg (by intro hg; cases hg) : PRun _ _ _ _ (.b false)) | exact std1) (by exact rfl) ?_ | refine sqW ?_ | refine rgK (fun K' hK => ?_) | (refine aoN (hK _ _ ?_); clear hK K') | refine aoE (bxW rfl rfl rfl rfl rfl tI rfl rfl ?_) | refine aoE (stW tabOk rfl rfl rfl tI rfl rfl tI rfl rfl rfl rfl rfl rfl rfl ?_) | refine aoE (alW tabOk rfl rfl rfl rfl rfl rfl ?_) | refine cdN rfl tI (fun hc => ?_) (fun hc => ?_) | refine blK ?_ | refine exW ?_ | refine skW ?_ | refine rtW ?_ | refine dK2 (by decide +kernel) (by kernel_rfl) (by decide +kernel) rfl (fun K' hK => ?_) | refine dL2 (by kernel_rfl) (by decide +kernel) rfl (fun K' hK => ?_) | (refine aqN (hK _ ?_); clear hK K') | refine aqN ?_ | refine aqQ rfl rfl (fun hg => by first | exact std0 | exact pcW (mid_spec _) rfl rfl nd rfl nds | exact pcW (mwithin_spec _ _ _) rfl rfl nd rfl nds | exact (absurd hg (by intro hg; cases hg) : PRun _ _ _ _ (.b false)) | exact std1) (by exact rfl) ?_)
 · refine ⟨.inr rfl, Ent.b ?_⟩
   unfold markOk
   rw [hby]; simp
 all_goals (exfalso; rename_i hg; simp at hg; done)
theorem mvalid_spec (m : Jo.Mark) (ht : m.text.length ≤ 9223372036854775807) : PCall Tryz.prog 71 [.agg (Go.Proofs.YtbneeinknlddaaaGreat.encM m)] (.b (markOk m)) := by
 by_cases h1 : m.layer = 1
 · exact mvalid1 m h1 ht
 by_cases h2 : m.layer = 2
 · exact mvalid2 m h2 ht
 by_cases h3 : m.layer = 3
 · exact mvalid3 m h3 ht
 by_cases h4 : m.layer = 4
 · exact mvalid4 m h4 ht
 exact mvalid0 m ⟨h1, h2, h3, h4⟩ ht
theorem formed_spec (e : Ev) (ht : e.mark.text.length ≤ 9223372036854775807) : PCall Tryz.prog 49 [.agg (encE e)] (.b (evOk e)) := by
 have v := mvalid_spec e.mark ht
 refine PCall.body Tryz.func49 rfl rfl Tryz.ntmps49 rfl rfl ?_
 repeat' (first | refine aoQ rfl rfl rfl (fun hg => by first | exact std0 | exact pcW (v) rfl rfl nd rfl nds | exact pcW (ewithin_spec _ _ _) rfl rfl nd rfl nds | exact pcW (eid_spec _) rfl rfl nd rfl nds | exact PRun.eqN flM rfl rfl nd rfl nd rfl | exact pbD tabOk rfl rfl nds | exact std1) (by exact rfl) ?_ | refine sqW ?_ | refine rgK (fun K' hK => ?_) | (refine aoN (hK _ _ ?_); clear hK K') | refine aoE (bxW rfl rfl rfl rfl rfl tI rfl rfl ?_) | refine aoE (stW tabOk rfl rfl rfl tI rfl rfl tI rfl rfl rfl rfl rfl rfl rfl ?_) | refine aoE (alW tabOk rfl rfl rfl rfl rfl rfl ?_) | refine cdN rfl tI (fun hc => ?_) (fun hc => ?_) | refine blK ?_ | refine exW ?_ | refine skW ?_ | refine rtW ?_ | refine dK2 (by decide +kernel) (by kernel_rfl) (by decide +kernel) rfl (fun K' hK => ?_) | refine dL2 (by kernel_rfl) (by decide +kernel) rfl (fun K' hK => ?_) | (refine aqN (hK _ ?_); clear hK K') | refine aqN ?_ | refine aqQ rfl rfl (fun hg => by first | exact std0 | exact pcW (v) rfl rfl nd rfl nds | exact pcW (ewithin_spec _ _ _) rfl rfl nd rfl nds | exact pcW (eid_spec _) rfl rfl nd rfl nds | exact PRun.eqN flM rfl rfl nd rfl nd rfl | exact pbD tabOk rfl rfl nds | exact std1) (by exact rfl) ?_)
 · refine ⟨.inr rfl, Ent.b ?_⟩
   refine Eq.trans (b := (((e.n == 0 && markOk e.mark) && inR e.clock 0 1000000000) && isId e.stand)) rfl ?_
   unfold evOk
   rw [if_pos (eq_of_beq hc)]
   cases inR e.clock 0 1000000000 <;> cases isId e.stand <;> cases markOk e.mark <;> cases e.n == 0 <;> rfl
 · rename_i h1
   refine ⟨.inr rfl, Ent.b ?_⟩
   refine Eq.trans (b := (((eqM e.mark noMark && isId e.n) && inR e.clock 0 1000000000) && isId e.stand)) rfl ?_
   unfold evOk
   rw [eqM_eq, if_neg (fun h => by rw [h] at h1; cases h1), if_pos (eq_of_beq hc)]
   cases inR e.clock 0 1000000000 <;> cases isId e.stand <;> cases isId e.n <;> cases e.mark == noMark <;> rfl
 · rename_i h1 h2
   refine ⟨.inr rfl, Ent.b ?_⟩
   refine Eq.trans (b := (((eqM e.mark noMark && inR e.n 0 1000) && inR e.clock 0 1000000000) && isId e.stand)) rfl ?_
   unfold evOk
   rw [eqM_eq, if_neg (fun h => by rw [h] at h1; cases h1), if_neg (fun h => by rw [h] at h2; cases h2), if_pos (eq_of_beq hc)]
   cases inR e.clock 0 1000000000 <;> cases isId e.stand <;> cases inR e.n 0 1000 <;> cases e.mark == noMark <;> rfl
 · rename_i h1 h2
   refine ⟨.inr rfl, Ent.b ?_⟩
   refine Eq.trans (b := ((false && inR e.clock 0 1000000000) && isId e.stand)) rfl ?_
   unfold evOk
   rw [if_neg (fun h => by rw [h] at h1; cases h1), if_neg (fun h => by rw [h] at h2; cases h2), if_neg (fun h => by rw [h] at hc; cases hc)]
   cases inR e.clock 0 1000000000 <;> cases isId e.stand <;> rfl
set_option maxHeartbeats 800000 in
theorem evalid_spec (e : Ev) (ht : e.mark.text.length ≤ 9223372036854775807) : PCall Tryz.prog 23 [.sl 14 ([e].map encE) .no] (.b (evOk e)) := by
 have v := formed_spec e ht
 refine PCall.body Tryz.func23 rfl rfl Tryz.ntmps23 rfl rfl ?_
 repeat' (first | refine aoQ rfl rfl rfl (fun hg => by first | exact std0 | exact std1) (by exact rfl) ?_ | refine sqW ?_ | refine rgK (fun K' hK => ?_) | (refine aoN (hK _ _ ?_); clear hK K') | refine aoE (bxW rfl rfl rfl rfl rfl tI rfl rfl ?_) | refine aoE (stW tabOk rfl rfl rfl tI rfl rfl tI rfl rfl rfl rfl rfl rfl rfl ?_) | refine aoE (alW tabOk rfl rfl rfl rfl rfl rfl ?_) | refine cdN rfl tI (fun hc => ?_) (fun hc => ?_) | refine blK ?_ | refine exW ?_ | refine skW ?_ | refine rtW ?_ | (refine aqN (hK _ ?_); clear hK K') | refine aqN ?_ | refine aqQ rfl rfl (fun hg => by first | exact std0 | exact std1) (by exact rfl) ?_)
 refine lpD (ι := Nat) (fun k => [(0, .sl 14 ([e].map encE) .no), (5, .sl 14 ([e].map encE) .no), (6, .int 1), (7, .int k)]) (fun _ => []) (fun k => k ≤ 1 ∧ (k = 1 → evOk e = true)) (fun k => 1 - k) 0 (fun _ => rfl) 0 ⟨nZl _, fun h => by cases h⟩ ⟨rfl, rfl, rfl, rfl, tI⟩ rfl (fun _ _ => rfl) (fun _ _ => rfl) ?_
 rintro k ⟨hk, hall⟩
 by_cases h0 : k = 0
 · subst h0
   cases hev : evOk e with
   | true =>
     rw [hev] at v
     repeat' (first | refine aoQ rfl rfl rfl (fun hg => by first | exact piW tabOk rfl rfl nd rfl nd rfl rfl ⟨zB4 _, zAf.2 Nat.one_pos⟩ | exact std0 | exact pcW (v) rfl rfl nd rfl nds | exact (Bool.noConfusion (show false = true from hg) : PRun _ _ _ _ (.b false)) | exact std1) (by exact rfl) ?_ | refine sqW ?_ | refine rgK (fun K' hK => ?_) | (refine aoN (hK _ _ ?_); clear hK K') | refine aoE (bxW rfl rfl rfl rfl rfl tI rfl rfl ?_) | refine aoE (stW tabOk rfl rfl rfl tI rfl rfl tI rfl rfl rfl rfl rfl rfl rfl ?_) | refine aoE (alW tabOk rfl rfl rfl rfl rfl rfl ?_) | refine cdN rfl tI (fun hc => ?_) (fun hc => ?_) | refine blK ?_ | refine exW ?_ | refine skW ?_ | refine rtW ?_ | refine dK2 (by decide +kernel) (by kernel_rfl) (by decide +kernel) rfl (fun K' hK => ?_) | refine dL2 (by kernel_rfl) (by decide +kernel) rfl (fun K' hK => ?_) | (refine aqN (hK _ ?_); clear hK K') | refine aqN ?_ | refine aqQ rfl rfl (fun hg => by first | exact piW tabOk rfl rfl nd rfl nd rfl rfl ⟨zB4 _, zAf.2 Nat.one_pos⟩ | exact std0 | exact pcW (v) rfl rfl nd rfl nds | exact (Bool.noConfusion (show false = true from hg) : PRun _ _ _ _ (.b false)) | exact std1) (by exact rfl) ?_)
     · exfalso; simp at hc
     · exact ⟨1, ⟨by omega, fun _ => rfl⟩, by omega, ⟨rfl, rfl, rfl, rfl, tI⟩, rfl⟩
     · exfalso; omega
   | false =>
     rw [hev] at v
     repeat' (first | refine aoQ rfl rfl rfl (fun hg => by first | exact piW tabOk rfl rfl nd rfl nd rfl rfl ⟨zB4 _, zAf.2 Nat.one_pos⟩ | exact std0 | exact pcW (v) rfl rfl nd rfl nds | exact (Bool.noConfusion (show false = true from hg) : PRun _ _ _ _ (.b false)) | exact std1) (by exact rfl) ?_ | refine sqW ?_ | refine rgK (fun K' hK => ?_) | (refine aoN (hK _ _ ?_); clear hK K') | refine aoE (bxW rfl rfl rfl rfl rfl tI rfl rfl ?_) | refine aoE (stW tabOk rfl rfl rfl tI rfl rfl tI rfl rfl rfl rfl rfl rfl rfl ?_) | refine aoE (alW tabOk rfl rfl rfl rfl rfl rfl ?_) | refine cdN rfl tI (fun hc => ?_) (fun hc => ?_) | refine blK ?_ | refine exW ?_ | refine skW ?_ | refine rtW ?_ | refine dK2 (by decide +kernel) (by kernel_rfl) (by decide +kernel) rfl (fun K' hK => ?_) | refine dL2 (by kernel_rfl) (by decide +kernel) rfl (fun K' hK => ?_) | (refine aqN (hK _ ?_); clear hK K') | refine aqN ?_ | refine aqQ rfl rfl (fun hg => by first | exact piW tabOk rfl rfl nd rfl nd rfl rfl ⟨zB4 _, zAf.2 Nat.one_pos⟩ | exact std0 | exact pcW (v) rfl rfl nd rfl nds | exact (Bool.noConfusion (show false = true from hg) : PRun _ _ _ _ (.b false)) | exact std1) (by exact rfl) ?_)
     · exact ⟨.inr rfl, Ent.b rfl⟩
     · exfalso; simp at hc
     · exfalso; omega
 · have : k = 1 := by omega
   subst this
   repeat' (first | refine aoQ rfl rfl rfl (fun hg => by first | exact std0 | exact std1) (by exact rfl) ?_ | refine sqW ?_ | refine rgK (fun K' hK => ?_) | (refine aoN (hK _ _ ?_); clear hK K') | refine aoE (bxW rfl rfl rfl rfl rfl tI rfl rfl ?_) | refine aoE (stW tabOk rfl rfl rfl tI rfl rfl tI rfl rfl rfl rfl rfl rfl rfl ?_) | refine aoE (alW tabOk rfl rfl rfl rfl rfl rfl ?_) | refine cdN rfl tI (fun hc => ?_) (fun hc => ?_) | refine blK ?_ | refine exW ?_ | refine skW ?_ | refine rtW ?_ | refine dK2 (by decide +kernel) (by kernel_rfl) (by decide +kernel) rfl (fun K' hK => ?_) | refine dL2 (by kernel_rfl) (by decide +kernel) rfl (fun K' hK => ?_) | (refine aqN (hK _ ?_); clear hK K') | refine aqN ?_ | refine aqQ rfl rfl (fun hg => by first | exact std0 | exact std1) (by exact rfl) ?_)
   · exfalso; omega
   · refine ⟨.inr rfl, Ent.b ?_⟩
     rw [hall rfl]
     show decide (((1 : Nat) : Int) ≤ 20000) = true
     decide
theorem right_spec (e : Ev) (ht : e.mark.text.length ≤ 9223372036854775807) : PCall Tryz.prog 94 [.agg (encE e)] (.b (evOk e)) := by
 have v := evalid_spec e ht
 refine PCall.body Tryz.func94 rfl rfl Tryz.ntmps94 rfl rfl ?_
 repeat' (first | refine aoQ rfl rfl rfl (fun hg => by first | exact std0 | exact pbS tabOk rfl rfl nds | exact pcW (v) rfl rfl nd rfl nds | exact std1) (by exact rfl) ?_ | refine sqW ?_ | refine rgK (fun K' hK => ?_) | (refine aoN (hK _ _ ?_); clear hK K') | refine aoE (bxW rfl rfl rfl rfl rfl tI rfl rfl ?_) | refine aoE (stW tabOk rfl rfl rfl tI rfl rfl tI rfl rfl rfl rfl rfl rfl rfl ?_) | refine aoE (alW tabOk rfl rfl rfl rfl rfl rfl ?_) | refine cdN rfl tI (fun hc => ?_) (fun hc => ?_) | refine blK ?_ | refine exW ?_ | refine skW ?_ | refine rtW ?_ | refine dK2 (by decide +kernel) (by kernel_rfl) (by decide +kernel) rfl (fun K' hK => ?_) | refine dL2 (by kernel_rfl) (by decide +kernel) rfl (fun K' hK => ?_) | (refine aqN (hK _ ?_); clear hK K') | refine aqN ?_ | refine aqQ rfl rfl (fun hg => by first | exact std0 | exact pbS tabOk rfl rfl nds | exact pcW (v) rfl rfl nd rfl nds | exact std1) (by exact rfl) ?_)
 exact ⟨.inr rfl, Ent.b rfl⟩
end Go.Proofs.YtbneeinknlddaaaGreat
