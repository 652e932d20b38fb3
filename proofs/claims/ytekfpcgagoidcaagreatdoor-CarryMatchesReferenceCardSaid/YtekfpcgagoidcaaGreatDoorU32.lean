/- Contracts by content: the reference of align: has, fits, together.  Contracts by content: the reference of align: Notes, Same. No statement is proved here. -/
import Derived.Test.YtekfpcgagoidcaaGreatDoorU31
set_option linter.unusedVariables false
set_option linter.unusedSimpArgs false
namespace Go.Proofs.YtekfpcgagoidcaaGreatDoor.Al
open Go.Ab Go.Sort
attribute [local irreducible] AWP AOps EStep AQ PStep PRun PCall TCall VCall
theorem any_at {α : Type} [Inhabited α] {q : α → Bool} {l : List α} {k : Nat} (hk : k < l.length) (h : q (l.getD k default) = true) : l.any q = true :=
 zDa.2 ⟨_, by rw [getD_lt hk]; exact lGm hk, h⟩
theorem any_no {α : Type} [Inhabited α] {q : α → Bool} {l : List α} (h : ∀ j, j < l.length → q (l.getD j default) = false) : l.any q = false := by
 rw [List.any_eq_false]
 intro x hx
 obtain ⟨j, hj, rfl⟩ := zB1.1 hx
 have := h j hj
 rw [getD_lt hj] at this
 rw [this]; decide
set_option maxHeartbeats 16000000 in
set_option maxRecDepth 20000 in
theorem has1_spec (l : PL) (hl : l.length ≤ 9223372036854775807) (id : Int) : PCall Tryz.prog 96 [.sl 2 (l.map encPr) .no, .int id, .b true] (.b (fstIn l id)) := by
 refine PCall.body Tryz.func96 rfl rfl Tryz.ntmps96 rfl rfl ?_
 repeat' (first | refine aoQ rfl rfl rfl (fun hg => by exact std0) (by exact rfl) ?_ | refine sqW ?_ | refine rgK (fun K' hK => ?_) | (refine aoN (hK _ _ ?_); clear hK K') | refine blK ?_)
 refine lpW (ι := Nat) (fun k => [(0, .sl 2 (l.map encPr) .no), (1, .int id), (2, .b true), (7, .int k)]) (fun _ => []) (fun k => k ≤ l.length ∧ ∀ j, j < k → ((l.getD j default).1 == id) = false) (fun k => l.length - k) 0 ⟨nZl _, fun j h => absurd h (by omega)⟩ ⟨rfl, rfl, rfl, rfl, tI⟩ rfl ?_
 rintro k ⟨hk, hall⟩
 by_cases hlt : k < l.length
 · obtain ⟨z, hz⟩ : ∃ z, l.getD k default = z := ⟨_, rfl⟩
   repeat' (first | refine aoQ rfl rfl rfl (fun hg => by first | exact iX encPr l ((k : Nat) : Int) hz (hb := by omega) | exact std0 | exact std1) (by exact rfl) ?_ | refine sqW ?_ | refine rgK (fun K' hK => ?_) | (refine aoN (hK _ _ ?_); clear hK K') | refine cdN rfl tI (fun hc => ?_) (fun hc => ?_) | refine blK ?_ | refine exW ?_ | refine skW ?_ | refine rtW ?_)
   all_goals (first | exact dd | skip)
   · exact ⟨.inr rfl, Ent.b (Eq.symm (any_at hlt (by rw [hz]; simp only [zA2, zAi, zA0, zA5, zAf, dEt, dEf, zAh, zAe, beq_iff_eq, beq_eq_false_iff_ne, bne_iff_ne, bne_eq_false_iff_eq, gt_iff_lt, ge_iff_le, ne_eq] at hc; simpa using hc)))⟩
   · exact ⟨k + 1, ⟨by omega, fun j hj => lt_succ_cases hall (by rw [hz]; simp only [zA2, zAi, zA0, zA5, zAf, dEt, dEf, zAh, zAe, beq_iff_eq, beq_eq_false_iff_ne, bne_iff_ne, bne_eq_false_iff_eq, gt_iff_lt, ge_iff_le, ne_eq] at hc; simpa using hc) hj⟩, by omega, ⟨rfl, rfl, rfl, rfl, tI⟩, rfl⟩
 · repeat' (first | refine aoQ rfl rfl rfl (fun hg => by first | exact std0 | exact std1) (by exact rfl) ?_ | refine sqW ?_ | refine rgK (fun K' hK => ?_) | (refine aoN (hK _ _ ?_); clear hK K') | refine cdN rfl tI (fun hc => ?_) (fun hc => ?_) | refine blK ?_ | refine exW ?_ | refine skW ?_ | refine rtW ?_)
   all_goals (first | exact dd | skip)
   exact ⟨.inr rfl, Ent.b (Eq.symm (any_no fun j hj => hall j (by omega)))⟩
set_option maxHeartbeats 16000000 in
set_option maxRecDepth 20000 in
theorem has2_spec (l : PL) (hl : l.length ≤ 9223372036854775807) (id : Int) : PCall Tryz.prog 96 [.sl 2 (l.map encPr) .no, .int id, .b false] (.b (sndIn l id)) := by
 refine PCall.body Tryz.func96 rfl rfl Tryz.ntmps96 rfl rfl ?_
 repeat' (first | refine aoQ rfl rfl rfl (fun hg => by exact std0) (by exact rfl) ?_ | refine sqW ?_ | refine rgK (fun K' hK => ?_) | (refine aoN (hK _ _ ?_); clear hK K') | refine blK ?_)
 refine lpW (ι := Nat) (fun k => [(0, .sl 2 (l.map encPr) .no), (1, .int id), (2, .b false), (7, .int k)]) (fun _ => []) (fun k => k ≤ l.length ∧ ∀ j, j < k → ((l.getD j default).2 == id) = false) (fun k => l.length - k) 0 ⟨nZl _, fun j h => absurd h (by omega)⟩ ⟨rfl, rfl, rfl, rfl, tI⟩ rfl ?_
 rintro k ⟨hk, hall⟩
 by_cases hlt : k < l.length
 · obtain ⟨z, hz⟩ : ∃ z, l.getD k default = z := ⟨_, rfl⟩
   repeat' (first | refine aoQ rfl rfl rfl (fun hg => by first | exact iX encPr l ((k : Nat) : Int) hz (hb := by omega) | exact std0 | exact std1) (by exact rfl) ?_ | refine sqW ?_ | refine rgK (fun K' hK => ?_) | (refine aoN (hK _ _ ?_); clear hK K') | refine cdN rfl tI (fun hc => ?_) (fun hc => ?_) | refine blK ?_ | refine exW ?_ | refine skW ?_ | refine rtW ?_)
   all_goals (first | exact dd | skip)
   · exact ⟨.inr rfl, Ent.b (Eq.symm (any_at hlt (by rw [hz]; simp only [zA2, zAi, zA0, zA5, zAf, dEt, dEf, zAh, zAe, beq_iff_eq, beq_eq_false_iff_ne, bne_iff_ne, bne_eq_false_iff_eq, gt_iff_lt, ge_iff_le, ne_eq] at hc; simpa using hc)))⟩
   · exact ⟨k + 1, ⟨by omega, fun j hj => lt_succ_cases hall (by rw [hz]; simp only [zA2, zAi, zA0, zA5, zAf, dEt, dEf, zAh, zAe, beq_iff_eq, beq_eq_false_iff_ne, bne_iff_ne, bne_eq_false_iff_eq, gt_iff_lt, ge_iff_le, ne_eq] at hc; simpa using hc) hj⟩, by omega, ⟨rfl, rfl, rfl, rfl, tI⟩, rfl⟩
 · repeat' (first | refine aoQ rfl rfl rfl (fun hg => by first | exact std0 | exact std1) (by exact rfl) ?_ | refine sqW ?_ | refine rgK (fun K' hK => ?_) | (refine aoN (hK _ _ ?_); clear hK K') | refine cdN rfl tI (fun hc => ?_) (fun hc => ?_) | refine blK ?_ | refine exW ?_ | refine skW ?_ | refine rtW ?_)
   all_goals (first | exact dd | skip)
   exact ⟨.inr rfl, Ent.b (Eq.symm (any_no fun j hj => hall j (by omega)))⟩
set_option maxHeartbeats 16000000 in
set_option maxRecDepth 20000 in
theorem fits_spec (x y : Note) (r : Nat) (h1 : 1 ≤ r) (h3 : r ≤ 3) : PCall Tryz.prog 95 [.agg (encN x), .agg (encN y), .int r] (.b (ruleF r x y)) := by
 have h2 := alike12_spec x y
 refine PCall.body Tryz.func95 rfl rfl Tryz.ntmps95 rfl rfl ?_
 have h4 : r = 1 ∨ r = 2 ∨ r = 3 := by omega
 rcases h4 with rfl | rfl | rfl
 · repeat' (first | refine aoQ rfl rfl rfl (fun hg => by exact std0) (by exact rfl) ?_ | refine sqW ?_ | refine rgK (fun K' hK => ?_) | (refine aoN (hK _ _ ?_); clear hK K') | refine aoE (bxW rfl rfl rfl rfl rfl tI rfl rfl ?_) | refine cdN rfl tI (fun hc => ?_) (fun hc => ?_) | refine skW ?_ | refine rtW ?_)
   all_goals (first | exact dd | skip)
   exact ⟨.inr rfl, Ent.b rfl⟩
 · repeat' (first | refine aoQ rfl rfl rfl (fun hg => by first | exact std0 | exact pcW (h2) rfl rfl nd rfl nds) (by exact rfl) ?_ | refine sqW ?_ | refine rgK (fun K' hK => ?_) | (refine aoN (hK _ _ ?_); clear hK K') | refine aoE (bxW rfl rfl rfl rfl rfl tI rfl rfl ?_) | refine cdN rfl tI (fun hc => ?_) (fun hc => ?_) | refine skW ?_ | refine rtW ?_)
   all_goals (first | exact dd | skip)
   exact ⟨.inr rfl, Ent.b rfl⟩
 · repeat' (first | refine aoQ rfl rfl rfl (fun hg => by first | exact std0 | exact PRun.eqN flRtA rfl rfl nd rfl nd rfl) (by exact rfl) ?_ | refine sqW ?_ | refine rgK (fun K' hK => ?_) | (refine aoN (hK _ _ ?_); clear hK K') | refine aoE (bxW rfl rfl rfl rfl rfl tI rfl rfl ?_) | refine cdN rfl tI (fun hc => ?_) (fun hc => ?_) | refine skW ?_ | refine rtW ?_)
   all_goals (first | exact dd | skip)
   refine ⟨.inr rfl, Ent.b ?_⟩
   show _ = f3 x y
   unfold f3
   rw [← eqRa_eq]
   simp only [Bool.and_assoc]; rfl
def tgR (a b : List Note) : Nat → PL
 | 0 => []
 | r + 1 => matchL (ruleF (r + 1)) a b (tgR a b r)
theorem tgR_three (a b : List Note) : tgR a b 3 = three a b [] := rfl
theorem stepM_len (f : Note → Note → Bool) (b : List Note) (ps : PL) (x : Note) : (stepM f b ps x).length ≤ ps.length + 1 := by
 unfold stepM
 split
 · omega
 · split
   · simp
   · omega
theorem matchL_len (f : Note → Note → Bool) (b : List Note) : ∀ (l : List Note) (ps : PL), (matchL f l b ps).length ≤ ps.length + l.length
 | [], ps => nLr _
 | x :: l, ps => by
   have h1 := matchL_len f b l (stepM f b ps x)
   have h2 := stepM_len f b ps x
   show (matchL f l b (stepM f b ps x)).length ≤ _
   rw [zA8]; omega
theorem tgR_len (a b : List Note) : ∀ r, (tgR a b r).length ≤ r * a.length
 | 0 => by simp [tgR]
 | r + 1 => by
   have h1 := matchL_len (ruleF (r + 1)) b a (tgR a b r)
   have h2 := tgR_len a b r
   show (matchL _ a b _).length ≤ _
   rw [zB7]; omega
theorem matchL_take {f : Note → Note → Bool} {a b : List Note} {ps : PL} {k : Nat} (h : k < a.length) {x : Note} (hx : a.getD k default = x) : matchL f (a.take (k + 1)) b ps = stepM f b (matchL f (a.take k) b ps) x := by
 unfold matchL; rw [takeS h, hx, zBy]; rfl
theorem foldK_take {f : Note → Note → Bool} {x : Note} {b : List Note} {ps : PL} {k : Nat} (h : k < b.length) {y : Note} (hy : b.getD k default = y) : (b.take (k + 1)).foldl (stepK f x) ps = stepK f x ((b.take k).foldl (stepK f x) ps) y := by
 rw [takeS h, hy, zBy]; rfl
set_option maxHeartbeats 16000000 in
set_option maxRecDepth 20000 in
theorem together_spec (a b : List Note) (ha : a.length ≤ 1000000) (hb : b.length ≤ 1000000) : PCall Tryz.prog 64 [.sl 12 (a.map encN) .no, .sl 12 (b.map encN) .no] (.sl 2 ((three a b []).map encPr) .no) := by
 rw [← tgR_three]
 refine PCall.body Tryz.func64 rfl rfl Tryz.ntmps64 rfl rfl ?_
 repeat' (first | refine aoQ rfl rfl rfl (fun hg => by exact std0) (by exact rfl) ?_ | refine sqW ?_ | refine rgK (fun K' hK => ?_) | (refine aoN (hK _ _ ?_); clear hK K') | refine blK ?_)
 refine AWP.ownNil (d := 5) (sz := 2) rfl ?_
 skip
 refine lpD (ι := Nat) (fun q => [(0, .sl 12 (a.map encN) .no), (1, .sl 12 (b.map encN) .no), (5, .sl 2 ((tgR a b q).map encPr) (.own 0)), (6, .int (q + 1 : Nat))]) (fun q => [.own 2 ((tgR a b q).map encPr).length])
  (fun q => q ≤ 3) (fun q => 3 - q) 1 (fun _ => rfl) 0 (nZl _) ⟨rfl, rfl, rfl, rfl, tI⟩ rfl (fun _ _ => rfl) (fun _ _ => rfl) ?_
 intro q hq
 have hl0 := tgR_len a b q
 have hl1 : q * a.length ≤ 3 * a.length := zB8 _ hq
 by_cases hlt : q < 3
 · have hst : tgR a b (q + 1) = matchL (ruleF (q + 1)) a b (tgR a b q) := rfl
   generalize tgR a b q = p0 at *
   repeat' (first | refine aoQ rfl rfl rfl (fun hg => by exact std0) (by exact rfl) ?_ | refine sqW ?_ | refine rgK (fun K' hK => ?_) | (refine aoN (hK _ _ ?_); clear hK K') | refine cdN rfl tI (fun hc => ?_) (fun hc => ?_) | refine blK ?_ | refine exW ?_ | refine skW ?_ | refine rtW ?_)
   all_goals (first | exact dd | skip)
   refine lpD (ι := Nat) (fun i => [(0, .sl 12 (a.map encN) .no), (1, .sl 12 (b.map encN) .no), (5, .sl 2 ((matchL (ruleF (q + 1)) (a.take i) b p0).map encPr) (.own 0)), (6, .int (q + 1 : Nat)), (7, .int i)]) (fun i => [.own 2 ((matchL (ruleF (q + 1)) (a.take i) b p0).map encPr).length])
    (fun i => i ≤ a.length) (fun i => a.length - i) 1 (fun _ => rfl) 0 (nZl _) ⟨rfl, rfl, rfl, rfl, rfl, tI⟩ rfl (fun _ _ => rfl) (fun _ _ => rfl) ?_
   intro i hi
   have hl2 := matchL_len (ruleF (q + 1)) b (a.take i) p0
   rw [zAl] at hl2
   by_cases hlt2 : i < a.length
   · obtain ⟨x, hx⟩ : ∃ x, a.getD i default = x := ⟨_, rfl⟩
     have hm := matchL_take (f := ruleF (q + 1)) (b := b) (ps := p0) hlt2 hx
     rw [← foldK] at hm
     generalize matchL (ruleF (q + 1)) (a.take i) b p0 = p1 at *
     repeat' (first | refine aoQ rfl rfl rfl (fun hg => by first | exact std0 | exact std1) (by exact rfl) ?_ | refine sqW ?_ | refine rgK (fun K' hK => ?_) | (refine aoN (hK _ _ ?_); clear hK K') | refine cdN rfl tI (fun hc => ?_) (fun hc => ?_) | refine blK ?_ | refine exW ?_ | refine skW ?_)
     all_goals (first | exact dd | skip)
     refine lpD (ι := Nat) (fun k => [(0, .sl 12 (a.map encN) .no), (1, .sl 12 (b.map encN) .no), (5, .sl 2 (((b.take k).foldl (stepK (ruleF (q + 1)) x) p1).map encPr) (.own 0)), (6, .int (q + 1 : Nat)), (7, .int i), (8, .int k)]) (fun k => [.own 2 (((b.take k).foldl (stepK (ruleF (q + 1)) x) p1).map encPr).length])
      (fun k => k ≤ b.length) (fun k => b.length - k) 1 (fun _ => rfl) 0 (nZl _) ⟨rfl, rfl, rfl, rfl, rfl, rfl, tI⟩ rfl (fun _ _ => rfl) (fun _ _ => rfl) ?_
     intro k hk
     have hl3 := stepM_len (ruleF (q + 1)) (b.take k) p1 x
     rw [← foldK] at hl3
     by_cases hlt3 : k < b.length
     · obtain ⟨y, hy⟩ : ∃ y, b.getD k default = y := ⟨_, rfl⟩
       have hf := foldK_take (f := ruleF (q + 1)) (x := x) (ps := p1) hlt3 hy
       generalize (b.take k).foldl (stepK (ruleF (q + 1)) x) p1 = p2 at *
       have c1 := fits_spec x y (q + 1) (by omega) (by omega)
       have c2 := has1_spec p2 (by omega) x.id
       have c3 := has2_spec p2 (by omega) y.id
       repeat' (first | refine aoQ rfl rfl rfl (fun hg => by first | exact std0 | exact std1) (by exact rfl) ?_ | refine sqW ?_ | refine rgK (fun K' hK => ?_) | (refine aoN (hK _ _ ?_); clear hK K') | refine cdN rfl tI (fun hc => ?_) (fun hc => ?_) | refine blK ?_ | refine exW ?_ | refine skW ?_ | refine dK2 (by decide +kernel) (by kernel_rfl) (by decide +kernel) rfl (fun K' hK => ?_) | (refine aqN (hK _ ?_); clear hK K') | refine aqQ rfl rfl (fun hg => by first | exact iX encN b ((k : Nat) : Int) hy (hb := by omega) | exact iX encN a ((i : Nat) : Int) hx (hb := by omega) | exact std0 | exact pcW (c1) rfl rfl nd rfl nds | exact pcW (c2) rfl rfl nd rfl nds | exact pcW (c3) rfl rfl nd rfl nds) (by exact rfl) ?_)
       all_goals (first | exact dd | skip)
       · rw [show stepK (ruleF (q + 1)) x p2 y = p2 ++ [(x.id, y.id)] by unfold stepK; rw [if_pos]; simp only [zA2, zAi, zA0, zA5, zAf, dEt, dEf, zAh, zAe, beq_iff_eq, beq_eq_false_iff_ne, bne_iff_ne, bne_eq_false_iff_eq, gt_iff_lt, ge_iff_le, ne_eq] at hc; simp [hc]] at hf
         refine AWP.drawYM effOp (fun j => match j with | 0 => [.own 2 (p2.map encPr).length] | _ => [.own 2 (p2.map encPr ++ [[AV.int x.id, AV.int y.id]]).length]) rfl (by kernel_rfl) (by decide +kernel) rfl (by decide +kernel) (fun K' hK => ?_)
         repeat' (first
          | refine yqQ (a := 0) (b := 0) rfl (by decide +kernel) (by decide +kernel) rfl rfl rfl (fun k h1 h2 hg => by (have hk : k = 0 := (by omega)); (rcases hk with rfl) <;> (first | exact iX encN b ((k : Nat) : Int) hy (hb := by omega) | exact iX encN a ((i : Nat) : Int) hx (hb := by omega) | exact std0 | exact pbD tabOk rfl rfl nds | exact pbS tabOk rfl rfl nds | exact std1)) (by exact rfl) ?_
          | refine yqQ (a := 0) (b := 1) rfl (by decide +kernel) (by decide +kernel) rfl rfl rfl (fun k h1 h2 hg => by (have hk : k = 0 ∨ k = 1 := (by omega)); (rcases hk with rfl | rfl) <;> (first | exact iX encN b ((k : Nat) : Int) hy (hb := by omega) | exact iX encN a ((i : Nat) : Int) hx (hb := by omega) | exact std0 | exact pbD tabOk rfl rfl nds | exact pbS tabOk rfl rfl nds | exact std1)) (by exact rfl) ?_
          | refine yqQ (a := 1) (b := 1) rfl (by decide +kernel) (by decide +kernel) rfl rfl rfl (fun k h1 h2 hg => by (have hk : k = 1 := (by omega)); (rcases hk with rfl) <;> (first | exact iX encN b ((k : Nat) : Int) hy (hb := by omega) | exact iX encN a ((i : Nat) : Int) hx (hb := by omega) | exact std0 | exact pbD tabOk rfl rfl nds | exact pbS tabOk rfl rfl nds | exact std1)) (by exact rfl) ?_
          | refine yqQ (a := 0) (b := 2) rfl (by decide +kernel) (by decide +kernel) rfl rfl rfl (fun k h1 h2 hg => by (have hk : k = 0 ∨ k = 1 ∨ k = 2 := (by omega)); (rcases hk with rfl | rfl | rfl) <;> (first | exact iX encN b ((k : Nat) : Int) hy (hb := by omega) | exact iX encN a ((i : Nat) : Int) hx (hb := by omega) | exact std0 | exact pbD tabOk rfl rfl nds | exact pbS tabOk rfl rfl nds | exact std1)) (by exact rfl) ?_
          | refine yqQ (a := 1) (b := 2) rfl (by decide +kernel) (by decide +kernel) rfl rfl rfl (fun k h1 h2 hg => by (have hk : k = 1 ∨ k = 2 := (by omega)); (rcases hk with rfl | rfl) <;> (first | exact iX encN b ((k : Nat) : Int) hy (hb := by omega) | exact iX encN a ((i : Nat) : Int) hx (hb := by omega) | exact std0 | exact pbD tabOk rfl rfl nds | exact pbS tabOk rfl rfl nds | exact std1)) (by exact rfl) ?_
          | refine yqQ (a := 2) (b := 2) rfl (by decide +kernel) (by decide +kernel) rfl rfl rfl (fun k h1 h2 hg => by (have hk : k = 2 := (by omega)); (rcases hk with rfl) <;> (first | exact iX encN b ((k : Nat) : Int) hy (hb := by omega) | exact iX encN a ((i : Nat) : Int) hx (hb := by omega) | exact std0 | exact pbD tabOk rfl rfl nds | exact pbS tabOk rfl rfl nds | exact std1)) (by exact rfl) ?_)
         refine YQ.e (v := .sl 2 (p2.map encPr ++ [[AV.int x.id, AV.int y.id]]) (.own 0)) (d := some 68) rfl rfl rfl ?_ ?_
         · intro env' he
           exact apO (l := 0) tabOk rfl rfl rfl (by decide) (Rd.w ((rdv_congr (he 55 (by decide +kernel))).trans rfl) (by rw [rdn_congr (he 55 (by decide +kernel))]; first | exact tI | exact rfl)) rfl (Rd.w ((rdv_congr (he 67 (by decide +kernel))).trans rfl) (by rw [rdn_congr (he 67 (by decide +kernel))]; first | exact tI | exact rfl)) (.sl rfl (by intro z hz; rcases zAn.1 hz with rfl; rfl)) (LOk.of (tabOk.get rfl)) (LOk.of (tabOk.get rfl)) rfl rfl (by simp only [lLm, lLa, zA8, zAg]; omega) (by simp only [lLm, lLa, zA8, zAg]; omega) ⟨rfl, rfl⟩
         repeat' (first
          | refine yqQ (a := 0) (b := 0) rfl (by decide +kernel) (by decide +kernel) rfl rfl rfl (fun k h1 h2 hg => by (have hk : k = 0 := (by omega)); (rcases hk with rfl) <;> (first | exact std0 | exact std1)) (by exact rfl) ?_
          | refine yqQ (a := 0) (b := 1) rfl (by decide +kernel) (by decide +kernel) rfl rfl rfl (fun k h1 h2 hg => by (have hk : k = 0 ∨ k = 1 := (by omega)); (rcases hk with rfl | rfl) <;> (first | exact std0 | exact std1)) (by exact rfl) ?_
          | refine yqQ (a := 1) (b := 1) rfl (by decide +kernel) (by decide +kernel) rfl rfl rfl (fun k h1 h2 hg => by (have hk : k = 1 := (by omega)); (rcases hk with rfl) <;> (first | exact std0 | exact std1)) (by exact rfl) ?_
          | refine yqQ (a := 0) (b := 2) rfl (by decide +kernel) (by decide +kernel) rfl rfl rfl (fun k h1 h2 hg => by (have hk : k = 0 ∨ k = 1 ∨ k = 2 := (by omega)); (rcases hk with rfl | rfl | rfl) <;> (first | exact std0 | exact std1)) (by exact rfl) ?_
          | refine yqQ (a := 1) (b := 2) rfl (by decide +kernel) (by decide +kernel) rfl rfl rfl (fun k h1 h2 hg => by (have hk : k = 1 ∨ k = 2 := (by omega)); (rcases hk with rfl | rfl) <;> (first | exact std0 | exact std1)) (by exact rfl) ?_
          | refine yqQ (a := 2) (b := 2) rfl (by decide +kernel) (by decide +kernel) rfl rfl rfl (fun k h1 h2 hg => by (have hk : k = 2 := (by omega)); (rcases hk with rfl) <;> (first | exact std0 | exact std1)) (by exact rfl) ?_)
         refine YQ.nil (hK _ _ ?_)
         clear hK K'
         show AWP _ _ _ _ _ [.own 2 (p2.map encPr ++ [[AV.int x.id, AV.int y.id]]).length]
         repeat' (first | refine aoQ rfl rfl rfl (fun hg => by exact std0) (by exact rfl) ?_ | refine rgK (fun K' hK => ?_) | (refine aoN (hK _ _ ?_); clear hK K'))
         exact ⟨k + 1, hlt3, by omega, ⟨rfl, rfl, (by rw [hf, zAs]; rfl), rfl, rfl, rfl, tI⟩, (by rw [hf, zAs]; rfl)⟩
       · rw [show stepK (ruleF (q + 1)) x p2 y = p2 by unfold stepK; rw [if_neg]; intro hh; revert hc; (simp only [zA2, zAi, zA0, zA5, zAf, dEt, dEf, zAh, zAe, beq_iff_eq, beq_eq_false_iff_ne, bne_iff_ne, bne_eq_false_iff_eq, gt_iff_lt, ge_iff_le, ne_eq] at hh); simp [hh]] at hf
         exact ⟨k + 1, hlt3, by omega, ⟨rfl, rfl, (by rw [hf]; rfl), rfl, rfl, rfl, tI⟩, (by rw [hf]; rfl)⟩
     · obtain rfl : k = b.length := by omega
       rw [zB9] at *
       repeat' (first | refine aoQ rfl rfl rfl (fun hg => by first | exact std0 | exact std1) (by exact rfl) ?_ | refine sqW ?_ | refine rgK (fun K' hK => ?_) | (refine aoN (hK _ _ ?_); clear hK K') | refine cdN rfl tI (fun hc => ?_) (fun hc => ?_) | refine blK ?_ | refine exW ?_ | refine skW ?_ | refine dK2 (by decide +kernel) (by kernel_rfl) (by decide +kernel) rfl (fun K' hK => ?_) | refine aqQ rfl rfl (fun hg => by first | exact std0 | exact std1) (by exact rfl) ?_)
       all_goals (first | exact dd | skip)
       exact ⟨i + 1, hlt2, by omega, ⟨rfl, rfl, (by rw [hm]; rfl), rfl, rfl, tI⟩, (by rw [hm]; rfl)⟩
   · obtain rfl : i = a.length := by omega
     rw [zB9] at *
     repeat' (first | refine aoQ rfl rfl rfl (fun hg => by first | exact std0 | exact std1) (by exact rfl) ?_ | refine sqW ?_ | refine rgK (fun K' hK => ?_) | (refine aoN (hK _ _ ?_); clear hK K') | refine cdN rfl tI (fun hc => ?_) (fun hc => ?_) | refine blK ?_ | refine exW ?_ | refine skW ?_)
     all_goals (first | exact dd | skip)
     exact ⟨q + 1, hlt, by omega, ⟨rfl, rfl, (by rw [hst]; rfl), rfl, tI⟩, (by rw [hst]; rfl)⟩
 · obtain rfl : q = 3 := by omega
   repeat' (first | refine aoQ rfl rfl rfl (fun hg => by exact std0) (by exact rfl) ?_ | refine sqW ?_ | refine rgK (fun K' hK => ?_) | (refine aoN (hK _ _ ?_); clear hK K') | refine cdN rfl tI (fun hc => ?_) (fun hc => ?_) | refine blK ?_ | refine exW ?_ | refine skW ?_ | refine rtW ?_)
   all_goals (first | exact dd | skip)
   exact ⟨.inr rfl, Ent.of rfl⟩
def tog (a b : Score) (q : Nat × Nat) : PL := three (inBar a (barI a q.1).id) (inBar b (barI b q.2).id) []
def flA (a b : Score) (l : List (Nat × Nat)) : PL := (l.map (tog a b)).flatten
theorem flA_all {a b : Score} (ha : Sc a) (hb : Sc b) {l : List (Nat × Nat)} (hp : Pairs a b l) : flA a b l = pairsM a b l [] := (pairsM_spec ha hb hp).flat.symm
theorem tog_len (a b : Score) (q : Nat × Nat) : (tog a b q).length ≤ 3 * a.notes.length := by
 have h1 := tgR_len (inBar a (barI a q.1).id) (inBar b (barI b q.2).id) 3
 have h2 : (inBar a (barI a q.1).id).length ≤ a.notes.length := zBf _ _
 unfold tog
 rw [← tgR_three]; omega
theorem flA_len (a b : Score) : ∀ l : List (Nat × Nat), (flA a b l).length ≤ l.length * (3 * a.notes.length)
 | [] => by simp [flA]
 | q :: l => by
   have h1 := flA_len a b l
   have h2 := tog_len a b q
   show (tog a b q ++ flA a b l).length ≤ _
   rw [lLa, zA8, zB7]; omega
theorem flA_take (a b : Score) {l : PL} {k : Nat} (h : k < l.length) {z : Int × Int} (hz : l.getD k default = z) : flA a b (np (l.take (k + 1))) = flA a b (np (l.take k)) ++ tog a b (z.1.toNat, z.2.toNat) := by
 rw [takeS h, hz]
 unfold flA np
 simp
def outF (ps : PL) (l : List Note) : PL := (l.map fun n => ps.filter fun p => p.1 == n.id).flatten
theorem outF_take (ps : PL) {l : List Note} {k : Nat} (h : k < l.length) {n : Note} (hn : l.getD k default = n) : outF ps (l.take (k + 1)) = outF ps (l.take k) ++ ps.filter fun p => p.1 == n.id := by
 rw [takeS h, hn]
 unfold outF
 simp
theorem outF_len (ps : PL) : ∀ l : List Note, (outF ps l).length ≤ l.length * ps.length
 | [] => by simp [outF]
 | n :: l => by
   have h1 := outF_len ps l
   have h2 := zBf (fun p : Int × Int => p.1 == n.id) ps
   show (ps.filter _ ++ outF ps l).length ≤ _
   rw [lLa, zA8, zB7]; omega
theorem filt_yes {ps : PL} {id : Int} {k : Nat} (h : k < ps.length) {z : Int × Int} (hz : ps.getD k default = z) (e : (z.1 == id) = true) : (ps.take (k + 1)).filter (fun p => p.1 == id) = (ps.take k).filter (fun p => p.1 == id) ++ [z] := by
 rw [takeS h, hz, zC1, zBh (p := fun p : Int × Int => p.1 == id) e]; rfl
theorem filt_no {ps : PL} {id : Int} {k : Nat} (h : k < ps.length) {z : Int × Int} (hz : ps.getD k default = z) (e : (z.1 == id) = false) : (ps.take (k + 1)).filter (fun p => p.1 == id) = (ps.take k).filter (fun p => p.1 == id) := by
 rw [takeS h, hz, zC1, zBi (p := fun p : Int × Int => p.1 == id) (by rw [e]; decide)]; simp
set_option maxHeartbeats 16000000 in
set_option maxRecDepth 20000 in
theorem rNotes_spec (a b : Score) (ha : a.Small) (hb : b.Small) (hna : a.notes.length ≤ 60) (hnb : b.notes.length ≤ 60) (x : Algn) (hx : x.pairs.length ≤ 40) :
 PCall Tryz.prog 25 [.agg (encS a), .agg (encS b), .agg (encA x)] (.tup [.sl 2 ((notesR a b x).1.map encPr) .no, .int (notesR a b x).2]) := by
 have ha1 := ha.1
 have hb1 := hb.1
 have v1 := valid8_spec a ha
 have v2 := valid8_spec b hb
 have v3 := rPairs_spec a b ha hb x.pairs (by omega)
 refine PCall.body Tryz.func25 rfl rfl Tryz.ntmps25 rfl rfl ?_
 by_cases hok : (scoreOk a && (scoreOk b && pOk a.bars.length b.bars.length (-1) (-1) x.pairs)) = true
 · have hR : notesR a b x = (notesM a b (np x.pairs), 0) := if_pos hok
   rw [hR]
   simp only [zA0] at hok
   obtain ⟨o1, o2, o3⟩ := hok
   rw [o1] at v1
   rw [o2] at v2
   rw [o3] at v3
   have hps := pOk_spec (by omega) (by omega) o3
   have hall := flA_all (ok_sc o1) (ok_sc o2) (pairsOk_of o3)
   have hfst := (pairsM_spec (ok_sc o1) (ok_sc o2) (pairsOk_of o3)).fst
   repeat' (first | refine aoQ rfl rfl rfl (fun hg => by first | exact std0 | exact pcW (v1) rfl rfl nd rfl nds | exact pcW (v2) rfl rfl nd rfl nds | exact pcW (v3) rfl rfl nd rfl nds) (by exact rfl) ?_ | refine sqW ?_ | refine rgK (fun K' hK => ?_) | (refine aoN (hK _ _ ?_); clear hK K') | refine aoE (bxW rfl rfl rfl rfl rfl tI rfl rfl ?_) | refine cdN rfl tI (fun hc => ?_) (fun hc => ?_) | refine blK ?_ | refine skW ?_ | refine rtW ?_)
   all_goals (first | exact dd | skip)
   refine AWP.ownNil (d := 8) (sz := 2) rfl ?_
   skip
   refine lpD (ι := Nat) (fun k => [(3, .ptr 0 0), (4, .ptr 1 0), (5, .ptr 2 0), (8, .sl 2 ((flA a b (np (x.pairs.take k))).map encPr) (.own 3)), (9, .int k)]) (fun k => [.var (encS a), .var (encS b), .var (encA x), .own 2 ((flA a b (np (x.pairs.take k))).map encPr).length])
    (fun k => k ≤ x.pairs.length) (fun k => x.pairs.length - k) 4 (fun _ => rfl) 0 (nZl _) ⟨rfl, rfl, rfl, rfl, rfl, tI⟩ rfl (fun _ _ => rfl) (fun _ _ => rfl) ?_
   intro k hk
   have hl1 := flA_len a b (np (x.pairs.take k))
   have hl2 : (np (x.pairs.take k)).length * (3 * a.notes.length) ≤ 40 * 180 := Nat.mul_le_mul (by unfold np; rw [lLm, zAl]; omega) (by omega)
   by_cases hlt : k < x.pairs.length
   · obtain ⟨z, hz⟩ : ∃ z, x.pairs.getD k default = z := ⟨_, rfl⟩
     have hzm : z ∈ x.pairs := by rw [← hz, getD_lt hlt]; exact lGm hlt
     obtain ⟨z1, z2, z3, z4⟩ := hps.2 (z.1.toNat, z.2.toNat) (zAu.2 ⟨z, hzm, rfl⟩)
     have hzp : 0 ≤ z.1 ∧ 0 ≤ z.2 := by
      have h5 := ip_np (by omega) (by omega) o3
      have h6 : z ∈ ip (np x.pairs) := by rw [h5]; exact hzm
      obtain ⟨q, _, rfl⟩ := zAu.1 h6
      exact ⟨zC2 _, zC2 _⟩
     dsimp only at z3 z4
     have n1 : AV.int z.1 = AV.int ((z.1.toNat : Nat) : Int) := congrArg AV.int (by omega)
     have n2 : AV.int z.2 = AV.int ((z.2.toNat : Nat) : Int) := congrArg AV.int (by omega)
     have i1 := in12_spec a ha z.1.toNat z3
     have i2 := in12_spec b hb z.2.toNat z4
     have m1 : (inBar a (barI a z.1.toNat).id).length ≤ a.notes.length := zBf _ _
     have m2 : (inBar b (barI b z.2.toNat).id).length ≤ b.notes.length := zBf _ _
     have tg := together_spec (inBar a (barI a z.1.toNat).id) (inBar b (barI b z.2.toNat).id) (by omega) (by omega)
     have ht := flA_take a b hlt hz
     have hl3 := tog_len a b (z.1.toNat, z.2.toNat)
     rw [show three (inBar a (barI a z.1.toNat).id) (inBar b (barI b z.2.toNat).id) [] = tog a b (z.1.toNat, z.2.toNat) from rfl] at tg
     generalize tog a b (z.1.toNat, z.2.toNat) = tq at *
     generalize flA a b (np (x.pairs.take k)) = p1 at *
     clear hall hfst
     repeat' (first | refine aoQ rfl rfl rfl (fun hg => by first | exact std0 | exact std1) (by exact rfl) ?_ | refine sqW ?_ | refine rgK (fun K' hK => ?_) | (refine aoN (hK _ _ ?_); clear hK K') | refine cdN rfl tI (fun hc => ?_) (fun hc => ?_) | refine blK ?_ | refine exW ?_ | refine skW ?_)
     all_goals (first | exact dd | skip)
     refine AWP.drawYM effOp (fun j => match j with | 0 => [.var (encS a), .var (encS b), .var (encA x), .own 2 (p1.map encPr).length] | _ => [.var (encS a), .var (encS b), .var (encA x), .own 2 (p1.map encPr ++ tq.map encPr).length]) rfl (by kernel_rfl) (by decide +kernel) rfl (by decide +kernel) (fun K' hK => ?_)
     repeat' (first
      | refine yqQ (a := 0) (b := 0) rfl (by decide +kernel) (by decide +kernel) rfl rfl rfl (fun k h1 h2 hg => by (have hk : k = 0 := (by omega)); (rcases hk with rfl) <;> (first | exact PRun.eq (v := .int z.2) (PRun.step tabOk rfl sd) n2 | exact PRun.eq (v := .int z.1) (PRun.step tabOk rfl sd) n1 | exact iX encPr x.pairs ((k : Nat) : Int) hz (hb := by omega) | exact std0 | exact pcW (i1) rfl rfl nd rfl nds | exact pcW (i2) rfl rfl nd rfl nds | exact pcW (tg) rfl rfl nd rfl nds | exact std1)) (by exact rfl) ?_
      | refine yqQ (a := 0) (b := 1) rfl (by decide +kernel) (by decide +kernel) rfl rfl rfl (fun k h1 h2 hg => by (have hk : k = 0 ∨ k = 1 := (by omega)); (rcases hk with rfl | rfl) <;> (first | exact PRun.eq (v := .int z.2) (PRun.step tabOk rfl sd) n2 | exact PRun.eq (v := .int z.1) (PRun.step tabOk rfl sd) n1 | exact iX encPr x.pairs ((k : Nat) : Int) hz (hb := by omega) | exact std0 | exact pcW (i1) rfl rfl nd rfl nds | exact pcW (i2) rfl rfl nd rfl nds | exact pcW (tg) rfl rfl nd rfl nds | exact std1)) (by exact rfl) ?_
      | refine yqQ (a := 1) (b := 1) rfl (by decide +kernel) (by decide +kernel) rfl rfl rfl (fun k h1 h2 hg => by (have hk : k = 1 := (by omega)); (rcases hk with rfl) <;> (first | exact PRun.eq (v := .int z.2) (PRun.step tabOk rfl sd) n2 | exact PRun.eq (v := .int z.1) (PRun.step tabOk rfl sd) n1 | exact iX encPr x.pairs ((k : Nat) : Int) hz (hb := by omega) | exact std0 | exact pcW (i1) rfl rfl nd rfl nds | exact pcW (i2) rfl rfl nd rfl nds | exact pcW (tg) rfl rfl nd rfl nds | exact std1)) (by exact rfl) ?_
      | refine yqQ (a := 0) (b := 2) rfl (by decide +kernel) (by decide +kernel) rfl rfl rfl (fun k h1 h2 hg => by (have hk : k = 0 ∨ k = 1 ∨ k = 2 := (by omega)); (rcases hk with rfl | rfl | rfl) <;> (first | exact PRun.eq (v := .int z.2) (PRun.step tabOk rfl sd) n2 | exact PRun.eq (v := .int z.1) (PRun.step tabOk rfl sd) n1 | exact iX encPr x.pairs ((k : Nat) : Int) hz (hb := by omega) | exact std0 | exact pcW (i1) rfl rfl nd rfl nds | exact pcW (i2) rfl rfl nd rfl nds | exact pcW (tg) rfl rfl nd rfl nds | exact std1)) (by exact rfl) ?_
      | refine yqQ (a := 1) (b := 2) rfl (by decide +kernel) (by decide +kernel) rfl rfl rfl (fun k h1 h2 hg => by (have hk : k = 1 ∨ k = 2 := (by omega)); (rcases hk with rfl | rfl) <;> (first | exact PRun.eq (v := .int z.2) (PRun.step tabOk rfl sd) n2 | exact PRun.eq (v := .int z.1) (PRun.step tabOk rfl sd) n1 | exact iX encPr x.pairs ((k : Nat) : Int) hz (hb := by omega) | exact std0 | exact pcW (i1) rfl rfl nd rfl nds | exact pcW (i2) rfl rfl nd rfl nds | exact pcW (tg) rfl rfl nd rfl nds | exact std1)) (by exact rfl) ?_
      | refine yqQ (a := 2) (b := 2) rfl (by decide +kernel) (by decide +kernel) rfl rfl rfl (fun k h1 h2 hg => by (have hk : k = 2 := (by omega)); (rcases hk with rfl) <;> (first | exact PRun.eq (v := .int z.2) (PRun.step tabOk rfl sd) n2 | exact PRun.eq (v := .int z.1) (PRun.step tabOk rfl sd) n1 | exact iX encPr x.pairs ((k : Nat) : Int) hz (hb := by omega) | exact std0 | exact pcW (i1) rfl rfl nd rfl nds | exact pcW (i2) rfl rfl nd rfl nds | exact pcW (tg) rfl rfl nd rfl nds | exact std1)) (by exact rfl) ?_)
     refine YQ.e (v := .sl 2 (p1.map encPr ++ tq.map encPr) (.own 3)) (d := some 54) rfl rfl rfl ?_ ?_
     · intro env' he
       exact apO (l := 3) tabOk rfl rfl rfl (by decide) (Rd.w ((rdv_congr (he 36 (by decide +kernel))).trans rfl) (by rw [rdn_congr (he 36 (by decide +kernel))]; first | exact tI | exact rfl)) rfl (Rd.w ((rdv_congr (he 53 (by decide +kernel))).trans rfl) (by rw [rdn_congr (he 53 (by decide +kernel))]; first | exact tI | exact rfl)) (.sl rfl (one_encPr _)) (LOk.of (tabOk.get rfl)) (LOk.of (tabOk.get rfl)) rfl rfl (by simp only [lLm, lLa, zA8, zAg]; omega) (by simp only [lLm, lLa, zA8, zAg]; omega) ⟨rfl, rfl⟩
     repeat' (first
      | refine yqQ (a := 0) (b := 0) rfl (by decide +kernel) (by decide +kernel) rfl rfl rfl (fun k h1 h2 hg => by (have hk : k = 0 := (by omega)); (rcases hk with rfl) <;> (first | exact std0 | exact std1)) (by exact rfl) ?_
      | refine yqQ (a := 0) (b := 1) rfl (by decide +kernel) (by decide +kernel) rfl rfl rfl (fun k h1 h2 hg => by (have hk : k = 0 ∨ k = 1 := (by omega)); (rcases hk with rfl | rfl) <;> (first | exact std0 | exact std1)) (by exact rfl) ?_
      | refine yqQ (a := 1) (b := 1) rfl (by decide +kernel) (by decide +kernel) rfl rfl rfl (fun k h1 h2 hg => by (have hk : k = 1 := (by omega)); (rcases hk with rfl) <;> (first | exact std0 | exact std1)) (by exact rfl) ?_
      | refine yqQ (a := 0) (b := 2) rfl (by decide +kernel) (by decide +kernel) rfl rfl rfl (fun k h1 h2 hg => by (have hk : k = 0 ∨ k = 1 ∨ k = 2 := (by omega)); (rcases hk with rfl | rfl | rfl) <;> (first | exact std0 | exact std1)) (by exact rfl) ?_
      | refine yqQ (a := 1) (b := 2) rfl (by decide +kernel) (by decide +kernel) rfl rfl rfl (fun k h1 h2 hg => by (have hk : k = 1 ∨ k = 2 := (by omega)); (rcases hk with rfl | rfl) <;> (first | exact std0 | exact std1)) (by exact rfl) ?_
      | refine yqQ (a := 2) (b := 2) rfl (by decide +kernel) (by decide +kernel) rfl rfl rfl (fun k h1 h2 hg => by (have hk : k = 2 := (by omega)); (rcases hk with rfl) <;> (first | exact std0 | exact std1)) (by exact rfl) ?_)
     refine YQ.nil (hK _ _ ?_)
     clear hK K'
     show AWP _ _ _ _ _ [.var (encS a), .var (encS b), .var (encA x), .own 2 (p1.map encPr ++ tq.map encPr).length]
     repeat' (first | refine aoQ rfl rfl rfl (fun hg => by exact std0) (by exact rfl) ?_ | refine rgK (fun K' hK => ?_) | (refine aoN (hK _ _ ?_); clear hK K'))
     all_goals (first | exact dd | skip)
     exact ⟨k + 1, hlt, by omega, ⟨rfl, rfl, rfl, (by rw [ht, zAs]; rfl), rfl, tI⟩, (by rw [ht, zAs]; rfl)⟩
   · obtain rfl : k = x.pairs.length := by omega
     rw [zB9] at *
     rw [hall] at *
     have hN : notesM a b (np x.pairs) = outF (pairsM a b (np x.pairs) []) a.notes := (outM_flat hfst).symm
     rw [hN]
     generalize pairsM a b (np x.pairs) [] = p1 at *
     clear hps hall
     repeat' (first | refine aoQ rfl rfl rfl (fun hg => by first | exact std0 | exact std1) (by exact rfl) ?_ | refine sqW ?_ | refine rgK (fun K' hK => ?_) | (refine aoN (hK _ _ ?_); clear hK K') | refine cdN rfl tI (fun hc => ?_) (fun hc => ?_) | refine blK ?_ | refine exW ?_ | refine skW ?_)
     all_goals (first | exact dd | skip)
     refine AWP.ownNil (d := 10) (sz := 2) rfl ?_
     skip
     refine lpD (ι := Nat) (fun i => [(3, .ptr 0 0), (8, .sl 2 (p1.map encPr) (.own 3)), (10, .sl 2 ((outF p1 (a.notes.take i)).map encPr) (.own 4)), (11, .int i)]) (fun i => [.var (encS a), .var (encS b), .var (encA x), .own 2 (p1.map encPr).length, .own 2 ((outF p1 (a.notes.take i)).map encPr).length])
      (fun i => i ≤ a.notes.length) (fun i => a.notes.length - i) 5 (fun _ => rfl) 0 (nZl _) ⟨rfl, rfl, rfl, rfl, tI⟩ rfl (fun _ _ => rfl) (fun _ _ => rfl) ?_
     intro i hi
     have hl4 := outF_len p1 (a.notes.take i)
     have hl5 : (a.notes.take i).length * p1.length ≤ 60 * 7200 := Nat.mul_le_mul (by rw [zAl]; omega) (by omega)
     by_cases hlt : i < a.notes.length
     · obtain ⟨n, hn⟩ : ∃ n, a.notes.getD i default = n := ⟨_, rfl⟩
       have ho := outF_take p1 hlt hn
       generalize outF p1 (a.notes.take i) = p2 at *
       repeat' (first | refine aoQ rfl rfl rfl (fun hg => by first | exact std0 | exact std1) (by exact rfl) ?_ | refine sqW ?_ | refine rgK (fun K' hK => ?_) | (refine aoN (hK _ _ ?_); clear hK K') | refine cdN rfl tI (fun hc => ?_) (fun hc => ?_) | refine blK ?_ | refine exW ?_ | refine skW ?_ | refine rtW ?_)
       all_goals (first | exact dd | skip)
       refine lpD (ι := Nat) (fun k => [(3, .ptr 0 0), (8, .sl 2 (p1.map encPr) (.own 3)), (10, .sl 2 ((p2 ++ (p1.take k).filter (fun p => p.1 == n.id)).map encPr) (.own 4)), (11, .int i), (12, .int k)]) (fun k => [.var (encS a), .var (encS b), .var (encA x), .own 2 (p1.map encPr).length, .own 2 ((p2 ++ (p1.take k).filter (fun p => p.1 == n.id)).map encPr).length])
        (fun k => k ≤ p1.length) (fun k => p1.length - k) 5 (fun _ => rfl) 0 (nZl _) ⟨rfl, rfl, (by rw [List.take_zero, List.filter_nil, zCg]; rfl), rfl, rfl, tI⟩ (by show _ = [_, _, _, _, AObj.own 2 ((p2 ++ []).map encPr).length]; rw [zCg]) (fun _ _ => rfl) (fun _ _ => rfl) ?_
       intro k hk
       have hl6 := zBf (fun p : Int × Int => p.1 == n.id) (p1.take k)
       rw [zAl] at hl6
       by_cases hlk : k < p1.length
       · obtain ⟨z, hz⟩ : ∃ z, p1.getD k default = z := ⟨_, rfl⟩
         have fy := filt_yes (id := n.id) hlk hz
         have fn := filt_no (id := n.id) hlk hz
         have hl7 : (p2 ++ (p1.take k).filter (fun p => p.1 == n.id)).length ≤ 1000000 := by rw [lLa]; omega
         have ey : (z.1 == n.id) = true → p2 ++ (p1.take (k + 1)).filter (fun p => p.1 == n.id) = (p2 ++ (p1.take k).filter (fun p => p.1 == n.id)) ++ [z] := fun e => by rw [fy e, zBj]
         have en : (z.1 == n.id) = false → p2 ++ (p1.take (k + 1)).filter (fun p => p.1 == n.id) = p2 ++ (p1.take k).filter (fun p => p.1 == n.id) := fun e => by rw [fn e]
         generalize p2 ++ (p1.take k).filter (fun p => p.1 == n.id) = p3 at *
         repeat' (first | refine aoQ rfl rfl rfl (fun hg => by first | exact iX encPr p1 ((k : Nat) : Int) hz (hb := by omega) | exact std0 | exact pbS tabOk rfl rfl nds | exact std1) (by exact rfl) ?_ | refine sqW ?_ | refine rgK (fun K' hK => ?_) | (refine aoN (hK _ _ ?_); clear hK K') | refine aoE (apO tabOk rfl rfl rfl (by decide) (Rd.w rfl tI) rfl (Rd.w rfl tI) (.sl rfl (by first | (intro x hx; rcases zAn.1 hx with rfl; rfl) | exact one_encPr [z])) (LOk.of (tabOk.get rfl)) (LOk.of (tabOk.get rfl)) rfl rfl (by simp only [lLm, lLa, zA8, zAg, zAl, zAx]; omega) (by simp only [lLm, lLa, zA8, zAg, zAl, zAx]; omega) ?_) | refine cdN rfl tI (fun hc => ?_) (fun hc => ?_) | refine blK ?_ | refine exW ?_ | refine skW ?_ | refine dK2 (by decide +kernel) (by kernel_rfl) (by decide +kernel) rfl (fun K' hK => ?_) | (refine aqN (hK _ ?_); clear hK K') | refine aqQ rfl rfl (fun hg => by first | exact iX encN a.notes ((i : Nat) : Int) hn (hb := by omega) | exact iX encPr p1 ((k : Nat) : Int) hz (hb := by omega) | exact std0) (by exact rfl) ?_)
         all_goals (first | exact dd | skip)
         · have e := ey (by simp only [zA2, zAi, zA0, zA5, zAf, dEt, dEf, zAh, zAe, beq_iff_eq, beq_eq_false_iff_ne, bne_iff_ne, bne_eq_false_iff_eq, gt_iff_lt, ge_iff_le, ne_eq] at hc; simpa using hc)
           exact ⟨k + 1, hlk, by omega, ⟨rfl, rfl, (by rw [e, zAs]; rfl), rfl, rfl, tI⟩, (by rw [e, zAs]; rfl)⟩
         · have e := en (by simp only [zA2, zAi, zA0, zA5, zAf, dEt, dEf, zAh, zAe, beq_iff_eq, beq_eq_false_iff_ne, bne_iff_ne, bne_eq_false_iff_eq, gt_iff_lt, ge_iff_le, ne_eq] at hc; simpa using hc)
           exact ⟨k + 1, hlk, by omega, ⟨rfl, rfl, (by rw [e]; rfl), rfl, rfl, tI⟩, (by rw [e]; rfl)⟩
       · obtain rfl : k = p1.length := by omega
         rw [zB9] at *
         repeat' (first | refine aoQ rfl rfl rfl (fun hg => by first | exact std0 | exact std1) (by exact rfl) ?_ | refine sqW ?_ | refine rgK (fun K' hK => ?_) | (refine aoN (hK _ _ ?_); clear hK K') | refine cdN rfl tI (fun hc => ?_) (fun hc => ?_) | refine blK ?_ | refine exW ?_ | refine skW ?_ | refine dK2 (by decide +kernel) (by kernel_rfl) (by decide +kernel) rfl (fun K' hK => ?_) | (refine aqN (hK _ ?_); clear hK K') | refine aqQ rfl rfl (fun hg => by first | exact std0 | exact std1) (by exact rfl) ?_)
         all_goals (first | exact dd | skip)
         exact ⟨i + 1, hlt, by omega, ⟨rfl, rfl, (by rw [ho]; rfl), rfl, tI⟩, (by rw [ho]; rfl)⟩
     · obtain rfl : i = a.notes.length := by omega
       rw [zB9] at *
       repeat' (first | refine aoQ rfl rfl rfl (fun hg => by first | exact std0 | exact std1) (by exact rfl) ?_ | refine sqW ?_ | refine rgK (fun K' hK => ?_) | (refine aoN (hK _ _ ?_); clear hK K') | refine cdN rfl tI (fun hc => ?_) (fun hc => ?_) | refine blK ?_ | refine exW ?_ | refine skW ?_ | refine rtW ?_)
       all_goals (first | exact dd | skip)
       exact ⟨.inr rfl, Ent.of rfl⟩
 · have hR : notesR a b x = ([], 1) := if_neg hok
   rw [hR]
   generalize scoreOk a = s1 at *
   generalize scoreOk b = s2 at *
   generalize pOk a.bars.length b.bars.length (-1) (-1) x.pairs = s3 at *
   repeat' (first | refine aoQ rfl rfl rfl (fun hg => by first | exact std0 | exact pcW (v1) rfl rfl nd rfl nds | exact pcW (v2) rfl rfl nd rfl nds | exact pcW (v3) rfl rfl nd rfl nds) (by exact rfl) ?_ | refine sqW ?_ | refine rgK (fun K' hK => ?_) | (refine aoN (hK _ _ ?_); clear hK K') | refine aoE (bxW rfl rfl rfl rfl rfl tI rfl rfl ?_) | refine cdN rfl tI (fun hc => ?_) (fun hc => ?_) | refine blK ?_ | refine skW ?_ | refine rtW ?_)
   all_goals (first | (exact ⟨.inr rfl, Ent.tup2 Ent.nil (Ent.rfl' _)⟩) | (exfalso; cases s1 <;> cases s2 <;> cases s3 <;> simp at hc <;> exact hok rfl) | (rename_i h0; exfalso; cases s1 <;> cases s2 <;> cases s3 <;> simp at h0 <;> exact hok rfl))
end Go.Proofs.YtekfpcgagoidcaaGreatDoor.Al
