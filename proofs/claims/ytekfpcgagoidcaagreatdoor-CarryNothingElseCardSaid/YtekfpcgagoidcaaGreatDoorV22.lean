/- Contracts by content: align: Notes.  Contracts by content: the reference of align: long, Few, Pairs, Total, Cost, SamePairs, Same.  Contracts by content: carry: numbers, versions, where one is found.  Contracts by content: the example of the laws over alignments.  Alignments in plain words: a table is looked at, cell by cell.  Contracts by content: align: isTable.  Regions that draw their order: a chain of effects whose order is told by several edges, one after the other. No statement is proved here. -/
import Derived.Test.YtekfpcgagoidcaaGreatDoorV17
import Derived.Test.YtekfpcgagoidcaaGreatDoorV19
import Derived.Test.YtekfpcgagoidcaaGreatDoorV20
import Derived.Test.YtekfpcgagoidcaaGreatDoorV21
set_option linter.unusedVariables false
set_option linter.unusedSimpArgs false
namespace Go.Proofs.YtekfpcgagoidcaaGreatDoor.Al
open Go.Ab Go.Sort
attribute [local irreducible] AWP AOps EStep AQ PStep PRun PCall TCall VCall
structure Algn where
  pairs : PL
  cost : Int
  table : List (List Int)
  deriving Inhabited
def encA (x : Algn) : List AV := [.sl 2 (x.pairs.map encPr) .no, .int x.cost, .sl 1 (x.table.map encRow) .no]
structure Algn.Sized (x : Algn) : Prop where
  pairs : x.pairs.length ≤ 9223372036854775807
  table : x.table.length ≤ 9223372036854775807
  rows : ∀ r ∈ x.table, r.length ≤ 9223372036854775807
theorem notes1_spec (x y : Note) : PCall Tryz.prog 60 [.agg (encN x), .agg (encN y)] (.b (f1 x y)) := by
  refine PCall.body Tryz.func60 rfl rfl Tryz.ntmps60 rfl rfl ?_
  repeat' (first | refine aoQ rfl rfl rfl (fun hg => by exact std0) (by exact rfl) ?_ | refine sqW ?_ | refine rgK (fun K' hK => ?_) | (refine aoN (hK _ _ ?_); clear hK K') | refine aoE (bxW rfl rfl rfl rfl rfl tI rfl rfl ?_) | refine rtW ?_)
  exact ⟨.inr rfl, Ent.b rfl⟩
theorem notes2_spec (x y : Note) : PCall Tryz.prog 61 [.agg (encN x), .agg (encN y)] (.b (f2 x y)) := by
  refine PCall.body Tryz.func61 rfl rfl Tryz.ntmps61 rfl rfl ?_
  repeat' (first | refine aoQ rfl rfl rfl (fun hg => by exact std0) (by exact rfl) ?_ | refine sqW ?_ | refine rgK (fun K' hK => ?_) | (refine aoN (hK _ _ ?_); clear hK K') | refine aoE (bxW rfl rfl rfl rfl rfl tI rfl rfl ?_) | refine rtW ?_ | refine dK2 (by decide +kernel) (by kernel_rfl) (by decide +kernel) rfl (fun K' hK => ?_) | (refine aqN (hK _ ?_); clear hK K') | refine aqQ rfl rfl (fun hg => by first | exact std0 | exact pcW (bare_spec x) rfl rfl nd rfl nds | exact pcW (bare_spec y) rfl rfl nd rfl nds | exact PRun.eqN flN rfl rfl nd rfl nd rfl) (by exact rfl) ?_)
  exact ⟨.inr rfl, Ent.b (by unfold f2 alike; exact eqNo_eq _ _)⟩
theorem notes3_spec (x y : Note) : PCall Tryz.prog 63 [.agg (encN x), .agg (encN y)] (.b (f3 x y)) := by
  refine PCall.body Tryz.func63 rfl rfl Tryz.ntmps63 rfl rfl ?_
  repeat' (first | refine aoQ rfl rfl rfl (fun hg => by first | exact std0 | exact PRun.eqN flRtA rfl rfl nd rfl nd rfl) (by exact rfl) ?_ | refine sqW ?_ | refine rgK (fun K' hK => ?_) | (refine aoN (hK _ _ ?_); clear hK K') | refine aoE (bxW rfl rfl rfl rfl rfl tI rfl rfl ?_) | refine rtW ?_)
  refine ⟨.inr rfl, Ent.b ?_⟩
  unfold f3
  rw [← eqRa_eq]
  simp only [Bool.and_assoc]; rfl
def outL (ps : PL) (l : List Note) : PL := l.filterMap fun n => (lk ps n.id).map fun y => (n.id, y)
theorem outL_yes {ps : PL} {l : List Note} {k : Nat} (h : k < l.length) {n : Note} (hn : l.getD k default = n) {v : Int} (hv : lk ps n.id = some v) : outL ps (l.take (k + 1)) = outL ps (l.take k) ++ [(n.id, v)] := by
  unfold outL; rw [takeS h, hn, zC8]; simp [hv]
theorem outL_no {ps : PL} {l : List Note} {k : Nat} (h : k < l.length) {n : Note} (hn : l.getD k default = n) (hv : lk ps n.id = none) : outL ps (l.take (k + 1)) = outL ps (l.take k) := by
  unfold outL; rw [takeS h, hn, zC8]; simp [hv]
theorem outL_len (ps : PL) (l : List Note) : (outL ps l).length ≤ l.length := List.length_filterMap_le _ _
def notesR (a b : Score) (x : Algn) : PL × Int := if scoreOk a && (scoreOk b && pOk a.bars.length b.bars.length (-1) (-1) x.pairs) then (notesM a b (np x.pairs), 0) else ([], 1)
def pOf (a b : Score) (x : Algn) (al : NL) : Nat → AObj := fun i => (PairS (.var (encS a)) (.var (encS b)) (.var (encA x)) a b al []).getD i .dead
theorem pOf_ok (a b : Score) (x : Algn) (al : NL) : PureP (pOf a b x al) := fun i m hm => by
  have h := pairS_ok (o0 := .var (encS a)) (o1 := .var (encS b)) (o2 := .var (encA x)) (fun _ => ⟨rfl, rfl, rfl⟩) hm a b al []
  rw [zA5] at h
  unfold pOf
  rw [zBe]
  cases hh : (PairS (.var (encS a)) (.var (encS b)) (.var (encA x)) a b al [])[i]? with
  | none => rfl
  | some v => exact h v (zAg hh)
theorem pairsM_take (a b : Score) {l : PL} {k : Nat} (h : k < l.length) {z : Int × Int} (hz : l.getD k default = z) : pairsM a b (np (l.take (k + 1))) [] = three (inBar a (barI a z.1.toNat).id) (inBar b (barI b z.2.toNat).id) (pairsM a b (np (l.take k)) []) := by
  rw [takeS h, hz]
  unfold pairsM np
  rw [zAu, zCj]; rfl
set_option maxHeartbeats 16000000 in
set_option maxRecDepth 20000 in
theorem aNotes_spec (a b : Score) (ha : a.Small) (hb : b.Small) (x : Algn) (hx : x.pairs.length ≤ 1000000) :
    PCall Tryz.prog 24 [.agg (encS a), .agg (encS b), .agg (encA x)] (.tup [.sl 2 ((notesR a b x).1.map encPr) .no, .int (notesR a b x).2]) := by
  have h3 : Pure3 (.var (encS a)) (.var (encS b)) (.var (encA x)) := fun _ => ⟨rfl, rfl, rfl⟩
  have hv0 := TCall.val (first := []) (caps := []) (avs := [.agg (encS a), .agg (encS b)]) (newPair_spec h3 a b ha hb)
  have hp1 := fun u v => arePairs_spec a b u v ha hb x.pairs hx
  refine PCall.body Tryz.func24 rfl rfl Tryz.ntmps24 rfl rfl ?_
  repeat' (first | refine aoQ rfl rfl rfl (fun hg => by exact std0) (by exact rfl) ?_ | refine sqW ?_ | refine rgK (fun K' hK => ?_) | (refine aoN (hK _ _ ?_); clear hK K') | refine aoE (bxW rfl rfl rfl rfl rfl tI rfl rfl ?_) | refine aoE (scT (hv0) rfl rfl rfl rfl rfl nd rfl rfl nds ?_))
  intro r s hr
  unfold npR at hr
  split at hr
  · rename_i hok
    obtain ⟨rfl, al, hg, rfl⟩ := hr
    simp only [zA2] at hok
    cases hpk : pOk a.bars.length b.bars.length (-1) (-1) x.pairs with
    | false =>
      rw [hpk] at hp1
      repeat' (first | refine aoQ rfl rfl rfl (fun hg => by first | exact std0 | exact pbW (hp1 _ _) rfl rfl nd rfl rfl nds) (by exact rfl) ?_ | refine sqW ?_ | refine rgK (fun K' hK => ?_) | (refine aoN (hK _ _ ?_); clear hK K') | (refine cdW rfl tI (fun hc => ?_) (fun hc => ?_) <;> (first | (simp only [dEt] at hc) | (simp only [dEf, zA0, zA1] at hc) | skip)) | refine skW ?_ | refine rtW ?_)
      all_goals (first | (exfalso; omega) | (exfalso; simp at hc; done) | (exfalso; simp at hc; omega) | (exfalso; simp only [dEf, dEt] at hc; omega) | (rename_i h0; exfalso; simp at h0; done) | (rename_i h0; exfalso; simp at h0; omega) | skip)
      have hR : notesR a b x = ([], 1) := by unfold notesR; rw [hpk]; simp
      rw [hR]
      exact ⟨.inr rfl, Ent.tup2 Ent.nil (Ent.rfl' _)⟩
    | true =>
      rw [hpk] at hp1
      have hR : notesR a b x = (notesM a b (np x.pairs), 0) := by unfold notesR; rw [hok.1, hok.2, hpk]; rfl
      have hps := pOk_spec (by omega) (by omega) hpk
      have hsa := ok_sc hok.1
      have hna := ok_nts hok.1
      have hnb := ok_nts hok.2
      have ha3 := hna.len
      repeat' (first | refine aoQ rfl rfl rfl (fun hg => by first | exact std0 | exact pbW (hp1 _ _) rfl rfl nd rfl rfl nds | exact std1) (by exact rfl) ?_ | refine sqW ?_ | refine rgK (fun K' hK => ?_) | (refine aoN (hK _ _ ?_); clear hK K') | refine aoE (EStep.makeMapW rfl rfl rfl rfl ?_) | (refine cdW rfl tI (fun hc => ?_) (fun hc => ?_) <;> (first | (simp only [dEt] at hc) | (simp only [dEf, zA0, zA1] at hc) | skip)) | refine blK ?_ | refine skW ?_ | refine rtW ?_)
      all_goals (first | (exfalso; omega) | (exfalso; simp at hc; done) | (exfalso; simp at hc; omega) | (exfalso; simp only [dEf, dEt] at hc; omega) | (rename_i h0; exfalso; simp at h0; done) | (rename_i h0; exfalso; simp at h0; omega) | skip)
      rw [hR]
      clear hp1 hc
      refine lpD (ι := Nat) (fun k => [(3, .ptr 0 0), (4, .ptr 1 0), (8, .ptr 7 0), (10, .map 8), (11, .map 9), (39, .sl 2 (x.pairs.map encPr) .no), (40, .int x.pairs.length), (41, .int k)]) (fun k => MB (pOf a b x al) (pairsM a b (np (x.pairs.take k)) [])) (fun k => k ≤ x.pairs.length) (fun k => x.pairs.length - k) 10 (fun _ => rfl) 0 (nZl _) ⟨rfl, rfl, rfl, rfl, rfl, rfl, rfl, rfl, tI⟩ rfl (fun _ _ => rfl) (fun k _ => MB_ok (pOf_ok a b x al) (nLr _) _) ?_
      intro k hk
      by_cases hlt : k < x.pairs.length
      · obtain ⟨z, hz⟩ : ∃ z, x.pairs.getD k default = z := ⟨_, rfl⟩
        have hzm : z ∈ x.pairs := by rw [← hz, getD_lt hlt]; exact lGm hlt
        obtain ⟨z1, z2, z3, z4⟩ := hps.2 (z.1.toNat, z.2.toNat) (zAp.2 ⟨z, hzm, rfl⟩)
        have hzp : 0 ≤ z.1 ∧ 0 ≤ z.2 := by
          have h5 := ip_np (by omega) (by omega) hpk
          have h6 : z ∈ ip (np x.pairs) := by rw [h5]; exact hzm
          obtain ⟨q, _, rfl⟩ := zAp.1 h6
          exact ⟨zCt _, zCt _⟩
        dsimp only at z3 z4
        have n1 : AV.int z.1 = AV.int ((z.1.toNat : Nat) : Int) := congrArg AV.int (by omega)
        have n2 : AV.int z.2 = AV.int ((z.2.toNat : Nat) : Int) := congrArg AV.int (by omega)
        have hst := pairsM_take a b hlt hz
        obtain ⟨u, hu⟩ : ∃ u, barI a z.1.toNat = u := ⟨_, rfl⟩
        obtain ⟨v, hv⟩ : ∃ v, barI b z.2.toNat = v := ⟨_, rfl⟩
        have gx := (hg u.id).1
        have gy := (hg v.id).2
        rw [hu, hv] at hst
        have lx := (hna.inBar u.id).1
        have ly := (hnb.inBar v.id).1
        have hnd := inBar_nodup hsa.notes u.id
        generalize pairsM a b (np (x.pairs.take k)) [] = q at *
        have hM := fun (f : Note → Note → Bool) (g : Nat) (hf : ∀ x y, PCall Tryz.prog g [.agg (encN x), .agg (encN y)] (.b (f x y))) (q : PL) => TCall.val (first := []) (caps := []) (avs := [.sl 12 ((inBar a u.id).map encN) .no, .sl 12 ((inBar b v.id).map encN) .no, .map 8, .map 9, .fn (.func g) [] []]) (TCall.frame (match_spec (pOf_ok a b x al) hf (inBar a u.id) (inBar b v.id) (by omega) (by omega) hnd q) [.var (encPr z)] (MB_ok (pOf_ok a b x al) (nLr _) _) rfl (fun rv s h => by rw [h.2]; rfl))
        have m1 := hM f1 _ notes1_spec q
        have m2 := hM f2 _ notes2_spec (matchL f1 (inBar a u.id) (inBar b v.id) q)
        have m3 := hM f3 _ notes3_spec (matchL f2 (inBar a u.id) (inBar b v.id) (matchL f1 (inBar a u.id) (inBar b v.id) q))
        clear hM
        repeat' (first | refine aoQ rfl rfl rfl (fun hg => by first | exact iX encPr x.pairs ((k : Nat) : Int) hz (hb := by omega) | exact std0 | exact std1) (by exact rfl) ?_ | refine sqW ?_ | refine rgK (fun K' hK => ?_) | (refine aoN (hK _ _ ?_); clear hK K') | refine aoE (stW tabOk rfl rfl rfl tI rfl rfl tI rfl rfl rfl rfl rfl rfl rfl ?_) | refine aoE (alW tabOk rfl rfl rfl rfl rfl rfl ?_) | refine aoE (scT (m1) rfl rfl rfl rfl rfl nd rfl rfl nds ?_) | (refine cdW rfl tI (fun hc => ?_) (fun hc => ?_) <;> (first | (simp only [dEt] at hc) | (simp only [dEf, zA0, zA1] at hc) | skip)) | refine blK ?_ | refine exW ?_ | refine skW ?_ | refine dK2 (by decide +kernel) (by kernel_rfl) (by decide +kernel) rfl (fun K' hK => ?_) | (refine aqN (hK _ ?_); clear hK K') | refine aqQ rfl rfl (fun hg => by first | exact PRun.eq (PRun.lookupN (ek := ekP) (sz := 12) (f := encN) (al := al) (key := ((1 : Int), v.id)) pairKA (LOk.of (tabOk.get rfl)) (LOk.of (tabOk.get rfl)) rfl rfl (Rd.w rfl nd) (Or.inr ⟨_, rfl, rfl⟩) (Rd.w rfl nd) rfl) (show AV.sl 12 (((lk al ((1 : Int), v.id)).getD []).map encN) .no = AV.sl 12 ((inBar b v.id).map encN) .no by rw [gy]) | exact PRun.eq (PRun.lookupN (ek := ekP) (sz := 12) (f := encN) (al := al) (key := ((0 : Int), u.id)) pairKA (LOk.of (tabOk.get rfl)) (LOk.of (tabOk.get rfl)) rfl rfl (Rd.w rfl nd) (Or.inr ⟨_, rfl, rfl⟩) (Rd.w rfl nd) rfl) (show AV.sl 12 (((lk al ((0 : Int), u.id)).getD []).map encN) .no = AV.sl 12 ((inBar a u.id).map encN) .no by rw [gx]) | exact iX encB b.bars ((z.2.toNat : Nat) : Int) hv (hb := by omega) | exact iX encB a.bars ((z.1.toNat : Nat) : Int) hu (hb := by omega) | exact PRun.eq (v := .int z.2) (PRun.step tabOk rfl sd) n2 | exact PRun.eq (v := .int z.1) (PRun.step tabOk rfl sd) n1 | exact std0 | exact PRun.buildAW tabOk rfl rfl nds | exact std1) (by exact rfl) ?_)
        all_goals (first | (exfalso; omega) | (exfalso; simp at hc; done) | (exfalso; simp at hc; omega) | (exfalso; simp only [dEf, dEt] at hc; omega) | (rename_i h0; exfalso; simp at h0; done) | (rename_i h0; exfalso; simp at h0; omega) | skip)
        rintro _ _ ⟨σ', rfl, rfl, rfl⟩
        clear m1
        repeat' (first | refine aoQ rfl rfl rfl (fun hg => by exact std0) (by exact rfl) ?_ | refine sqW ?_ | refine rgK (fun K' hK => ?_) | (refine aoN (hK _ _ ?_); clear hK K') | refine aoE (scT (m2) rfl rfl rfl rfl rfl nd rfl rfl nds ?_))
        rintro _ _ ⟨σ', rfl, rfl, rfl⟩
        clear m2
        repeat' (first | refine aoQ rfl rfl rfl (fun hg => by exact std0) (by exact rfl) ?_ | refine rgK (fun K' hK => ?_) | (refine aoN (hK _ _ ?_); clear hK K') | refine aoE (scT (m3) rfl rfl rfl rfl rfl nd rfl rfl nds ?_))
        rintro _ _ ⟨σ', rfl, rfl, rfl⟩
        clear m3
        repeat' (first | refine aoQ rfl rfl rfl (fun hg => by exact std0) (by exact rfl) ?_ | refine rgK (fun K' hK => ?_) | (refine aoN (hK _ _ ?_); clear hK K'))
        exact ⟨k + 1, hlt, by omega, ⟨rfl, rfl, rfl, rfl, rfl, rfl, rfl, rfl, tI⟩, by show _ = MB _ (pairsM a b (np (x.pairs.take (k + 1))) []); rw [hst]; rfl⟩
      · obtain rfl : k = x.pairs.length := by omega
        rw [zBt]
        repeat' (first | refine aoQ rfl rfl rfl (fun hg => by first | exact std0 | exact std1) (by exact rfl) ?_ | refine sqW ?_ | refine rgK (fun K' hK => ?_) | (refine aoN (hK _ _ ?_); clear hK K') | refine aoE (stW tabOk rfl rfl rfl tI rfl rfl tI rfl rfl rfl rfl rfl rfl rfl ?_) | refine aoE (alW tabOk rfl rfl rfl rfl rfl rfl ?_) | (refine cdW rfl tI (fun hc => ?_) (fun hc => ?_) <;> (first | (simp only [dEt] at hc) | (simp only [dEf, zA0, zA1] at hc) | skip)) | refine blK ?_ | refine exW ?_ | refine skW ?_ | refine dK2 (by decide +kernel) (by kernel_rfl) (by decide +kernel) rfl (fun K' hK => ?_) | refine aqQ rfl rfl (fun hg => by first | exact std0 | exact std1) (by exact rfl) ?_)
        all_goals (first | (exfalso; omega) | (exfalso; simp at hc; done) | (exfalso; simp at hc; omega) | (exfalso; simp only [dEf, dEt] at hc; omega) | (rename_i h0; exfalso; simp at h0; done) | (rename_i h0; exfalso; simp at h0; omega) | skip)
        have hM : notesM a b (np x.pairs) = outL (pairsM a b (np x.pairs) []) a.notes := rfl
        rw [hM]
        generalize pairsM a b (np x.pairs) [] = q
        clear hps hM hR hpk
        refine AWP.ownNil (d := 16) (sz := 2) rfl ?_
        refine lpD (ι := Nat) (fun k => [(10, .map 8), (16, .sl 2 ((outL q (a.notes.take k)).map encPr) (.own 10)), (88, .sl 12 (a.notes.map encN) .no), (89, .int a.notes.length), (90, .int k)]) (fun k => MB (pOf a b x al) q ++ [.own 2 ((outL q (a.notes.take k)).map encPr).length]) (fun k => k ≤ a.notes.length) (fun k => a.notes.length - k) 11 (fun _ => rfl) 0 (nZl _) ⟨rfl, rfl, rfl, rfl, rfl, tI⟩ rfl (fun _ _ => rfl) (fun k _ => by rw [okOwn1]; exact MB_ok (pOf_ok a b x al) (by decide) _) ?_
        intro k hk
        have hlo := outL_len q (a.notes.take k)
        rw [zB3] at hlo
        by_cases hlt : k < a.notes.length
        · obtain ⟨n, hn⟩ : ∃ n, a.notes.getD k default = n := ⟨_, rfl⟩
          cases hl : lk q n.id with
          | none =>
            have ho := outL_no hlt hn hl
            repeat' (first | refine aoQ rfl rfl rfl (fun hg => by first | exact PRun.eq (v := .tup [.int ((lk q n.id).getD 0), .b (lk q n.id).isSome]) (PRun.lookup (ok := true) (ek := ekI) (ev := AV.int) (al := q) (key := n.id) (zv := 0) (keyLaw_int (LOk.of (tabOk.get rfl))) (LOk.of (tabOk.get rfl)) (LOk.of (tabOk.get rfl)) rfl rfl (Rd.w rfl nd) (Or.inr ⟨_, rfl, rfl⟩) (Rd.w rfl nd) rfl) (show AV.tup [.int ((lk q n.id).getD 0), .b (lk q n.id).isSome] = AV.tup [.int 0, .b false] by rw [hl]; rfl) | exact iX encN a.notes ((k : Nat) : Int) hn (hb := by omega) | exact std0) (by exact rfl) ?_ | refine sqW ?_ | refine rgK (fun K' hK => ?_) | (refine aoN (hK _ _ ?_); clear hK K') | refine aoE (stW tabOk rfl rfl rfl tI rfl rfl tI rfl rfl rfl rfl rfl rfl rfl ?_) | refine aoE (alW tabOk rfl rfl rfl rfl rfl rfl ?_) | (refine cdW rfl tI (fun hc => ?_) (fun hc => ?_) <;> (first | (simp only [dEt] at hc) | (simp only [dEf, zA0, zA1] at hc) | skip)) | refine blK ?_ | refine exW ?_ | refine skW ?_ | refine rtW ?_)
            all_goals (first | (exfalso; omega) | (exfalso; simp at hc; done) | (exfalso; simp at hc; omega) | (exfalso; simp only [dEf, dEt] at hc; omega) | (rename_i h0; exfalso; simp at h0; done) | (rename_i h0; exfalso; simp at h0; omega) | skip)
            exact ⟨k + 1, hlt, by omega, ⟨rfl, by rw [ho]; rfl, rfl, rfl, rfl, tI⟩, by show _ = _ ++ [AObj.own 2 ((outL q (a.notes.take (k + 1))).map encPr).length]; rw [ho]; rfl⟩
          | some w =>
            have ho := outL_yes hlt hn hl
            have hom2 : (List.map encPr (outL q (a.notes.take k)) ++ [[AV.int n.id, AV.int w]]).length = (List.map encPr (outL q (a.notes.take k))).length + 1 := by rw [lLa]; rfl
            have hom : ((outL q (a.notes.take k)) ++ [(n.id, w)]).map encPr = (outL q (a.notes.take k)).map encPr ++ [[AV.int n.id, AV.int w]] := by rw [zAu]; rfl
            repeat' (first | refine aoQ rfl rfl rfl (fun hg => by first | exact PRun.eq (v := .tup [.int ((lk q n.id).getD 0), .b (lk q n.id).isSome]) (PRun.lookup (ok := true) (ek := ekI) (ev := AV.int) (al := q) (key := n.id) (zv := 0) (keyLaw_int (LOk.of (tabOk.get rfl))) (LOk.of (tabOk.get rfl)) (LOk.of (tabOk.get rfl)) rfl rfl (Rd.w rfl nd) (Or.inr ⟨_, rfl, rfl⟩) (Rd.w rfl nd) rfl) (show AV.tup [.int ((lk q n.id).getD 0), .b (lk q n.id).isSome] = AV.tup [.int w, .b true] by rw [hl]; rfl) | exact iX encN a.notes ((k : Nat) : Int) hn (hb := by omega) | exact std0 | exact pbD tabOk rfl rfl nds | exact pbS tabOk rfl rfl nds) (by exact rfl) ?_ | refine sqW ?_ | refine rgK (fun K' hK => ?_) | (refine aoN (hK _ _ ?_); clear hK K') | refine aoE (stW tabOk rfl rfl rfl tI rfl rfl tI rfl rfl rfl rfl rfl rfl rfl ?_) | refine aoE (alW tabOk rfl rfl rfl rfl rfl rfl ?_) | refine aoE (EStep.appendOwn tabOk rfl rfl rfl (by decide) (Rd.w rfl tI) rfl (Rd.w rfl tI) (.sl rfl (by first | (intro x hx; rcases zAo.1 hx with rfl; rfl) | exact one_by8 _ | exact one_ints _)) (LOk.of (tabOk.get rfl)) (LOk.of (tabOk.get rfl)) rfl rfl (by simp only [lLm, lLa, zAd, zAi]; omega) (by simp only [lLm, lLa, zAd, zAi]; omega) ?_) | (refine cdW rfl tI (fun hc => ?_) (fun hc => ?_) <;> (first | (simp only [dEt] at hc) | (simp only [dEf, zA0, zA1] at hc) | skip)) | refine blK ?_ | refine exW ?_ | refine skW ?_ | refine rtW ?_)
            all_goals (first | (exfalso; omega) | (exfalso; simp at hc; done) | (exfalso; simp at hc; omega) | (exfalso; simp only [dEf, dEt] at hc; omega) | (rename_i h0; exfalso; simp at h0; done) | (rename_i h0; exfalso; simp at h0; omega) | skip)
            exact ⟨k + 1, hlt, by omega, ⟨rfl, by rw [ho, hom]; rfl, rfl, rfl, rfl, tI⟩, by show _ = _ ++ [AObj.own 2 ((outL q (a.notes.take (k + 1))).map encPr).length]; rw [ho, hom, hom2]; rfl⟩
        · obtain rfl : k = a.notes.length := by omega
          rw [zBt]
          repeat' (first | refine aoQ rfl rfl rfl (fun hg => by first | exact std0 | exact std1) (by exact rfl) ?_ | refine sqW ?_ | refine rgK (fun K' hK => ?_) | (refine aoN (hK _ _ ?_); clear hK K') | refine aoE (stW tabOk rfl rfl rfl tI rfl rfl tI rfl rfl rfl rfl rfl rfl rfl ?_) | refine aoE (alW tabOk rfl rfl rfl rfl rfl rfl ?_) | (refine cdW rfl tI (fun hc => ?_) (fun hc => ?_) <;> (first | (simp only [dEt] at hc) | (simp only [dEf, zA0, zA1] at hc) | skip)) | refine blK ?_ | refine exW ?_ | refine skW ?_ | refine rtW ?_)
          all_goals (first | (exfalso; omega) | (exfalso; simp at hc; done) | (exfalso; simp at hc; omega) | (exfalso; simp only [dEf, dEt] at hc; omega) | (rename_i h0; exfalso; simp at h0; done) | (rename_i h0; exfalso; simp at h0; omega) | skip)
          exact ⟨.inr rfl, Ent.of rfl⟩
  · rename_i hok
    obtain ⟨rfl, rfl⟩ := hr
    repeat' (first | refine aoQ rfl rfl rfl (fun hg => by first | exact std0 | exact (Bool.noConfusion (show false = true from hg) : PRun _ _ _ _ (.b false))) (by exact rfl) ?_ | refine sqW ?_ | refine rgK (fun K' hK => ?_) | (refine aoN (hK _ _ ?_); clear hK K') | (refine cdW rfl tI (fun hc => ?_) (fun hc => ?_) <;> (first | (simp only [dEt] at hc) | (simp only [dEf, zA0, zA1] at hc) | skip)) | refine skW ?_ | refine rtW ?_)
    all_goals (first | (exfalso; omega) | (exfalso; simp at hc; done) | (exfalso; simp at hc; omega) | (exfalso; simp only [dEf, dEt] at hc; omega) | (rename_i h0; exfalso; simp at h0; done) | (rename_i h0; exfalso; simp at h0; omega) | skip)
    have hR : notesR a b x = ([], 1) := by
      unfold notesR
      rw [if_neg (fun h => hok (by simp only [zA2] at h ⊢; exact ⟨h.1, h.2.1⟩))]
    rw [hR]
    exact ⟨.inr rfl, Ent.tup2 Ent.nil (Ent.rfl' _)⟩
def few12 (s : Score) : Bool := decide ((s.bars.length : Int) ≤ 12) && decide ((s.parts.length : Int) ≤ 70) && decide ((s.notes.length : Int) ≤ 60)
theorem few12_small {s : Score} (h : few12 s = true) : s.Small := by
  unfold few12 at h
  simp only [zA2, dEt] at h
  exact ⟨by omega, by omega, by omega⟩
theorem few12_spec (s : Score) (hs : s.Sized) : PCall Tryz.prog 42 [.agg (encS s)] (.b (few12 s)) := by
  obtain ⟨h1, h2, h3⟩ := hs
  refine PCall.body Tryz.func42 rfl rfl Tryz.ntmps42 rfl rfl ?_
  repeat' (first | refine aoQ rfl rfl rfl (fun hg => by first | exact std0 | exact std1) (by exact rfl) ?_ | refine sqW ?_ | refine rgK (fun K' hK => ?_) | (refine aoN (hK _ _ ?_); clear hK K') | refine aoE (bxW rfl rfl rfl rfl rfl tI rfl rfl ?_) | refine rtW ?_)
  exact ⟨.inr rfl, Ent.b rfl⟩
end Go.Proofs.YtekfpcgagoidcaaGreatDoor.Al
namespace Go.Ab
end Go.Ab
namespace Go.Proofs.YtekfpcgagoidcaaGreatDoor.Cy
open Go.Ab Go.Sort Al
attribute [local irreducible] AWP AOps EStep AQ PStep PRun PCall TCall VCall
def atS (l : List Score) (k : Nat) : Score := l.getD k default
def findV (l : List Score) (v : Int) : Int := findI (fun s : Score => s.version == v) l
def numOk (n : Int) : Bool := decide (1 ≤ n) && decide (n ≤ 1000000)
def stepV (l : List Score) (k : Nat) : Bool := scoreOk (atS l k) && (k == 0 || decide ((atS l (k - 1)).version < (atS l k).version))
def versOk (l : List Score) : Bool := (decide ((l.length : Int) ≥ 1) && decide ((l.length : Int) ≤ 100)) && (List.range l.length).all (stepV l)
theorem vers_no {l : List Score} {k : Nat} (hk : k < l.length) (h : stepV l k = false) : versOk l = false := by
  unfold versOk
  have : (List.range l.length).all (stepV l) = false := by
    rw [List.all_eq_false]; exact ⟨k, zAt.2 hk, by rw [h]; decide⟩
  rw [this, Bool.and_false]
theorem vers_yes {l : List Score} (h : ∀ k, k < l.length → stepV l k = true) : versOk l = (decide ((l.length : Int) ≥ 1) && decide ((l.length : Int) ≤ 100)) := by
  unfold versOk
  rw [zA5.2 fun k hk => h k (zAt.1 hk), Bool.and_true]
theorem isNumber_spec (n : Int) : PCall Tryz.prog 68 [.int n] (.b (numOk n)) := by
  refine PCall.body Tryz.func68 rfl rfl Tryz.ntmps68 rfl rfl ?_
  repeat' (first | refine aoQ rfl rfl rfl (fun hg => by exact std0) (by exact rfl) ?_ | refine sqW ?_ | refine rgK (fun K' hK => ?_) | (refine aoN (hK _ _ ?_); clear hK K') | refine rtW ?_)
  exact ⟨.inr rfl, Ent.b rfl⟩
theorem nc1_spec (s : Score) (v : Int) : PCall Tryz.prog 104 [.agg (encS s), .iptr [.int v]] (.b (s.version == v)) := by
  refine PCall.body Tryz.func104 rfl rfl Tryz.ntmps104 rfl rfl ?_
  repeat' (first | refine aoQ rfl rfl rfl (fun hg => by exact std0) (by exact rfl) ?_ | refine sqW ?_ | refine rgK (fun K' hK => ?_) | (refine aoN (hK _ _ ?_); clear hK K') | refine aoE (bxW rfl rfl rfl rfl rfl tI rfl rfl ?_) | refine rtW ?_)
  exact ⟨.inr rfl, Ent.b rfl⟩
theorem fr1_spec (s : Score) (v : Int) : PCall Tryz.prog 135 [.agg (encS s), .iptr [.int v]] (.b (s.version == v)) := by
  refine PCall.body Tryz.func135 rfl rfl Tryz.ntmps135 rfl rfl ?_
  repeat' (first | refine aoQ rfl rfl rfl (fun hg => by exact std0) (by exact rfl) ?_ | refine sqW ?_ | refine rgK (fun K' hK => ?_) | (refine aoN (hK _ _ ?_); clear hK K') | refine aoE (bxW rfl rfl rfl rfl rfl tI rfl rfl ?_) | refine rtW ?_)
  exact ⟨.inr rfl, Ent.b rfl⟩
set_option maxHeartbeats 8000000 in
set_option maxRecDepth 20000 in
theorem idxS_spec (g : Nat) (l : List Score) (hl : l.length ≤ 9223372036854775807) (v : Int) (hg0 : ∀ s, PCall Tryz.prog g [.agg (encS s), .iptr [.int v]] (.b (s.version == v))) :
    PCall Tryz.prog 134 [.sl 4 (l.map encS) .no, .fn (.func g) [] [.iptr [.int v]]] (.int (findV l v)) := by
  refine PCall.body Tryz.func134 rfl rfl Tryz.ntmps134 rfl rfl ?_
  repeat' (first | refine aoQ rfl rfl rfl (fun hg => by first | exact std0 | exact std1) (by exact rfl) ?_ | refine sqW ?_ | refine rgK (fun K' hK => ?_) | (refine aoN (hK _ _ ?_); clear hK K') | refine blK ?_)
  refine lpW (ι := Nat) (fun k => [(0, .sl 4 (l.map encS) .no), (1, .fn (.func g) [] [.iptr [.int v]]), (7, .int l.length), (8, .int k)]) (fun _ => []) (fun k => k ≤ l.length ∧ ∀ j, j < k → ((l.getD j default).version == v) = false) (fun k => l.length - k) 0 ⟨nZl _, fun j h => absurd h (by omega)⟩ ⟨rfl, rfl, rfl, rfl, tI⟩ rfl ?_
  rintro k ⟨hk, hall⟩
  by_cases hlt : k < l.length
  · obtain ⟨s, hs⟩ : ∃ s, l.getD k default = s := ⟨_, rfl⟩
    have hv := hg0 s
    repeat' (first | refine aoQ rfl rfl rfl (fun hg => by first | exact iX encS l (((k) : Nat) : Int) hs (hb := by omega) | exact std0 | exact pcW (hv) rfl rfl nd rfl nds) (by exact rfl) ?_ | refine sqW ?_ | refine rgK (fun K' hK => ?_) | (refine aoN (hK _ _ ?_); clear hK K') | (refine cdW rfl tI (fun hc => ?_) (fun hc => ?_) <;> (first | (simp only [dEt] at hc) | (simp only [dEf, zA0, zA1] at hc) | skip)) | refine blK ?_ | refine exW ?_ | refine skW ?_ | refine rtW ?_)
    all_goals (first | (exfalso; omega) | (exfalso; simp at hc; done) | (exfalso; simp at hc; omega) | (exfalso; simp only [dEf, dEt] at hc; omega) | (rename_i h0; exfalso; simp at h0; done) | (rename_i h0; exfalso; simp at h0; omega) | skip)
    · exact ⟨.inr rfl, Ent.int (Eq.symm (findI_at hlt (by rw [hs]; exact hc) hall))⟩
    · exact ⟨k + 1, ⟨hlt, fun j hj => lt_succ_cases hall (by rw [hs]; exact hc) hj⟩, by omega, ⟨rfl, rfl, rfl, rfl, tI⟩, rfl⟩
  · repeat' (first | refine aoQ rfl rfl rfl (fun hg => by first | exact std0 | exact std1) (by exact rfl) ?_ | refine sqW ?_ | refine rgK (fun K' hK => ?_) | (refine aoN (hK _ _ ?_); clear hK K') | (refine cdW rfl tI (fun hc => ?_) (fun hc => ?_) <;> (first | (simp only [dEt] at hc) | (simp only [dEf, zA0, zA1] at hc) | skip)) | refine blK ?_ | refine exW ?_ | refine skW ?_ | refine rtW ?_)
    all_goals (first | (exfalso; omega) | (exfalso; simp at hc; done) | (exfalso; simp at hc; omega) | (exfalso; simp only [dEf, dEt] at hc; omega) | (rename_i h0; exfalso; simp at h0; done) | (rename_i h0; exfalso; simp at h0; omega) | skip)
    exact ⟨.inr rfl, Ent.int (Eq.symm (findI_no fun j hj => hall j (by omega)))⟩
def gotS (l : List Score) (v : Int) : List AV := if findV l v < 0 then [.int 0, .nils, .nils, .nils] else encS (atS l (findV l v).toNat)
theorem findV_lt {l : List Score} {v : Int} (h : ¬ findV l v < 0) : ∃ k : Nat, findV l v = k ∧ k < l.length ∧ (atS l k).version = v := by
  obtain ⟨k, h1, h2, h3, _⟩ := findI_lt (p := fun s : Score => s.version == v) (l := l) (by unfold findV at h; omega)
  exact ⟨k, h1, h2, beq_iff_eq.1 h3⟩
set_option maxHeartbeats 8000000 in
set_option maxRecDepth 20000 in
theorem findS_spec (g : Nat) (l : List Score) (hl : l.length ≤ 9223372036854775807) (v : Int) (hg0 : ∀ s, PCall Tryz.prog g [.agg (encS s), .iptr [.int v]] (.b (s.version == v))) :
    PCall Tryz.prog 103 [.sl 4 (l.map encS) .no, .fn (.func g) [] [.iptr [.int v]]] (.tup [.agg (gotS l v), .b (!decide (findV l v < 0))]) := by
  have h1 := idxS_spec g l hl v hg0
  refine PCall.bodyS tabOk Tryz.func103 rfl rfl Tryz.ntmps103 rfl ?_
  by_cases hf : findV l v < 0
  · have e : gotS l v = [.int 0, .nils, .nils, .nils] := if_pos hf
    rw [e, decide_eq_true hf]
    repeat' (first | refine aoQ rfl rfl rfl (fun hg => by first | exact std0 | exact pcW (h1) rfl rfl nd rfl nds | exact std1) (by exact rfl) ?_ | refine sqW ?_ | refine rgK (fun K' hK => ?_) | (refine aoN (hK _ _ ?_); clear hK K') | refine aoE (stW tabOk rfl rfl rfl tI rfl rfl tI rfl rfl rfl rfl rfl rfl rfl ?_) | refine aoE (alW tabOk rfl rfl rfl rfl rfl rfl ?_) | (refine cdW rfl tI (fun hc => ?_) (fun hc => ?_) <;> (first | (simp only [dEt] at hc) | (simp only [dEf, zA0, zA1] at hc) | skip)) | refine skW ?_ | refine rtW ?_)
    all_goals (first | (exfalso; omega) | (exfalso; simp at hc; done) | (exfalso; simp at hc; omega) | (exfalso; simp only [dEf, dEt] at hc; omega) | (rename_i h0; exfalso; simp at h0; done) | (rename_i h0; exfalso; simp at h0; omega) | skip)
    exact ⟨.inr rfl, _, rfl, Ent.of rfl⟩
  · have e : gotS l v = encS (atS l (findV l v).toNat) := if_neg hf
    rw [e, decide_eq_false hf]
    obtain ⟨k, hk, hlt, _⟩ := findV_lt hf
    rw [hk] at h1 ⊢
    rw [zAe]
    obtain ⟨s, hs⟩ : ∃ s, atS l k = s := ⟨_, rfl⟩
    rw [hs]
    repeat' (first | refine aoQ rfl rfl rfl (fun hg => by first | exact iX encS l (((k) : Nat) : Int) hs (hb := by omega) | exact std0 | exact pcW (h1) rfl rfl nd rfl nds) (by exact rfl) ?_ | refine sqW ?_ | refine rgK (fun K' hK => ?_) | (refine aoN (hK _ _ ?_); clear hK K') | refine aoE (stW tabOk rfl rfl rfl tI rfl rfl tI rfl rfl rfl rfl rfl rfl rfl ?_) | refine aoE (alW tabOk rfl rfl rfl rfl rfl rfl ?_) | (refine cdW rfl tI (fun hc => ?_) (fun hc => ?_) <;> (first | (simp only [dEt] at hc) | (simp only [dEf, zA0, zA1] at hc) | skip)) | refine skW ?_ | refine rtW ?_)
    all_goals (first | (exfalso; omega) | (exfalso; simp at hc; done) | (exfalso; simp at hc; omega) | (exfalso; simp only [dEf, dEt] at hc; omega) | (rename_i h0; exfalso; simp at h0; done) | (rename_i h0; exfalso; simp at h0; omega) | skip)
    exact ⟨.inr rfl, _, rfl, Ent.of rfl⟩
set_option maxHeartbeats 8000000 in
set_option maxRecDepth 20000 in
theorem areVersions_spec (l : List Score) (hl : l.length ≤ 9223372036854775807) (hsm : ∀ s ∈ l, s.Small) : PCall Tryz.prog 70 [.sl 4 (l.map encS) .no] (.b (versOk l)) := by
  refine PCall.body Tryz.func70 rfl rfl Tryz.ntmps70 rfl rfl ?_
  repeat' (first | refine aoQ rfl rfl rfl (fun hg => by first | exact std0 | exact std1) (by exact rfl) ?_ | refine sqW ?_ | refine rgK (fun K' hK => ?_) | (refine aoN (hK _ _ ?_); clear hK K') | refine blK ?_)
  refine lpD (ι := Nat) (fun k => [(0, .sl 4 (l.map encS) .no), (5, .sl 4 (l.map encS) .no), (6, .int l.length), (7, .int k)]) (fun _ => []) (fun k => k ≤ l.length ∧ ∀ j, j < k → stepV l j = true) (fun k => l.length - k) 0 (fun _ => rfl) 0 ⟨nZl _, fun j h => absurd h (by omega)⟩ ⟨rfl, rfl, rfl, rfl, tI⟩ rfl (fun _ _ => rfl) (fun _ _ => rfl) ?_
  rintro k ⟨hk, hall⟩
  by_cases hlt : k < l.length
  · obtain ⟨s, hs⟩ : ∃ s, l.getD k default = s := ⟨_, rfl⟩
    have hv := svalid_spec s (hsm s (by rw [← hs]; exact getD_mem hlt))
    have hst : stepV l k = (scoreOk s && (k == 0 || decide ((atS l (k - 1)).version < s.version))) := by unfold stepV atS; rw [hs]
    cases ho : scoreOk s with
    | false =>
      rw [ho] at hv hst
      repeat' (first | refine aoQ rfl rfl rfl (fun hg => by first | exact iX encS l (((k) : Nat) : Int) hs (hb := by omega) | exact std0 | exact std1) (by exact rfl) ?_ | refine sqW ?_ | refine rgK (fun K' hK => ?_) | (refine aoN (hK _ _ ?_); clear hK K') | refine aoE (stW tabOk rfl rfl rfl tI rfl rfl tI rfl rfl rfl rfl rfl rfl rfl ?_) | refine aoE (alW tabOk rfl rfl rfl rfl rfl rfl ?_) | (refine cdW rfl tI (fun hc => ?_) (fun hc => ?_) <;> (first | (simp only [dEt] at hc) | (simp only [dEf, zA0, zA1] at hc) | skip)) | refine blK ?_ | refine exW ?_ | refine skW ?_ | refine rtW ?_ | refine dK2 (by decide +kernel) (by kernel_rfl) (by decide +kernel) rfl (fun K' hK => ?_) | (refine aqN (hK _ ?_); clear hK K') | refine aqQ rfl rfl (fun hg => by first | exact std0 | exact pcW (hv) rfl rfl nd rfl nds | exact (Bool.noConfusion (show false = true from hg) : PRun _ _ _ _ (.b false)) | fail) (by exact rfl) ?_)
      all_goals (first | (exfalso; omega) | (exfalso; simp at hc; done) | (exfalso; simp at hc; omega) | (exfalso; simp only [dEf, dEt] at hc; omega) | (rename_i h0; exfalso; simp at h0; done) | (rename_i h0; exfalso; simp at h0; omega) | skip)
      exact ⟨.inr rfl, Ent.b (Eq.symm (vers_no hlt hst))⟩
    | true =>
      rw [ho] at hv hst
      cases k with
      | zero =>
        repeat' (first | refine aoQ rfl rfl rfl (fun hg => by first | exact iX encS l (((0) : Nat) : Int) hs (hb := by omega) | exact std0 | exact std1) (by exact rfl) ?_ | refine sqW ?_ | refine rgK (fun K' hK => ?_) | (refine aoN (hK _ _ ?_); clear hK K') | refine aoE (stW tabOk rfl rfl rfl tI rfl rfl tI rfl rfl rfl rfl rfl rfl rfl ?_) | refine aoE (alW tabOk rfl rfl rfl rfl rfl rfl ?_) | (refine cdW rfl tI (fun hc => ?_) (fun hc => ?_) <;> (first | (simp only [dEt] at hc) | (simp only [dEf, zA0, zA1] at hc) | skip)) | refine blK ?_ | refine exW ?_ | refine skW ?_ | refine rtW ?_ | refine dK2 (by decide +kernel) (by kernel_rfl) (by decide +kernel) rfl (fun K' hK => ?_) | (refine aqN (hK _ ?_); clear hK K') | refine aqQ rfl rfl (fun hg => by first | exact std0 | exact pcW (hv) rfl rfl nd rfl nds | exact (Bool.noConfusion (show false = true from hg) : PRun _ _ _ _ (.b false)) | fail) (by exact rfl) ?_)
        all_goals (first | (exfalso; omega) | (exfalso; simp at hc; done) | (exfalso; simp at hc; omega) | (exfalso; simp only [dEf, dEt] at hc; omega) | (rename_i h0; exfalso; simp at h0; done) | (rename_i h0; exfalso; simp at h0; omega) | skip)
        exact ⟨0 + 1, ⟨hlt, fun j hj => by obtain rfl : j = 0 := (by omega); exact hst⟩, by show l.length - (0 + 1) < l.length - 0; omega, ⟨rfl, rfl, rfl, rfl, tI⟩, rfl⟩
      | succ k =>
        obtain ⟨r, hr⟩ : ∃ r, l.getD k default = r := ⟨_, rfl⟩
        have hst2 : stepV l (k + 1) = decide (r.version < s.version) := by rw [hst, ← hr]; rfl
        by_cases hle : s.version ≤ r.version
        · repeat' (first | refine aoQ rfl rfl rfl (fun hg => by first | exact iX encS l (((k + 1) : Nat) : Int) hs (hb := by omega) | exact std0 | exact std1) (by exact rfl) ?_ | refine sqW ?_ | refine rgK (fun K' hK => ?_) | (refine aoN (hK _ _ ?_); clear hK K') | refine aoE (stW tabOk rfl rfl rfl tI rfl rfl tI rfl rfl rfl rfl rfl rfl rfl ?_) | refine aoE (alW tabOk rfl rfl rfl rfl rfl rfl ?_) | (refine cdW rfl tI (fun hc => ?_) (fun hc => ?_) <;> (first | (simp only [dEt] at hc) | (simp only [dEf, zA0, zA1] at hc) | skip)) | refine blK ?_ | refine exW ?_ | refine skW ?_ | refine rtW ?_ | refine dK2 (by decide +kernel) (by kernel_rfl) (by decide +kernel) rfl (fun K' hK => ?_) | (refine aqN (hK _ ?_); clear hK K') | refine aqQ rfl rfl (fun hg => by first | exact PRun.eq (PRun.binW rfl rfl nd rfl nd rfl) (show AV.b (decide (s.version ≤ r.version)) = AV.b true from congrArg AV.b (decide_eq_true hle)) | exact PRun.eq (v := .int ((((k + 1 : Nat) : Int)) - 1)) (PRun.step tabOk rfl sd) (congrArg AV.int (show (((k + 1 : Nat) : Int) - 1) = ((k : Nat) : Int) by omega)) | exact iX encS l (((k) : Nat) : Int) hr (hb := by omega) | exact std0 | exact pcW (hv) rfl rfl nd rfl nds) (by exact rfl) ?_)
          all_goals (first | (exfalso; omega) | (exfalso; simp at hc; done) | (exfalso; simp at hc; omega) | (exfalso; simp only [dEf, dEt] at hc; omega) | (rename_i h0; exfalso; simp at h0; done) | (rename_i h0; exfalso; simp at h0; omega) | skip)
          exact ⟨.inr rfl, Ent.b (Eq.symm (vers_no hlt (by rw [hst2]; exact decide_eq_false (by omega))))⟩
        · repeat' (first | refine aoQ rfl rfl rfl (fun hg => by first | exact iX encS l (((k + 1) : Nat) : Int) hs (hb := by omega) | exact std0 | exact std1) (by exact rfl) ?_ | refine sqW ?_ | refine rgK (fun K' hK => ?_) | (refine aoN (hK _ _ ?_); clear hK K') | refine aoE (stW tabOk rfl rfl rfl tI rfl rfl tI rfl rfl rfl rfl rfl rfl rfl ?_) | refine aoE (alW tabOk rfl rfl rfl rfl rfl rfl ?_) | (refine cdW rfl tI (fun hc => ?_) (fun hc => ?_) <;> (first | (simp only [dEt] at hc) | (simp only [dEf, zA0, zA1] at hc) | skip)) | refine blK ?_ | refine exW ?_ | refine skW ?_ | refine rtW ?_ | refine dK2 (by decide +kernel) (by kernel_rfl) (by decide +kernel) rfl (fun K' hK => ?_) | (refine aqN (hK _ ?_); clear hK K') | refine aqQ rfl rfl (fun hg => by first | exact PRun.eq (PRun.binW rfl rfl nd rfl nd rfl) (show AV.b (decide (s.version ≤ r.version)) = AV.b false from congrArg AV.b (decide_eq_false hle)) | exact PRun.eq (v := .int ((((k + 1 : Nat) : Int)) - 1)) (PRun.step tabOk rfl sd) (congrArg AV.int (show (((k + 1 : Nat) : Int) - 1) = ((k : Nat) : Int) by omega)) | exact iX encS l (((k) : Nat) : Int) hr (hb := by omega) | exact std0 | exact pcW (hv) rfl rfl nd rfl nds) (by exact rfl) ?_)
          all_goals (first | (exfalso; omega) | (exfalso; simp at hc; done) | (exfalso; simp at hc; omega) | (exfalso; simp only [dEf, dEt] at hc; omega) | (rename_i h0; exfalso; simp at h0; done) | (rename_i h0; exfalso; simp at h0; omega) | skip)
          exact ⟨k + 1 + 1, ⟨hlt, fun j hj => by
            rcases nLg j (k + 1) with g | g
            · exact hall j g
            · obtain rfl : j = k + 1 := (by omega)
              rw [hst2]; exact decide_eq_true (by omega)⟩, by show l.length - (k + 1 + 1) < l.length - (k + 1); omega, ⟨rfl, rfl, rfl, rfl, tI⟩, rfl⟩
  · obtain rfl : k = l.length := by omega
    repeat' (first | refine aoQ rfl rfl rfl (fun hg => by first | exact std0 | exact std1) (by exact rfl) ?_ | refine sqW ?_ | refine rgK (fun K' hK => ?_) | (refine aoN (hK _ _ ?_); clear hK K') | refine aoE (stW tabOk rfl rfl rfl tI rfl rfl tI rfl rfl rfl rfl rfl rfl rfl ?_) | refine aoE (alW tabOk rfl rfl rfl rfl rfl rfl ?_) | (refine cdW rfl tI (fun hc => ?_) (fun hc => ?_) <;> (first | (simp only [dEt] at hc) | (simp only [dEf, zA0, zA1] at hc) | skip)) | refine blK ?_ | refine exW ?_ | refine skW ?_ | refine rtW ?_ | refine dK2 (by decide +kernel) (by kernel_rfl) (by decide +kernel) rfl (fun K' hK => ?_) | refine aqQ rfl rfl (fun hg => by exact std0) (by exact rfl) ?_)
    all_goals (first | (exfalso; omega) | (exfalso; simp at hc; done) | (exfalso; simp at hc; omega) | (exfalso; simp only [dEf, dEt] at hc; omega) | (rename_i h0; exfalso; simp at h0; done) | (rename_i h0; exfalso; simp at h0; omega) | skip)
    exact ⟨.inr rfl, Ent.b (Eq.symm (vers_yes hall))⟩
end Go.Proofs.YtekfpcgagoidcaaGreatDoor.Cy
namespace Go.Proofs.YtekfpcgagoidcaaGreatDoor.Al
open Go.Ab Go.Sort
attribute [local irreducible] AWP AOps EStep AQ PStep PRun PCall TCall VCall
def exP : Part := ⟨1, 0, 0, 0, 1, ⟨0, 0⟩, ⟨0, 0, 0⟩, ⟨0, 0, 9⟩⟩
def WS (v : Int) (B : List (List AV)) (nb : Nat) (N : List (List AV)) (nn : Nat) : Store := [.var [.int 0, .nils, .nils, .nils], .var [.int v, .sl 4 B (.own 2), .sl 13 [encP exP] .fresh, .sl 12 N (.own 3)], .own 4 nb, .own 12 nn]
end Go.Proofs.YtekfpcgagoidcaaGreatDoor.Al
namespace Go.Proofs.YtekfpcgagoidcaaGreatDoor.Al
open Go.Ab Go.Sort
abbrev KL := List (KeyP × Int)
end Go.Proofs.YtekfpcgagoidcaaGreatDoor.Al
namespace Go.Ab
end Go.Ab
namespace Go.Proofs.YtekfpcgagoidcaaGreatDoor.Al
open Go.Ab Go.Sort
attribute [local irreducible] AWP AOps EStep AQ PStep PRun PCall TCall VCall
def Bnd (t : List (List Int)) (i n : Nat) : Prop := ∀ j, j < n → 0 ≤ get2 t i j ∧ get2 t i j ≤ 1000
def Rows (m : Nat) (t : List (List Int)) (i : Nat) : Prop := ∀ j, j < i → (t.getD j []).length = m + 1 ∧ Bnd t j (m + 1)
end Go.Proofs.YtekfpcgagoidcaaGreatDoor.Al
namespace Go.Ab
section
variable {P : Program} {n : Nat} {ops : Array Oper} {md : Region.Mode} {S : Nat → Store} {eff : Oper → Bool} {lo hi rank : Nat → Nat}
inductive Aft (md : Region.Mode) (ops : Array Oper) (i : Nat) : Nat → Prop
  | one {k : Nat} {o : Oper} (h : ops[k]? = some o) (he : edgeB md o i = true) : Aft md ops i k
  | step {k m : Nat} {o : Oper} (hm : Aft md ops i m) (h : ops[k]? = some o) (he : edgeB md o m = true) : Aft md ops i k
end
end Go.Ab
