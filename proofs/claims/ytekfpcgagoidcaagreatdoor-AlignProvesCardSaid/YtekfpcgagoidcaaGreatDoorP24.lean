/- Contracts by content: align: Notes.  Contracts by content: the reference of align: long, Few, Pairs, Total, Cost, SamePairs, Same. No statement is proved here. -/
import Derived.Test.YtekfpcgagoidcaaGreatDoorP21
import Derived.Test.YtekfpcgagoidcaaGreatDoorP22
import Derived.Test.YtekfpcgagoidcaaGreatDoorP23
set_option linter.unusedVariables false
set_option linter.unusedSimpArgs false
namespace Go.Proofs.YtekfpcgagoidcaaGreatDoor.Al
open Go.Ab Go.Sort
attribute [local irreducible] AWP AOps EStep AQ PStep PRun PCall TCall VCall
structure Algn where
  pairs : PL
  cost : Int
  table : List (List Int)
  deriving Inhabited
def encA (x : Algn) : List AV := [.sl 2 (x.pairs.map encPr) .no, .int x.cost, .sl 1 (x.table.map encRow) .no]
structure Algn.Sized (x : Algn) : Prop where
  pairs : x.pairs.length ≤ 9223372036854775807
  table : x.table.length ≤ 9223372036854775807
  rows : ∀ r ∈ x.table, r.length ≤ 9223372036854775807
theorem notes1_spec (x y : Note) : PCall Tryz.prog 60 [.agg (encN x), .agg (encN y)] (.b (f1 x y)) := by
  refine PCall.body Tryz.func60 rfl rfl Tryz.ntmps60 rfl rfl ?_
  repeat' (first | refine AOps.q rfl rfl rfl (fun hg => by exact std0) (by exact rfl) ?_ | refine AWP.seq ?_ | refine AWP.regionK (fun K' hK => ?_) | (refine AOps.nil (hK _ _ ?_); clear hK K') | refine AOps.e (EStep.boxW rfl rfl rfl rfl rfl True.intro rfl rfl ?_) | refine AWP.ret ?_)
  exact ⟨.inr rfl, Ent.b rfl⟩
theorem notes2_spec (x y : Note) : PCall Tryz.prog 61 [.agg (encN x), .agg (encN y)] (.b (f2 x y)) := by
  refine PCall.body Tryz.func61 rfl rfl Tryz.ntmps61 rfl rfl ?_
  repeat' (first | refine AOps.q rfl rfl rfl (fun hg => by exact std0) (by exact rfl) ?_ | refine AWP.seq ?_ | refine AWP.regionK (fun K' hK => ?_) | (refine AOps.nil (hK _ _ ?_); clear hK K') | refine AOps.e (EStep.boxW rfl rfl rfl rfl rfl True.intro rfl rfl ?_) | refine AWP.ret ?_ | refine AWP.drawK2 (by decide +kernel) (by kernel_rfl) (by decide +kernel) rfl (fun K' hK => ?_) | (refine AQ.nil (hK _ ?_); clear hK K') | refine AQ.q rfl rfl (fun hg => by first | exact std0 | exact PRun.callW (bare_spec x) rfl rfl nd rfl nds | exact PRun.callW (bare_spec y) rfl rfl nd rfl nds | exact PRun.eqN flN rfl rfl nd rfl nd rfl) (by exact rfl) ?_)
  exact ⟨.inr rfl, Ent.b (by unfold f2 alike; exact eqNo_eq _ _)⟩
theorem notes3_spec (x y : Note) : PCall Tryz.prog 63 [.agg (encN x), .agg (encN y)] (.b (f3 x y)) := by
  refine PCall.body Tryz.func63 rfl rfl Tryz.ntmps63 rfl rfl ?_
  repeat' (first | refine AOps.q rfl rfl rfl (fun hg => by first | exact std0 | exact PRun.eqN flRtA rfl rfl nd rfl nd rfl) (by exact rfl) ?_ | refine AWP.seq ?_ | refine AWP.regionK (fun K' hK => ?_) | (refine AOps.nil (hK _ _ ?_); clear hK K') | refine AOps.e (EStep.boxW rfl rfl rfl rfl rfl True.intro rfl rfl ?_) | refine AWP.ret ?_)
  refine ⟨.inr rfl, Ent.b ?_⟩
  unfold f3
  rw [← eqRa_eq]
  simp only [Bool.and_assoc]; rfl
def outL (ps : PL) (l : List Note) : PL := l.filterMap fun n => (lk ps n.id).map fun y => (n.id, y)
theorem outL_yes {ps : PL} {l : List Note} {k : Nat} (h : k < l.length) {n : Note} (hn : l.getD k default = n) {v : Int} (hv : lk ps n.id = some v) : outL ps (l.take (k + 1)) = outL ps (l.take k) ++ [(n.id, v)] := by
  unfold outL; rw [takeS h, hn, List.filterMap_append]; simp [hv]
theorem outL_no {ps : PL} {l : List Note} {k : Nat} (h : k < l.length) {n : Note} (hn : l.getD k default = n) (hv : lk ps n.id = none) : outL ps (l.take (k + 1)) = outL ps (l.take k) := by
  unfold outL; rw [takeS h, hn, List.filterMap_append]; simp [hv]
theorem outL_len (ps : PL) (l : List Note) : (outL ps l).length ≤ l.length := List.length_filterMap_le _ _
def notesR (a b : Score) (x : Algn) : PL × Int := if scoreOk a && (scoreOk b && pOk a.bars.length b.bars.length (-1) (-1) x.pairs) then (notesM a b (np x.pairs), 0) else ([], 1)
def pOf (a b : Score) (x : Algn) (al : NL) : Nat → AObj := fun i => (PairS (.var (encS a)) (.var (encS b)) (.var (encA x)) a b al []).getD i .dead
theorem pOf_ok (a b : Score) (x : Algn) (al : NL) : PureP (pOf a b x al) := fun i m hm => by
  have h := pairS_ok (o0 := .var (encS a)) (o1 := .var (encS b)) (o2 := .var (encA x)) (fun _ => ⟨rfl, rfl, rfl⟩) hm a b al []
  rw [List.all_eq_true] at h
  unfold pOf
  rw [List.getD_eq_getElem?_getD]
  cases hh : (PairS (.var (encS a)) (.var (encS b)) (.var (encA x)) a b al [])[i]? with
  | none => rfl
  | some v => exact h v (List.mem_of_getElem? hh)
theorem pairsM_take (a b : Score) {l : PL} {k : Nat} (h : k < l.length) {z : Int × Int} (hz : l.getD k default = z) : pairsM a b (np (l.take (k + 1))) [] = three (inBar a (barI a z.1.toNat).id) (inBar b (barI b z.2.toNat).id) (pairsM a b (np (l.take k)) []) := by
  rw [takeS h, hz]
  unfold pairsM np
  rw [List.map_append, List.foldl_append]; rfl
set_option maxHeartbeats 16000000 in
set_option maxRecDepth 20000 in
theorem aNotes_spec (a b : Score) (ha : a.Small) (hb : b.Small) (x : Algn) (hx : x.pairs.length ≤ 1000000) :
    PCall Tryz.prog 24 [.agg (encS a), .agg (encS b), .agg (encA x)] (.tup [.sl 2 ((notesR a b x).1.map encPr) .no, .int (notesR a b x).2]) := by
  have h3 : Pure3 (.var (encS a)) (.var (encS b)) (.var (encA x)) := fun _ => ⟨rfl, rfl, rfl⟩
  have hv0 := TCall.val (first := []) (caps := []) (avs := [.agg (encS a), .agg (encS b)]) (newPair_spec h3 a b ha hb)
  have hp1 := fun u v => arePairs_spec a b u v ha hb x.pairs hx
  refine PCall.body Tryz.func24 rfl rfl Tryz.ntmps24 rfl rfl ?_
  repeat' (first | refine AOps.q rfl rfl rfl (fun hg => by exact std0) (by exact rfl) ?_ | refine AWP.seq ?_ | refine AWP.regionK (fun K' hK => ?_) | (refine AOps.nil (hK _ _ ?_); clear hK K') | refine AOps.e (EStep.boxW rfl rfl rfl rfl rfl True.intro rfl rfl ?_) | refine AOps.e (EStep.callT (hv0) rfl rfl rfl rfl rfl nd rfl rfl nds ?_))
  intro r s hr
  unfold npR at hr
  split at hr
  · rename_i hok
    obtain ⟨rfl, al, hg, rfl⟩ := hr
    simp only [Bool.and_eq_true] at hok
    cases hpk : pOk a.bars.length b.bars.length (-1) (-1) x.pairs with
    | false =>
      rw [hpk] at hp1
      repeat' (first | refine AOps.q rfl rfl rfl (fun hg => by first | exact std0 | exact PRun.callBW (hp1 _ _) rfl rfl nd rfl rfl nds) (by exact rfl) ?_ | refine AWP.seq ?_ | refine AWP.regionK (fun K' hK => ?_) | (refine AOps.nil (hK _ _ ?_); clear hK K') | (refine AWP.condW rfl True.intro (fun hc => ?_) (fun hc => ?_) <;> (first | (simp only [dEt] at hc) | (simp only [dEf, iNl, iNe] at hc) | skip)) | refine AWP.skip ?_ | refine AWP.ret ?_)
      all_goals (first | (exfalso; omega) | (exfalso; simp at hc; done) | (exfalso; simp at hc; omega) | (exfalso; simp only [dEf, dEt] at hc; omega) | (rename_i h0; exfalso; simp at h0; done) | (rename_i h0; exfalso; simp at h0; omega) | skip)
      have hR : notesR a b x = ([], 1) := by unfold notesR; rw [hpk]; simp
      rw [hR]
      exact ⟨.inr rfl, Ent.tup2 Ent.nil (Ent.rfl' _)⟩
    | true =>
      rw [hpk] at hp1
      have hR : notesR a b x = (notesM a b (np x.pairs), 0) := by unfold notesR; rw [hok.1, hok.2, hpk]; rfl
      have hps := pOk_spec (by omega) (by omega) hpk
      have hsa := ok_sc hok.1
      have hna := ok_nts hok.1
      have hnb := ok_nts hok.2
      have ha3 := hna.len
      repeat' (first | refine AOps.q rfl rfl rfl (fun hg => by first | exact std0 | exact PRun.callBW (hp1 _ _) rfl rfl nd rfl rfl nds | exact std1) (by exact rfl) ?_ | refine AWP.seq ?_ | refine AWP.regionK (fun K' hK => ?_) | (refine AOps.nil (hK _ _ ?_); clear hK K') | refine AOps.e (EStep.makeMapW rfl rfl rfl rfl ?_) | (refine AWP.condW rfl True.intro (fun hc => ?_) (fun hc => ?_) <;> (first | (simp only [dEt] at hc) | (simp only [dEf, iNl, iNe] at hc) | skip)) | refine AWP.block ?_ | refine AWP.skip ?_ | refine AWP.ret ?_)
      all_goals (first | (exfalso; omega) | (exfalso; simp at hc; done) | (exfalso; simp at hc; omega) | (exfalso; simp only [dEf, dEt] at hc; omega) | (rename_i h0; exfalso; simp at h0; done) | (rename_i h0; exfalso; simp at h0; omega) | skip)
      rw [hR]
      clear hp1 hc
      refine AWP.loopD (ι := Nat) (fun k => [(3, .ptr 0 0), (4, .ptr 1 0), (8, .ptr 7 0), (10, .map 8), (11, .map 9), (39, .sl 2 (x.pairs.map encPr) .no), (40, .int x.pairs.length), (41, .int k)]) (fun k => MB (pOf a b x al) (pairsM a b (np (x.pairs.take k)) [])) (fun k => k ≤ x.pairs.length) (fun k => x.pairs.length - k) 10 (fun _ => rfl) 0 (Nat.zero_le _) ⟨rfl, rfl, rfl, rfl, rfl, rfl, rfl, rfl, True.intro⟩ rfl (fun _ _ => rfl) (fun k _ => MB_ok (pOf_ok a b x al) (Nat.le_refl _) _) ?_
      intro k hk
      by_cases hlt : k < x.pairs.length
      · obtain ⟨z, hz⟩ : ∃ z, x.pairs.getD k default = z := ⟨_, rfl⟩
        have hzm : z ∈ x.pairs := by rw [← hz, getD_lt hlt]; exact List.getElem_mem hlt
        obtain ⟨z1, z2, z3, z4⟩ := hps.2 (z.1.toNat, z.2.toNat) (List.mem_map.2 ⟨z, hzm, rfl⟩)
        have hzp : 0 ≤ z.1 ∧ 0 ≤ z.2 := by
          have h5 := ip_np (by omega) (by omega) hpk
          have h6 : z ∈ ip (np x.pairs) := by rw [h5]; exact hzm
          obtain ⟨q, _, rfl⟩ := List.mem_map.1 h6
          exact ⟨Int.natCast_nonneg _, Int.natCast_nonneg _⟩
        dsimp only at z3 z4
        have n1 : AV.int z.1 = AV.int ((z.1.toNat : Nat) : Int) := congrArg AV.int (by omega)
        have n2 : AV.int z.2 = AV.int ((z.2.toNat : Nat) : Int) := congrArg AV.int (by omega)
        have hst := pairsM_take a b hlt hz
        obtain ⟨u, hu⟩ : ∃ u, barI a z.1.toNat = u := ⟨_, rfl⟩
        obtain ⟨v, hv⟩ : ∃ v, barI b z.2.toNat = v := ⟨_, rfl⟩
        have gx := (hg u.id).1
        have gy := (hg v.id).2
        rw [hu, hv] at hst
        have lx := (hna.inBar u.id).1
        have ly := (hnb.inBar v.id).1
        have hnd := inBar_nodup hsa.notes u.id
        generalize pairsM a b (np (x.pairs.take k)) [] = q at *
        have hM := fun (f : Note → Note → Bool) (g : Nat) (hf : ∀ x y, PCall Tryz.prog g [.agg (encN x), .agg (encN y)] (.b (f x y))) (q : PL) => TCall.val (first := []) (caps := []) (avs := [.sl 12 ((inBar a u.id).map encN) .no, .sl 12 ((inBar b v.id).map encN) .no, .map 8, .map 9, .fn (.func g) [] []]) (TCall.frame (match_spec (pOf_ok a b x al) hf (inBar a u.id) (inBar b v.id) (by omega) (by omega) hnd q) [.var (encPr z)] (MB_ok (pOf_ok a b x al) (Nat.le_refl _) _) rfl (fun rv s h => by rw [h.2]; rfl))
        have m1 := hM f1 _ notes1_spec q
        have m2 := hM f2 _ notes2_spec (matchL f1 (inBar a u.id) (inBar b v.id) q)
        have m3 := hM f3 _ notes3_spec (matchL f2 (inBar a u.id) (inBar b v.id) (matchL f1 (inBar a u.id) (inBar b v.id) q))
        clear hM
        repeat' (first | refine AOps.q rfl rfl rfl (fun hg => by first | exact PRun.eq (v := .iptr (encPr (x.pairs.getD ((k : Nat) : Int).toNat default))) (PRun.indexMW tabOk rfl rfl nd rfl nd rfl rfl (by omega)) (congrArg (fun x => AV.iptr (encPr x)) hz) | exact std0 | exact std1) (by exact rfl) ?_ | refine AWP.seq ?_ | refine AWP.regionK (fun K' hK => ?_) | (refine AOps.nil (hK _ _ ?_); clear hK K') | refine AOps.e (EStep.storeW tabOk rfl rfl rfl True.intro rfl rfl True.intro rfl rfl rfl rfl rfl rfl rfl ?_) | refine AOps.e (EStep.allocW tabOk rfl rfl rfl rfl rfl rfl ?_) | refine AOps.e (EStep.callT (m1) rfl rfl rfl rfl rfl nd rfl rfl nds ?_) | (refine AWP.condW rfl True.intro (fun hc => ?_) (fun hc => ?_) <;> (first | (simp only [dEt] at hc) | (simp only [dEf, iNl, iNe] at hc) | skip)) | refine AWP.block ?_ | refine AWP.exit ?_ | refine AWP.skip ?_ | refine AWP.drawK2 (by decide +kernel) (by kernel_rfl) (by decide +kernel) rfl (fun K' hK => ?_) | (refine AQ.nil (hK _ ?_); clear hK K') | refine AQ.q rfl rfl (fun hg => by first | exact PRun.eq (PRun.lookupN (ek := ekP) (sz := 12) (f := encN) (al := al) (key := ((1 : Int), v.id)) pairKA (LOk.of (tabOk.get rfl)) (LOk.of (tabOk.get rfl)) rfl rfl (Rd.w rfl nd) (Or.inr ⟨_, rfl, rfl⟩) (Rd.w rfl nd) rfl) (show AV.sl 12 (((lk al ((1 : Int), v.id)).getD []).map encN) .no = AV.sl 12 ((inBar b v.id).map encN) .no by rw [gy]) | exact PRun.eq (PRun.lookupN (ek := ekP) (sz := 12) (f := encN) (al := al) (key := ((0 : Int), u.id)) pairKA (LOk.of (tabOk.get rfl)) (LOk.of (tabOk.get rfl)) rfl rfl (Rd.w rfl nd) (Or.inr ⟨_, rfl, rfl⟩) (Rd.w rfl nd) rfl) (show AV.sl 12 (((lk al ((0 : Int), u.id)).getD []).map encN) .no = AV.sl 12 ((inBar a u.id).map encN) .no by rw [gx]) | exact PRun.eq (v := .iptr (encB (b.bars.getD ((z.2.toNat : Nat) : Int).toNat default))) (PRun.indexMW tabOk rfl rfl nd rfl nd rfl rfl (by omega)) (congrArg (fun x => AV.iptr (encB x)) (show b.bars.getD ((z.2.toNat : Nat) : Int).toNat default = v from hv)) | exact PRun.eq (v := .iptr (encB (a.bars.getD ((z.1.toNat : Nat) : Int).toNat default))) (PRun.indexMW tabOk rfl rfl nd rfl nd rfl rfl (by omega)) (congrArg (fun x => AV.iptr (encB x)) (show a.bars.getD ((z.1.toNat : Nat) : Int).toNat default = u from hu)) | exact PRun.eq (v := .int z.2) (PRun.step tabOk rfl sd) n2 | exact PRun.eq (v := .int z.1) (PRun.step tabOk rfl sd) n1 | exact std0 | exact PRun.buildAW tabOk rfl rfl nds | exact std1) (by exact rfl) ?_)
        all_goals (first | (exfalso; omega) | (exfalso; simp at hc; done) | (exfalso; simp at hc; omega) | (exfalso; simp only [dEf, dEt] at hc; omega) | (rename_i h0; exfalso; simp at h0; done) | (rename_i h0; exfalso; simp at h0; omega) | skip)
        rintro _ _ ⟨σ', rfl, rfl, rfl⟩
        clear m1
        repeat' (first | refine AOps.q rfl rfl rfl (fun hg => by exact std0) (by exact rfl) ?_ | refine AWP.seq ?_ | refine AWP.regionK (fun K' hK => ?_) | (refine AOps.nil (hK _ _ ?_); clear hK K') | refine AOps.e (EStep.callT (m2) rfl rfl rfl rfl rfl nd rfl rfl nds ?_))
        rintro _ _ ⟨σ', rfl, rfl, rfl⟩
        clear m2
        repeat' (first | refine AOps.q rfl rfl rfl (fun hg => by exact std0) (by exact rfl) ?_ | refine AWP.regionK (fun K' hK => ?_) | (refine AOps.nil (hK _ _ ?_); clear hK K') | refine AOps.e (EStep.callT (m3) rfl rfl rfl rfl rfl nd rfl rfl nds ?_))
        rintro _ _ ⟨σ', rfl, rfl, rfl⟩
        clear m3
        repeat' (first | refine AOps.q rfl rfl rfl (fun hg => by exact std0) (by exact rfl) ?_ | refine AWP.regionK (fun K' hK => ?_) | (refine AOps.nil (hK _ _ ?_); clear hK K'))
        exact ⟨k + 1, hlt, by omega, ⟨rfl, rfl, rfl, rfl, rfl, rfl, rfl, rfl, True.intro⟩, by show _ = MB _ (pairsM a b (np (x.pairs.take (k + 1))) []); rw [hst]; rfl⟩
      · obtain rfl : k = x.pairs.length := by omega
        rw [List.take_length]
        repeat' (first | refine AOps.q rfl rfl rfl (fun hg => by first | exact std0 | exact std1) (by exact rfl) ?_ | refine AWP.seq ?_ | refine AWP.regionK (fun K' hK => ?_) | (refine AOps.nil (hK _ _ ?_); clear hK K') | refine AOps.e (EStep.storeW tabOk rfl rfl rfl True.intro rfl rfl True.intro rfl rfl rfl rfl rfl rfl rfl ?_) | refine AOps.e (EStep.allocW tabOk rfl rfl rfl rfl rfl rfl ?_) | (refine AWP.condW rfl True.intro (fun hc => ?_) (fun hc => ?_) <;> (first | (simp only [dEt] at hc) | (simp only [dEf, iNl, iNe] at hc) | skip)) | refine AWP.block ?_ | refine AWP.exit ?_ | refine AWP.skip ?_ | refine AWP.drawK2 (by decide +kernel) (by kernel_rfl) (by decide +kernel) rfl (fun K' hK => ?_) | refine AQ.q rfl rfl (fun hg => by first | exact std0 | exact std1) (by exact rfl) ?_)
        all_goals (first | (exfalso; omega) | (exfalso; simp at hc; done) | (exfalso; simp at hc; omega) | (exfalso; simp only [dEf, dEt] at hc; omega) | (rename_i h0; exfalso; simp at h0; done) | (rename_i h0; exfalso; simp at h0; omega) | skip)
        have hM : notesM a b (np x.pairs) = outL (pairsM a b (np x.pairs) []) a.notes := rfl
        rw [hM]
        generalize pairsM a b (np x.pairs) [] = q
        clear hps hM hR hpk
        refine AWP.ownNil (d := 16) (sz := 2) rfl ?_
        refine AWP.loopD (ι := Nat) (fun k => [(10, .map 8), (16, .sl 2 ((outL q (a.notes.take k)).map encPr) (.own 10)), (88, .sl 12 (a.notes.map encN) .no), (89, .int a.notes.length), (90, .int k)]) (fun k => MB (pOf a b x al) q ++ [.own 2 ((outL q (a.notes.take k)).map encPr).length]) (fun k => k ≤ a.notes.length) (fun k => a.notes.length - k) 11 (fun _ => rfl) 0 (Nat.zero_le _) ⟨rfl, rfl, rfl, rfl, rfl, True.intro⟩ rfl (fun _ _ => rfl) (fun k _ => by rw [okOwn1]; exact MB_ok (pOf_ok a b x al) (by decide) _) ?_
        intro k hk
        have hlo := outL_len q (a.notes.take k)
        rw [List.length_take] at hlo
        by_cases hlt : k < a.notes.length
        · obtain ⟨n, hn⟩ : ∃ n, a.notes.getD k default = n := ⟨_, rfl⟩
          cases hl : lk q n.id with
          | none =>
            have ho := outL_no hlt hn hl
            repeat' (first | refine AOps.q rfl rfl rfl (fun hg => by first | exact PRun.eq (v := .tup [.int ((lk q n.id).getD 0), .b (lk q n.id).isSome]) (PRun.lookup (ok := true) (ek := ekI) (ev := AV.int) (al := q) (key := n.id) (zv := 0) (keyLaw_int (LOk.of (tabOk.get rfl))) (LOk.of (tabOk.get rfl)) (LOk.of (tabOk.get rfl)) rfl rfl (Rd.w rfl nd) (Or.inr ⟨_, rfl, rfl⟩) (Rd.w rfl nd) rfl) (show AV.tup [.int ((lk q n.id).getD 0), .b (lk q n.id).isSome] = AV.tup [.int 0, .b false] by rw [hl]; rfl) | exact PRun.eq (v := .iptr (encN (a.notes.getD ((k : Nat) : Int).toNat default))) (PRun.indexMW tabOk rfl rfl nd rfl nd rfl rfl (by omega)) (congrArg (fun x => AV.iptr (encN x)) hn) | exact std0) (by exact rfl) ?_ | refine AWP.seq ?_ | refine AWP.regionK (fun K' hK => ?_) | (refine AOps.nil (hK _ _ ?_); clear hK K') | refine AOps.e (EStep.storeW tabOk rfl rfl rfl True.intro rfl rfl True.intro rfl rfl rfl rfl rfl rfl rfl ?_) | refine AOps.e (EStep.allocW tabOk rfl rfl rfl rfl rfl rfl ?_) | (refine AWP.condW rfl True.intro (fun hc => ?_) (fun hc => ?_) <;> (first | (simp only [dEt] at hc) | (simp only [dEf, iNl, iNe] at hc) | skip)) | refine AWP.block ?_ | refine AWP.exit ?_ | refine AWP.skip ?_ | refine AWP.ret ?_)
            all_goals (first | (exfalso; omega) | (exfalso; simp at hc; done) | (exfalso; simp at hc; omega) | (exfalso; simp only [dEf, dEt] at hc; omega) | (rename_i h0; exfalso; simp at h0; done) | (rename_i h0; exfalso; simp at h0; omega) | skip)
            exact ⟨k + 1, hlt, by omega, ⟨rfl, by rw [ho]; rfl, rfl, rfl, rfl, True.intro⟩, by show _ = _ ++ [AObj.own 2 ((outL q (a.notes.take (k + 1))).map encPr).length]; rw [ho]; rfl⟩
          | some w =>
            have ho := outL_yes hlt hn hl
            have hom2 : (List.map encPr (outL q (a.notes.take k)) ++ [[AV.int n.id, AV.int w]]).length = (List.map encPr (outL q (a.notes.take k))).length + 1 := by rw [List.length_append]; rfl
            have hom : ((outL q (a.notes.take k)) ++ [(n.id, w)]).map encPr = (outL q (a.notes.take k)).map encPr ++ [[AV.int n.id, AV.int w]] := by rw [List.map_append]; rfl
            repeat' (first | refine AOps.q rfl rfl rfl (fun hg => by first | exact PRun.eq (v := .tup [.int ((lk q n.id).getD 0), .b (lk q n.id).isSome]) (PRun.lookup (ok := true) (ek := ekI) (ev := AV.int) (al := q) (key := n.id) (zv := 0) (keyLaw_int (LOk.of (tabOk.get rfl))) (LOk.of (tabOk.get rfl)) (LOk.of (tabOk.get rfl)) rfl rfl (Rd.w rfl nd) (Or.inr ⟨_, rfl, rfl⟩) (Rd.w rfl nd) rfl) (show AV.tup [.int ((lk q n.id).getD 0), .b (lk q n.id).isSome] = AV.tup [.int w, .b true] by rw [hl]; rfl) | exact PRun.eq (v := .iptr (encN (a.notes.getD ((k : Nat) : Int).toNat default))) (PRun.indexMW tabOk rfl rfl nd rfl nd rfl rfl (by omega)) (congrArg (fun x => AV.iptr (encN x)) hn) | exact std0 | exact PRun.buildW tabOk rfl rfl nds | exact PRun.buildSlW tabOk rfl rfl nds) (by exact rfl) ?_ | refine AWP.seq ?_ | refine AWP.regionK (fun K' hK => ?_) | (refine AOps.nil (hK _ _ ?_); clear hK K') | refine AOps.e (EStep.storeW tabOk rfl rfl rfl True.intro rfl rfl True.intro rfl rfl rfl rfl rfl rfl rfl ?_) | refine AOps.e (EStep.allocW tabOk rfl rfl rfl rfl rfl rfl ?_) | refine AOps.e (EStep.appendOwn tabOk rfl rfl rfl (by decide) (Rd.w rfl True.intro) rfl (Rd.w rfl True.intro) (.sl rfl (by first | (intro x hx; rcases List.mem_singleton.1 hx with rfl; rfl) | exact one_by8 _ | exact one_ints _)) (LOk.of (tabOk.get rfl)) (LOk.of (tabOk.get rfl)) rfl rfl (by simp only [List.length_map, List.length_append, List.length_cons, List.length_nil]; omega) (by simp only [List.length_map, List.length_append, List.length_cons, List.length_nil]; omega) ?_) | (refine AWP.condW rfl True.intro (fun hc => ?_) (fun hc => ?_) <;> (first | (simp only [dEt] at hc) | (simp only [dEf, iNl, iNe] at hc) | skip)) | refine AWP.block ?_ | refine AWP.exit ?_ | refine AWP.skip ?_ | refine AWP.ret ?_)
            all_goals (first | (exfalso; omega) | (exfalso; simp at hc; done) | (exfalso; simp at hc; omega) | (exfalso; simp only [dEf, dEt] at hc; omega) | (rename_i h0; exfalso; simp at h0; done) | (rename_i h0; exfalso; simp at h0; omega) | skip)
            exact ⟨k + 1, hlt, by omega, ⟨rfl, by rw [ho, hom]; rfl, rfl, rfl, rfl, True.intro⟩, by show _ = _ ++ [AObj.own 2 ((outL q (a.notes.take (k + 1))).map encPr).length]; rw [ho, hom, hom2]; rfl⟩
        · obtain rfl : k = a.notes.length := by omega
          rw [List.take_length]
          repeat' (first | refine AOps.q rfl rfl rfl (fun hg => by first | exact std0 | exact std1) (by exact rfl) ?_ | refine AWP.seq ?_ | refine AWP.regionK (fun K' hK => ?_) | (refine AOps.nil (hK _ _ ?_); clear hK K') | refine AOps.e (EStep.storeW tabOk rfl rfl rfl True.intro rfl rfl True.intro rfl rfl rfl rfl rfl rfl rfl ?_) | refine AOps.e (EStep.allocW tabOk rfl rfl rfl rfl rfl rfl ?_) | (refine AWP.condW rfl True.intro (fun hc => ?_) (fun hc => ?_) <;> (first | (simp only [dEt] at hc) | (simp only [dEf, iNl, iNe] at hc) | skip)) | refine AWP.block ?_ | refine AWP.exit ?_ | refine AWP.skip ?_ | refine AWP.ret ?_)
          all_goals (first | (exfalso; omega) | (exfalso; simp at hc; done) | (exfalso; simp at hc; omega) | (exfalso; simp only [dEf, dEt] at hc; omega) | (rename_i h0; exfalso; simp at h0; done) | (rename_i h0; exfalso; simp at h0; omega) | skip)
          exact ⟨.inr rfl, Ent.of rfl⟩
  · rename_i hok
    obtain ⟨rfl, rfl⟩ := hr
    repeat' (first | refine AOps.q rfl rfl rfl (fun hg => by first | exact std0 | exact (Bool.noConfusion (show false = true from hg) : PRun _ _ _ _ (.b false))) (by exact rfl) ?_ | refine AWP.seq ?_ | refine AWP.regionK (fun K' hK => ?_) | (refine AOps.nil (hK _ _ ?_); clear hK K') | (refine AWP.condW rfl True.intro (fun hc => ?_) (fun hc => ?_) <;> (first | (simp only [dEt] at hc) | (simp only [dEf, iNl, iNe] at hc) | skip)) | refine AWP.skip ?_ | refine AWP.ret ?_)
    all_goals (first | (exfalso; omega) | (exfalso; simp at hc; done) | (exfalso; simp at hc; omega) | (exfalso; simp only [dEf, dEt] at hc; omega) | (rename_i h0; exfalso; simp at h0; done) | (rename_i h0; exfalso; simp at h0; omega) | skip)
    have hR : notesR a b x = ([], 1) := by
      unfold notesR
      rw [if_neg (fun h => hok (by simp only [Bool.and_eq_true] at h ⊢; exact ⟨h.1, h.2.1⟩))]
    rw [hR]
    exact ⟨.inr rfl, Ent.tup2 Ent.nil (Ent.rfl' _)⟩
end Go.Proofs.YtekfpcgagoidcaaGreatDoor.Al


namespace Go.Proofs.YtekfpcgagoidcaaGreatDoor.Al
open Go.Ab Go.Sort
attribute [local irreducible] AWP AOps EStep AQ PStep PRun PCall TCall VCall
theorem long12_spec (a b : Score) (ha : a.Small) (hb : b.Small) : PCall Tryz.prog 51 [.agg (encS a), .agg (encS b)] (.b (decide (a.bars.length > 200 ∨ b.bars.length > 200))) := by
  have ha1 := ha.1
  have hb1 := hb.1
  refine PCall.body Tryz.func51 rfl rfl Tryz.ntmps51 rfl rfl ?_
  repeat' (first | refine AOps.q rfl rfl rfl (fun hg => by first | exact std0 | exact std1) (by exact rfl) ?_ | refine AWP.seq ?_ | refine AWP.regionK (fun K' hK => ?_) | (refine AOps.nil (hK _ _ ?_); clear hK K') | refine AOps.e (EStep.boxW rfl rfl rfl rfl rfl True.intro rfl rfl ?_) | refine AWP.ret ?_)
  refine ⟨.inr rfl, Ent.b ?_⟩
  rw [Bool.decide_or, decide_eq_decide.2 (show (a.bars.length : Int) > 200 ↔ a.bars.length > 200 by omega), decide_eq_decide.2 (show (b.bars.length : Int) > 200 ↔ b.bars.length > 200 by omega)]
def few12 (s : Score) : Bool := decide ((s.bars.length : Int) ≤ 12) && decide ((s.parts.length : Int) ≤ 70) && decide ((s.notes.length : Int) ≤ 60)
theorem few12_small {s : Score} (h : few12 s = true) : s.Small := by
  unfold few12 at h
  simp only [Bool.and_eq_true, dEt] at h
  exact ⟨by omega, by omega, by omega⟩
theorem few12_spec (s : Score) (hs : s.Sized) : PCall Tryz.prog 42 [.agg (encS s)] (.b (few12 s)) := by
  obtain ⟨h1, h2, h3⟩ := hs
  refine PCall.body Tryz.func42 rfl rfl Tryz.ntmps42 rfl rfl ?_
  repeat' (first | refine AOps.q rfl rfl rfl (fun hg => by first | exact std0 | exact std1) (by exact rfl) ?_ | refine AWP.seq ?_ | refine AWP.regionK (fun K' hK => ?_) | (refine AOps.nil (hK _ _ ?_); clear hK K') | refine AOps.e (EStep.boxW rfl rfl rfl rfl rfl True.intro rfl rfl ?_) | refine AWP.ret ?_)
  exact ⟨.inr rfl, Ent.b rfl⟩
theorem few2_spec (a b : Score) (ha : a.Sized) (hb : b.Sized) : PCall Tryz.prog 16 [.agg (encS a), .agg (encS b)] (.b (few12 a && few12 b)) := by
  have h1 := few12_spec a ha
  have h2 := few12_spec b hb
  refine PCall.body Tryz.func16 rfl rfl Tryz.ntmps16 rfl rfl ?_
  repeat' (first | refine AOps.q rfl rfl rfl (fun hg => by first | exact std0 | exact PRun.callW (h1) rfl rfl nd rfl nds | exact PRun.callW (h2) rfl rfl nd rfl nds) (by exact rfl) ?_ | refine AWP.seq ?_ | refine AWP.regionK (fun K' hK => ?_) | (refine AOps.nil (hK _ _ ?_); clear hK K') | refine AOps.e (EStep.boxW rfl rfl rfl rfl rfl True.intro rfl rfl ?_) | refine AWP.ret ?_)
  exact ⟨.inr rfl, Ent.b rfl⟩
def usab (a b : Score) : Bool := few12 a && few12 b && scoreOk a && scoreOk b
theorem usable12_spec (a b : Score) (ha : a.Sized) (hb : b.Sized) : PCall Tryz.prog 27 [.agg (encS a), .agg (encS b)] (.b (usab a b)) := by
  have h1 := few2_spec a b ha hb
  cases hf : few12 a && few12 b with
  | false =>
    rw [hf] at h1
    refine PCall.body Tryz.func27 rfl rfl Tryz.ntmps27 rfl rfl ?_
    repeat' (first | refine AOps.q rfl rfl rfl (fun hg => by first | exact std0 | exact PRun.callW (h1) rfl rfl nd rfl nds | exact (Bool.noConfusion (show false = true from hg) : PRun _ _ _ _ (.b false))) (by exact rfl) ?_ | refine AWP.seq ?_ | refine AWP.regionK (fun K' hK => ?_) | (refine AOps.nil (hK _ _ ?_); clear hK K') | refine AOps.e (EStep.boxW rfl rfl rfl rfl rfl True.intro rfl rfl ?_) | refine AWP.ret ?_)
    refine ⟨.inr rfl, Ent.b ?_⟩
    unfold usab; rw [hf]; rfl
  | true =>
    rw [hf] at h1
    have hs : few12 a = true ∧ few12 b = true := by simpa using hf
    have h2 := valid8_spec a (few12_small hs.1)
    have h3 := valid8_spec b (few12_small hs.2)
    refine PCall.body Tryz.func27 rfl rfl Tryz.ntmps27 rfl rfl ?_
    repeat' (first | refine AOps.q rfl rfl rfl (fun hg => by first | exact std0 | exact PRun.callW (h1) rfl rfl nd rfl nds | exact PRun.callW (h2) rfl rfl nd rfl nds | exact PRun.callW (h3) rfl rfl nd rfl nds) (by exact rfl) ?_ | refine AWP.seq ?_ | refine AWP.regionK (fun K' hK => ?_) | (refine AOps.nil (hK _ _ ?_); clear hK K') | refine AOps.e (EStep.boxW rfl rfl rfl rfl rfl True.intro rfl rfl ?_) | refine AWP.ret ?_)
    refine ⟨.inr rfl, Ent.b ?_⟩
    unfold usab; rw [hf]
theorem flPr : flatN Tryz.prog 48 = some [.int .i64, .int .i64] := by kernel_rfl
def eqPr (x y : Int × Int) : Bool := x.1 == y.1 && (x.2 == y.2 && true)
theorem eqPr_eq (x y : Int × Int) : eqPr x y = (x == y) := by
  unfold eqPr
  rw [Bool.and_true]; rfl
theorem samePairs_spec (a b : PL) (ha : a.length ≤ 9223372036854775807) (hb : b.length ≤ 9223372036854775807) : PCall Tryz.prog 26 [.sl 2 (a.map encPr) .no, .sl 2 (b.map encPr) .no] (.b (a == b)) := by
  refine PCall.body Tryz.func26 rfl rfl Tryz.ntmps26 rfl rfl ?_
  repeat' (first | refine AOps.q rfl rfl rfl (fun hg => by first | exact std0 | exact std1) (by exact rfl) ?_ | refine AWP.seq ?_ | refine AWP.regionK (fun K' hK => ?_) | (refine AOps.nil (hK _ _ ?_); clear hK K') | (refine AWP.condW rfl True.intro (fun hc => ?_) (fun hc => ?_) <;> (first | (simp only [dEt] at hc) | (simp only [dEf, iNl, iNe] at hc) | skip)) | refine AWP.block ?_ | refine AWP.skip ?_ | refine AWP.ret ?_)
  · refine ⟨.inr rfl, Ent.b (list_ne_len ?_).symm⟩
    simp only [Int.toNat_natCast, Bool.or_eq_true, Bool.and_eq_true, Bool.or_eq_false_iff, Bool.and_eq_false_iff, dEt, dEf, Bool.not_eq_true', Bool.not_eq_false', beq_iff_eq, beq_eq_false_iff_ne, bne_iff_ne, bne_eq_false_iff_eq, gt_iff_lt, ge_iff_le, ne_eq] at hc; omega
  have hlen : a.length = b.length := by simp only [Int.toNat_natCast, Bool.or_eq_true, Bool.and_eq_true, Bool.or_eq_false_iff, Bool.and_eq_false_iff, dEt, dEf, Bool.not_eq_true', Bool.not_eq_false', beq_iff_eq, beq_eq_false_iff_ne, bne_iff_ne, bne_eq_false_iff_eq, gt_iff_lt, ge_iff_le, ne_eq] at hc; omega
  refine AWP.loopW (ι := Nat) (fun k => [(0, .sl 2 (a.map encPr) .no), (1, .sl 2 (b.map encPr) .no), (5, .int k)]) (fun _ => []) (fun k => k ≤ a.length ∧ ∀ j, j < k → a.getD j default = b.getD j default) (fun k => a.length - k) 0 ⟨Nat.zero_le _, fun j h => absurd h (by omega)⟩ ⟨rfl, rfl, rfl, True.intro⟩ rfl ?_
  rintro k ⟨hk, hall⟩
  by_cases hlt : k < a.length
  · repeat' (first | refine AOps.q rfl rfl rfl (fun hg => by first | exact std0 | exact std1) (by exact rfl) ?_ | refine AWP.seq ?_ | refine AWP.regionK (fun K' hK => ?_) | (refine AOps.nil (hK _ _ ?_); clear hK K') | (refine AWP.condW rfl True.intro (fun hc => ?_) (fun hc => ?_) <;> (first | (simp only [dEt] at hc) | (simp only [dEf, iNl, iNe] at hc) | skip)) | refine AWP.block ?_ | refine AWP.exit ?_ | refine AWP.skip ?_ | refine AWP.ret ?_ | refine AWP.drawK2 (by decide +kernel) (by kernel_rfl) (by decide +kernel) rfl (fun K' hK => ?_) | (refine AQ.nil (hK _ ?_); clear hK K') | refine AQ.q rfl rfl (fun hg => by first | exact std0 | exact PRun.neN flPr rfl rfl nd rfl nd rfl | exact std1) (by exact rfl) ?_)
    · refine ⟨.inr rfl, Ent.b (list_ne_at (k := k) ?_).symm⟩
      have h1 : (!(eqPr (a.getD k default) (b.getD k default))) = true := hc
      rw [eqPr_eq] at h1
      simpa using h1
    · refine ⟨k + 1, ⟨by omega, fun j hj => lt_succ_cases hall ?_ hj⟩, by omega, ⟨rfl, rfl, rfl, True.intro⟩, rfl⟩
      have h1 : (!(eqPr (a.getD k default) (b.getD k default))) = false := hc
      rw [eqPr_eq] at h1
      simpa using h1
    · exfalso; omega
  · repeat' (first | refine AOps.q rfl rfl rfl (fun hg => by first | exact std0 | exact std1) (by exact rfl) ?_ | refine AWP.seq ?_ | refine AWP.regionK (fun K' hK => ?_) | (refine AOps.nil (hK _ _ ?_); clear hK K') | (refine AWP.condW rfl True.intro (fun hc => ?_) (fun hc => ?_) <;> (first | (simp only [dEt] at hc) | (simp only [dEf, iNl, iNe] at hc) | skip)) | refine AWP.block ?_ | refine AWP.exit ?_ | refine AWP.skip ?_ | refine AWP.ret ?_ | refine AWP.drawK2 (by decide +kernel) (by kernel_rfl) (by decide +kernel) rfl (fun K' hK => ?_) | refine AQ.q rfl rfl (fun hg => by first | exact std0 | exact std1) (by exact rfl) ?_)
    all_goals (first | (exfalso; omega) | skip)
    exact ⟨.inr rfl, Ent.b (list_eq_all hlen fun j hj => hall j (by omega)).symm⟩
end Go.Proofs.YtekfpcgagoidcaaGreatDoor.Al

