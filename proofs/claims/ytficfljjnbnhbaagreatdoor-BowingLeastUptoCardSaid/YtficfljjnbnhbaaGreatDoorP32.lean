/- Contracts by content: bowing.Clashes.  The laws of bowing: what they share. No statement is proved here. -/
import Derived.Test.YtficfljjnbnhbaaGreatDoorP31
set_option linter.unusedVariables false
set_option linter.unusedSimpArgs false
namespace Go.Proofs.YtficfljjnbnhbaaGreatDoor.Bw
open Go.Ab Go.Sort Mk
attribute [local irreducible] AWP AOps EStep AQ PStep PRun PCall TCall VCall DStep TDies AWD DCall
set_option maxHeartbeats 64000000 in
set_option maxRecDepth 20000 in
theorem clashes_spec {s : Score} {l : List Jo.Mark} {sec : Int} {ex : List Int} (h20 : In20 s l sec ex) :
 PCall Tryz.prog 12 [.agg (encS s), .sl 10 (l.map encMk) .no, .int sec, .sl 1 (ex.map eI) .no] (tupC (clashesR s l sec ex)) := by
 obtain ⟨hs, hp, hn, hb, hl, ht, hex, hbl⟩ := h20
 have f1 := svalid_spec s hs
 have f2 := bMarks_spec l (by omega) ht
 have f3 := bwithin_spec sec 0 99
 have f4 := hasI0_spec 31 (fun n => !Jo.isId n) ex (by omega) (fun n _ => bc1_spec n)
 rw [findI_any'] at f4
 by_cases hf : formB s l sec ex = true
 · replace hbl := hbl hf
   have hf2 := hf
   unfold formB exOk at hf2
   simp only [zA0, zAm, dEf] at hf2
   obtain ⟨⟨⟨hok, hmk⟩, hsec, hxl⟩, hxo⟩ := hf2
   rw [hok] at f1
   rw [hmk] at f2
   rw [hsec] at f3
   rw [hxo] at f4
   have f5 := bows_spec s hs hp hn hok l hl ht hmk sec ex hex
   have hR : clashesR s l sec ex = (clashL (keyT s.bars) (bowsL s l sec ex), 0) := if_pos hf
   rw [hR, ← outK_all]
   have hkk : ∀ b ∈ bowsL s l sec ex, PCall Tryz.prog 38 [.agg (encW s l sec), .agg (encN b.note)] (.agg (encK (keyT s.bars b.note))) := fun b hbm => key_spec s hb l sec b.note (dur_bow hok hbm).1 (dur_bow hok hbm).2
   clear hR hf
   generalize bowsL s l sec ex = bs at *
   generalize keyT s.bars = key at *
   obtain ⟨N, hN⟩ : ∃ N, bs.length + 1 = N := ⟨_, rfl⟩
   refine PCall.bodyS tabOk Tryz.func12 rfl rfl Tryz.ntmps12 rfl ?_
   repeat' (first | refine aoQ rfl rfl rfl (fun hg => by first | exact std0 | exact pcW (f1) rfl rfl nd rfl nds | exact pcW (f2) rfl rfl nd rfl nds | exact pcW (f3) rfl rfl nd rfl nds | exact pcW (f4) rfl rfl nd rfl nds | exact pbD tabOk rfl rfl nds | exact pcW (f5) rfl rfl nd rfl nds | exact std1) (by exact rfl) ?_ | refine sqW ?_ | refine rgK (fun K' hK => ?_) | (refine aoN (hK _ _ ?_); clear hK K') | refine aoE (bxW rfl rfl rfl rfl rfl tI rfl rfl ?_) | refine aoE (stW tabOk rfl rfl rfl tI rfl rfl tI rfl rfl rfl rfl rfl rfl rfl ?_) | refine aoE (alW tabOk rfl rfl rfl rfl rfl rfl ?_) | refine aoE (EStep.makeMapW rfl rfl rfl rfl ?_) | refine cdN rfl tI (fun hc => ?_) (fun hc => ?_) | refine blK ?_ | refine skW ?_ | refine rtW ?_)
   all_goals (first | exact dd | skip)
   clear f1 f2 f3 f4 f5
   refine AWP.arrNil 3 (d := 13) rfl ?_
   refine AWP.newArr 16 (AWP.newArr 3 (AWP.newArr 3 (AWP.newOwn 3 (AWP.newOwns 1 N (AWP.newOwns 1 N (AWP.newOwns 3 N ?_))))))
   refine lpD (ι := Nat × List (List AV) × List (List AV) × List (List AV))
    (fun i => [(11, .ptr 1 0), (12, .map 2), (13, kS (keysO (grpsL key (bs.take i.1))).length), (53, .sl 16 (bs.map encBow) .no), (54, .int bs.length), (55, .int i.1)])
    (fun i => preC s l sec N (grpsL key (bs.take i.1)) (keysO (grpsL key (bs.take i.1))) i.1 i.2.1 i.2.2.1 i.2.2.2 ++ famK N (lenB (grpsL key (bs.take i.1))))
    (fun i => i.1 ≤ bs.length ∧ okObj (8 + (N + (N + N))) (.arr 16 i.1 i.2.1) = true ∧ okObj (8 + (N + (N + N))) (.arr 3 i.1 i.2.2.1) = true ∧ okObj (8 + (N + (N + N))) (.arr 3 i.1 i.2.2.2) = true)
    (fun i => bs.length - i.1) (8 + (N + (N + N))) (fun i => by rw [lLa, famK_len]; rfl) (0, [], [], []) ⟨nZl _, rfl, rfl, rfl⟩ ⟨rfl, rfl, rfl, rfl, rfl, rfl, tI⟩
    (by rw [List.take_zero]; show _ = preC s l sec N [] [] 0 [] [] [] ++ famK N (lenB []); rw [famK_0, ← zAt, ← zAt]; rfl)
    (fun i _ => by
     show (decide (1 < 8 + (N + (N + N))) && (decide (2 < 8 + (N + (N + N))) && (okRef (8 + (N + (N + N))) 4 (kS _) && true))) = true
     rw [decide_eq_true (by omega), decide_eq_true (by omega), kS_ok (by omega)]; rfl)
    (fun i ⟨h0, h1, h2, h3⟩ => by
     rw [zCi, famK_ok, zBm]
     unfold preC
     simp only [zBu, zC8, h1, h2, h3, okArrK, okMapC (N := N) (GOk.lt (grps_ok key bs i.1 h0) (N := N) (by rw [zAc]; omega)) (show 8 + N + N + N ≤ 8 + (N + (N + N)) by omega), zBm]
     rfl) ?_
   rintro ⟨k, c1, c2, c3⟩ ⟨hk, o1, o2, o3⟩
   dsimp only at hk o1 o2 o3 ⊢
   by_cases hlt : k < bs.length
   · obtain ⟨b, hbb⟩ : ∃ b, bs.getD k default = b := ⟨_, rfl⟩
     have kk := hkk b (by rw [← hbb]; exact getD_mem hlt)
     have hG := grps_ok key bs k (by omega)
     have htl : (bs.take k).length = k := by rw [zAc]; omega
     obtain ⟨g, j, t, old, G', g1, g2, g3, g4, g5, g6, g7, g8, g9⟩ := round_any hG b N (by omega)
     have hsn : grpsL key (bs.take (k + 1)) = G' := by rw [takeS' hlt, hbb, grps_snoc]; exact g1
     have hKl : (keysO (grpsL key (bs.take k))).length ≤ k := by rw [keysO_len]; have := hG.len; omega
     have hgl : g.length ≤ 20000 := by omega
     clear hG g1 hkk
     generalize grpsL key (bs.take k) = G at *
     generalize key b.note = kb at *
     repeat' (first | refine aoQ rfl rfl rfl (fun hg => by exact std0) (by exact rfl) ?_ | refine sqW ?_ | refine rgK (fun K' hK => ?_) | (refine aoN (hK _ _ ?_); clear hK K'))
     refine cdW rfl tI (fun hc => ?_) (fun hc => ?_)
     rotate_left
     · exfalso
       have := of_decide_eq_false hc
       omega
     clear hc
     repeat' (first | refine aoE (EStep.allocArrV (l := 6) (cs := [.nils, .nils, .nils]) tabOk rfl rfl rfl rfl rfl rfl rfl rfl ?_) | refine aoE (EStep.allocArrV (l := 5) (cs := [.int 0, .int 0, .int 0]) tabOk rfl rfl rfl rfl rfl rfl rfl rfl ?_) | refine aoE (EStep.allocArrV (l := 4) tabOk rfl rfl rfl rfl rfl rfl rfl rfl ?_) | refine aoQ rfl rfl rfl (fun hg => by first | exact iX encBow bs ((k : Nat) : Int) hbb (hb := by omega) | exact std0 | exact pcW (kk) rfl rfl nd rfl nds | exact PRun.fieldE tabOk rfl rfl nd rfl rfl | exact PRun.loadE tabOk rfl rfl nd rfl (zB6 _) rfl rfl rfl | exact PRun.ent (PRun.lookup (ok := true) (ek := ekT) (ev := evC N) (al := mapO G) (key := kb) (zv := none) keyLaw3 (LOk.of (tabOk.get rfl)) (LOk.of (tabOk.get rfl)) rfl rfl (Rd.w rfl nd) (Or.inr ⟨_, rfl, rfl⟩) (Rd.w rfl nd) rfl) g2) (by exact rfl) ?_ | refine sqW ?_ | refine rgK (fun K' hK => ?_) | (refine aoN (hK _ _ ?_); clear hK K') | refine aoE (EStep.storeE (l := 4) tabOk rfl rfl rfl tI rfl (zB6 _) rfl tI rfl rfl rfl rfl rfl rfl ?_) | refine aoE (EStep.storeE (l := 5) tabOk rfl rfl rfl tI rfl (zB6 _) rfl tI rfl rfl rfl rfl rfl rfl ?_) | refine aoE (EStep.storeE (l := 6) tabOk rfl rfl rfl tI rfl (zB6 _) rfl tI rfl rfl rfl rfl rfl rfl ?_) | refine blK ?_ | refine skW ?_)
     refine AWP.mid [(11, .ptr 1 0), (12, .map 2), (13, kS (keysO G').length), (15, .eptr 4 16 0 0 (k + 1)), (16, .eptr 5 3 0 0 (k + 1)), (17, .eptr 6 3 0 0 (k + 1)), (53, .sl 16 (bs.map encBow) .no), (54, .int bs.length), (55, .int k)] (preC s l sec N G (keysO G') (k + 1) [encBow b] [encK kb] [cE N j t g] ++ famK N (lenB G)) ?_ ?_
     · cases old
       · rw [if_neg (by decide)] at g4
         rw [g4]
         generalize keysO G = K at *
         have e5 : (K ++ [kb]).length = K.length + 1 := by simp
         refine cdW rfl tI (fun hc => ?_) (fun hc => ?_)
         · clear hc
           rcases zBk K.length with h0 | h0
           · obtain rfl : K = [] := zB0 h0
             rw [show kS ([] : List K3).length = .sl 3 [] (.own 3) from rfl]
             repeat' (first | refine aoQ rfl rfl rfl (fun hg => by first | exact std0 | exact PRun.loadE tabOk rfl rfl nd rfl (zB6 _) rfl rfl rfl | exact pbS tabOk rfl rfl nds) (by exact rfl) ?_ | refine rgK (fun K' hK => ?_) | (refine aoN (hK _ _ ?_); clear hK K') | refine aoE (EStep.appendArr' (l := 3) (m := 1) (es3 := [encK kb]) tabOk rfl rfl rfl (by decide) (Rd.w rfl tI) (.inr ⟨rfl, rfl, rfl⟩) rfl (Rd.w rfl tI) (.sl rfl (by intro x hx; rcases zAl.1 hx with rfl; rfl)) (zB6 _) (LOk.of (tabOk.get rfl)) (LOk.of (tabOk.get rfl)) rfl rfl (by simp only [zA5, zAb]; omega) (by simp only [zA5, zAb]; omega) rfl rfl ?_))
             exact ⟨⟨rfl, rfl, rfl, rfl, rfl, rfl, rfl, rfl, rfl, tI⟩, rfl⟩
           · have e6 : kS K.length = .sla 3 3 0 K.length K.length := by
              cases K with
              | nil => exact absurd h0 (by decide)
              | cons a r => rfl
             rw [e6]
             have e7 : (K.map encK).length = K.length := lLm ..
             have e8 : K.map encK ++ [encK kb] = (K ++ [kb]).map encK := by rw [zAe]; rfl
             repeat' (first | refine aoQ rfl rfl rfl (fun hg => by first | exact std0 | exact PRun.loadE tabOk rfl rfl nd rfl (zB6 _) rfl rfl rfl | exact pbS tabOk rfl rfl nds) (by exact rfl) ?_ | refine rgK (fun K' hK => ?_) | (refine aoN (hK _ _ ?_); clear hK K') | refine aoE (EStep.appendArr' (l := 3) (m := K.length + 1) (es3 := (K ++ [kb]).map encK) tabOk rfl rfl rfl (by decide) (Rd.w rfl tI) (.inl ⟨by rw [e7], by intro h; rw [h] at e7; exact absurd e7 (by simp only [zAb]; omega)⟩) rfl (Rd.w rfl tI) (.sl rfl (by intro x hx; rcases zAl.1 hx with rfl; rfl)) (zB6 _) (LOk.of (tabOk.get rfl)) (LOk.of (tabOk.get rfl)) rfl rfl (by rw [e7]; simp only [zA5, zAb]; omega) (by rw [e7]; simp only [zA5, zAb]; omega) (by rw [e7]; rfl) e8 ?_))
             refine ⟨⟨rfl, rfl, ?_, rfl, rfl, rfl, rfl, rfl, rfl, tI⟩, ?_⟩
             · rw [e5]; rfl
             · unfold preC; rw [e5]; rfl
         · exfalso; simp at hc
       · rw [if_pos rfl] at g4
         rw [g4]
         refine cdW rfl tI (fun hc => ?_) (fun hc => ?_)
         · exfalso; simp at hc
         · clear hc
           repeat' (first | refine skW ?_)
           exact ⟨⟨rfl, rfl, rfl, rfl, rfl, rfl, rfl, rfl, rfl, tI⟩, rfl⟩
     · have htk : ∀ l, t l = .own l ∨ g = [] ∧ t l = .fresh := g3
       have hnE : ∀ l, t l = .own l ∨ nE g = [] ∧ t l = .fresh := fun l => (g3 l).imp id fun h => ⟨by rw [h.1]; rfl, h.2⟩
       have hvE : ∀ l, t l = .own l ∨ vE g = [] ∧ t l = .fresh := fun l => (g3 l).imp id fun h => ⟨by rw [h.1]; rfl, h.2⟩
       have hrE : ∀ l, t l = .own l ∨ rE g = [] ∧ t l = .fresh := fun l => (g3 l).imp id fun h => ⟨by rw [h.1]; rfl, h.2⟩
       have n1 := nE_len0 g
       have n2 := vE_len0 g
       have n3 := rE_len0 g
       clear g2 g3 g4 htk kk
       generalize lenB G = f at *
       refine sqW ?_
       refine AWP.drawV 4 cls14 (fun J => preC s l sec N G (keysO G') (k + 1) [encBow b] [encK kb] [cJ N j t g (g ++ [b]) (J 4)] ++ famV N f (fun i => if i = j then g.length + 1 else f i) (J 1) (J 2) (J 3)) rfl (by kernel_rfl) (by decide +kernel) rfl (by decide +kernel) (fun K' hK => ?_)
       repeat' (first | refine VQ.q rfl (by decide +kernel) rfl rfl (fun J' hg => by first | exact PRun.fieldE tabOk rfl rfl nd rfl rfl | exact PRun.loadE tabOk rfl rfl nd rfl (zB6 _) rfl rfl rfl | exact pbS tabOk rfl rfl nds) (by exact rfl) ?_ | refine VQ.qr 4 0 rfl (by decide +kernel) (by decide +kernel) rfl rfl (fun J' hJ hg => by rw [Nat.le_zero.1 hJ]; first | exact std0 | exact PRun.fieldE tabOk rfl rfl nd rfl rfl | exact PRun.loadE tabOk rfl rfl nd rfl (zB6 _) rfl rfl rfl | exact pbS tabOk rfl rfl nds | exact std1) (by exact rfl) ?_)
       refine VQ.e 1 0 (v := .sl 1 (nE (g ++ [b])) (.own (8 + j))) (d := some 81) rfl (by decide +kernel) rfl ?_ ?_
       · intro env' he J' hJ
         show EStep _ _ _ _ (fun e st => _ ∧ st = preC s l sec N G (keysO G') (k + 1) [encBow b] [encK kb] [cJ N j t g (g ++ [b]) (J' 4)] ++ famV N f (fun i => if i = j then g.length + 1 else f i) (J' 1 + 1) (J' 2) (J' 3)) env' (preC s l sec N G (keysO G') (k + 1) [encBow b] [encK kb] [cJ N j t g (g ++ [b]) (J' 4)] ++ famV N f (fun i => if i = j then g.length + 1 else f i) (J' 1) (J' 2) (J' 3))
         rw [hJ]
         exact EStep.appendU (l := 8 + j) (es := nE g) (es3 := nE (g ++ [b])) (m := g.length + 1) tabOk rfl rfl rfl (by decide) (hnE _) (Rd.w ((rdv_congr (he 76 (by decide +kernel))).trans rfl) (by rw [rdn_congr (he 76 (by decide +kernel))]; first | exact tI | exact rfl)) (by rw [n1, ← g7]; exact (famV_at rfl g8).1 _ _) (Rd.w ((rdv_congr (he 80 (by decide +kernel))).trans rfl) (by rw [rdn_congr (he 80 (by decide +kernel))]; first | exact tI | exact rfl)) (.sl rfl (by intro x hx; rcases zAl.1 hx with rfl; rfl)) (zB6 _) (LOk.of (tabOk.get rfl)) (LOk.of (tabOk.get rfl)) rfl rfl (by rw [n1]; simp only [zA5, zAb]; omega) (by rw [n1]; simp only [zA5, zAb]; omega) (nE_snoc0 g b) (by rw [n1]; rfl) ⟨rfl, (famV_set rfl g8).1 _ _⟩
       repeat' (first | refine VQ.q rfl (by decide +kernel) rfl rfl (fun J' hg => by first | exact PRun.fieldE tabOk rfl rfl nd rfl rfl | exact PRun.loadE tabOk rfl rfl nd rfl (zB6 _) rfl rfl rfl | exact pbS tabOk rfl rfl nds) (by exact rfl) ?_ | refine VQ.qr 4 0 rfl (by decide +kernel) (by decide +kernel) rfl rfl (fun J' hJ hg => by rw [Nat.le_zero.1 hJ]; first | exact std0 | exact PRun.fieldE tabOk rfl rfl nd rfl rfl | exact PRun.loadE tabOk rfl rfl nd rfl (zB6 _) rfl rfl rfl | exact pbS tabOk rfl rfl nds | exact std1) (by exact rfl) ?_)
       refine VQ.e 2 0 (v := .sl 3 (rE (g ++ [b])) (.own (8 + N + N + j))) (d := some 87) rfl (by decide +kernel) rfl ?_ ?_
       · intro env' he J' hJ
         show EStep _ _ _ _ (fun e st => _ ∧ st = preC s l sec N G (keysO G') (k + 1) [encBow b] [encK kb] [cJ N j t g (g ++ [b]) (J' 4)] ++ famV N f (fun i => if i = j then g.length + 1 else f i) (J' 1) (J' 2 + 1) (J' 3)) env' (preC s l sec N G (keysO G') (k + 1) [encBow b] [encK kb] [cJ N j t g (g ++ [b]) (J' 4)] ++ famV N f (fun i => if i = j then g.length + 1 else f i) (J' 1) (J' 2) (J' 3))
         rw [hJ]
         exact EStep.appendU (l := 8 + N + N + j) (es := rE g) (es3 := rE (g ++ [b])) (m := g.length + 1) tabOk rfl rfl rfl (by decide) (hrE _) (Rd.w ((rdv_congr (he 83 (by decide +kernel))).trans rfl) (by rw [rdn_congr (he 83 (by decide +kernel))]; first | exact tI | exact rfl)) (by rw [n3, ← g7]; exact (famV_at rfl g8).2.1 _ _) (Rd.w ((rdv_congr (he 86 (by decide +kernel))).trans rfl) (by rw [rdn_congr (he 86 (by decide +kernel))]; first | exact tI | exact rfl)) (.sl rfl (by intro x hx; rcases zAl.1 hx with rfl; rfl)) (zB6 _) (LOk.of (tabOk.get rfl)) (LOk.of (tabOk.get rfl)) rfl rfl (by rw [n3]; simp only [zA5, zAb]; omega) (by rw [n3]; simp only [zA5, zAb]; omega) (rE_snoc0 g b) (by rw [n3]; rfl) ⟨rfl, (famV_set rfl g8).2.1 _ _⟩
       repeat' (first | refine VQ.q rfl (by decide +kernel) rfl rfl (fun J' hg => by first | exact PRun.fieldE tabOk rfl rfl nd rfl rfl | exact PRun.loadE tabOk rfl rfl nd rfl (zB6 _) rfl rfl rfl | exact pbS tabOk rfl rfl nds) (by exact rfl) ?_ | refine VQ.qr 4 0 rfl (by decide +kernel) (by decide +kernel) rfl rfl (fun J' hJ hg => by rw [Nat.le_zero.1 hJ]; first | exact std0 | exact PRun.fieldE tabOk rfl rfl nd rfl rfl | exact PRun.loadE tabOk rfl rfl nd rfl (zB6 _) rfl rfl rfl | exact pbS tabOk rfl rfl nds | exact std1) (by exact rfl) ?_)
       refine VQ.e 3 0 (v := .sl 1 (vE (g ++ [b])) (.own (8 + N + j))) (d := some 93) rfl (by decide +kernel) rfl ?_ ?_
       · intro env' he J' hJ
         show EStep _ _ _ _ (fun e st => _ ∧ st = preC s l sec N G (keysO G') (k + 1) [encBow b] [encK kb] [cJ N j t g (g ++ [b]) (J' 4)] ++ famV N f (fun i => if i = j then g.length + 1 else f i) (J' 1) (J' 2) (J' 3 + 1)) env' (preC s l sec N G (keysO G') (k + 1) [encBow b] [encK kb] [cJ N j t g (g ++ [b]) (J' 4)] ++ famV N f (fun i => if i = j then g.length + 1 else f i) (J' 1) (J' 2) (J' 3))
         rw [hJ]
         exact EStep.appendU (l := 8 + N + j) (es := vE g) (es3 := vE (g ++ [b])) (m := g.length + 1) tabOk rfl rfl rfl (by decide) (hvE _) (Rd.w ((rdv_congr (he 89 (by decide +kernel))).trans rfl) (by rw [rdn_congr (he 89 (by decide +kernel))]; first | exact tI | exact rfl)) (by rw [n2, ← g7]; exact (famV_at rfl g8).2.2 _ _) (Rd.w ((rdv_congr (he 92 (by decide +kernel))).trans rfl) (by rw [rdn_congr (he 92 (by decide +kernel))]; first | exact tI | exact rfl)) (.sl rfl (by intro x hx; rcases zAl.1 hx with rfl; rfl)) (zB6 _) (LOk.of (tabOk.get rfl)) (LOk.of (tabOk.get rfl)) rfl rfl (by rw [n2]; simp only [zA5, zAb]; omega) (by rw [n2]; simp only [zA5, zAb]; omega) (vE_snoc0 g b) (by rw [n2]; rfl) ⟨rfl, (famV_set rfl g8).2.2 _ _⟩
       repeat' (first | refine VQ.q rfl (by decide +kernel) rfl rfl (fun J' hg => by exact PRun.fieldE tabOk rfl rfl nd rfl rfl) (by exact rfl) ?_)
       refine VQ.e 4 0 (v := .any) (d := none) rfl (by decide +kernel) rfl ?_ ?_
       · intro env' he J' hJ
         show EStep _ _ _ _ (fun e st => _ ∧ st = preC s l sec N G (keysO G') (k + 1) [encBow b] [encK kb] [cJ N j t g (g ++ [b]) (J' 4 + 1)] ++ famV N f (fun i => if i = j then g.length + 1 else f i) (J' 1) (J' 2) (J' 3)) env' (preC s l sec N G (keysO G') (k + 1) [encBow b] [encK kb] [cJ N j t g (g ++ [b]) (J' 4)] ++ famV N f (fun i => if i = j then g.length + 1 else f i) (J' 1) (J' 2) (J' 3))
         rw [hJ]
         exact EStep.storeEO (l := 6) tabOk rfl rfl ((rdv_congr (he 94 (by decide +kernel))).trans rfl) (by rw [rdn_congr (he 94 (by decide +kernel))]; first | exact tI | exact rfl) rfl (zB6 _) ((rdv_congr (he 81 (by decide +kernel))).trans rfl) (by rw [rdn_congr (he 81 (by decide +kernel))]; first | exact tI | exact rfl) rfl rfl rfl rfl (by decide) rfl ⟨rfl, rfl⟩
       repeat' (first | refine VQ.q rfl (by decide +kernel) rfl rfl (fun J' hg => by exact PRun.fieldE tabOk rfl rfl nd rfl rfl) (by exact rfl) ?_)
       refine VQ.e 4 1 (v := .any) (d := none) rfl (by decide +kernel) rfl ?_ ?_
       · intro env' he J' hJ
         show EStep _ _ _ _ (fun e st => _ ∧ st = preC s l sec N G (keysO G') (k + 1) [encBow b] [encK kb] [cJ N j t g (g ++ [b]) (J' 4 + 1)] ++ famV N f (fun i => if i = j then g.length + 1 else f i) (J' 1) (J' 2) (J' 3)) env' (preC s l sec N G (keysO G') (k + 1) [encBow b] [encK kb] [cJ N j t g (g ++ [b]) (J' 4)] ++ famV N f (fun i => if i = j then g.length + 1 else f i) (J' 1) (J' 2) (J' 3))
         rw [hJ]
         exact EStep.storeEO (l := 6) tabOk rfl rfl ((rdv_congr (he 95 (by decide +kernel))).trans rfl) (by rw [rdn_congr (he 95 (by decide +kernel))]; first | exact tI | exact rfl) rfl (zB6 _) ((rdv_congr (he 87 (by decide +kernel))).trans rfl) (by rw [rdn_congr (he 87 (by decide +kernel))]; first | exact tI | exact rfl) rfl rfl rfl rfl (by decide) rfl ⟨rfl, rfl⟩
       repeat' (first | refine VQ.q rfl (by decide +kernel) rfl rfl (fun J' hg => by exact PRun.fieldE tabOk rfl rfl nd rfl rfl) (by exact rfl) ?_)
       refine VQ.e 4 2 (v := .any) (d := none) rfl (by decide +kernel) rfl ?_ ?_
       · intro env' he J' hJ
         show EStep _ _ _ _ (fun e st => _ ∧ st = preC s l sec N G (keysO G') (k + 1) [encBow b] [encK kb] [cJ N j t g (g ++ [b]) (J' 4 + 1)] ++ famV N f (fun i => if i = j then g.length + 1 else f i) (J' 1) (J' 2) (J' 3)) env' (preC s l sec N G (keysO G') (k + 1) [encBow b] [encK kb] [cJ N j t g (g ++ [b]) (J' 4)] ++ famV N f (fun i => if i = j then g.length + 1 else f i) (J' 1) (J' 2) (J' 3))
         rw [hJ]
         exact EStep.storeEO (l := 6) tabOk rfl rfl ((rdv_congr (he 96 (by decide +kernel))).trans rfl) (by rw [rdn_congr (he 96 (by decide +kernel))]; first | exact tI | exact rfl) rfl (zB6 _) ((rdv_congr (he 93 (by decide +kernel))).trans rfl) (by rw [rdn_congr (he 93 (by decide +kernel))]; first | exact tI | exact rfl) rfl rfl rfl rfl (by decide) rfl ⟨rfl, rfl⟩
       refine VQ.nil (hK _ _ ?_)
       clear hK K'
       show AWP _ _ _ _ _ (preC s l sec N G (keysO G') (k + 1) [encBow b] [encK kb] [cJ N j t g (g ++ [b]) 3] ++ famV N f (fun i => if i = j then g.length + 1 else f i) (1) (1) (1))
       refine AWP.keep [(11, .ptr 1 0), (12, .map 2), (13, kS (keysO G').length), (16, .eptr 5 3 0 0 (k + 1)), (17, .eptr 6 3 0 0 (k + 1)), (53, .sl 16 (bs.map encBow) .no), (54, .int bs.length), (55, .int k)] ⟨rfl, rfl, rfl, rfl, rfl, rfl, rfl, rfl, tI⟩ ?_
       repeat' (first | refine aoQ rfl rfl rfl (fun hg => by first | exact std0 | exact PRun.loadE tabOk rfl rfl nd rfl (zB6 _) rfl rfl rfl) (by exact rfl) ?_ | refine rgK (fun K' hK => ?_) | (refine aoN (hK _ _ ?_); clear hK K') | refine aoE (EStep.mapUpd (l := 2) (ek := ekT) (ev := evC N) (al := mapO G) (key := kb) (v := some (g ++ [b], j)) keyLaw3 (LOk.of (tabOk.get rfl)) rfl rfl rfl (Rd.w rfl tI) rfl (Rd.w rfl tI) rfl (Rd.w rfl tI) ?_))
       refine ⟨(k + 1, [encBow b], [encK kb], [cJ N j t g (g ++ [b]) 3]), ⟨hlt, rfl, rfl, ?_⟩, by show bs.length - (k + 1) < bs.length - k; omega, ⟨rfl, rfl, ?_, rfl, rfl, rfl, tI⟩, ?_⟩
       · show ((decide (8 + j < 8 + (N + (N + N))) && (decide (8 + N + j < 8 + (N + (N + N))) && (decide (8 + N + N + j < 8 + (N + (N + N))) && true))) && true) = true
         rw [decide_eq_true (by omega), decide_eq_true (by omega), decide_eq_true (by omega)]; rfl
       · show _ = kS (keysO (grpsL key (bs.take (k + 1)))).length
         rw [hsn]; rfl
       · show List.take _ ([.var (encS s), .var (encW s l sec), .map (Go.Ab.encM ekT (evC N) (ins (mapO G) kb (some (g ++ [b], j)))), .arr 3 (keysO G').length ((keysO G').map encK), .arr 16 (k + 1) [encBow b], .arr 3 (k + 1) [encK kb], .arr 3 (k + 1) [cJ N j t g (g ++ [b]) 3], .own 3 0] ++ famV N f (fun i => if i = j then g.length + 1 else f i) 1 1 1) = preC s l sec N (grpsL key (bs.take (k + 1))) (keysO (grpsL key (bs.take (k + 1)))) (k + 1) [encBow b] [encK kb] [cJ N j t g (g ++ [b]) 3] ++ famK N (lenB (grpsL key (bs.take (k + 1))))
         rw [hsn, g5, g6]
         exact zAu (by rw [lLa, show famV N f (fun i => if i = j then g.length + 1 else f i) 1 1 1 = famK N (fun i => if i = j then g.length + 1 else f i) from rfl, famK_len]; exact nLr _)
   · obtain rfl : k = bs.length := by omega
     rw [zAr]
     have hks := sortK_keys key bs
     have hlk := fun kv hk => grps_lk (key := key) (bs := bs) (k := kv) hk
     have hGl := (grps_all key bs).len
     have hgn : ∀ kv ∈ keysB key bs, grp key bs kv ≠ [] := fun kv hk => by
      obtain ⟨b, hb2, rfl⟩ := (keysB_mem key bs kv).1 hk
      exact List.ne_nil_of_mem (mem_grp.2 ⟨hb2, rfl⟩)
     have hgl : ∀ kv, (grp key bs kv).length ≤ bs.length := fun kv => by unfold grp; exact zB2 _ _
     rw [show (grpsL key bs).map (·.1) = keysO (grpsL key bs) from rfl] at hks
     have hKl : (keysO (grpsL key bs)).length ≤ bs.length := by rw [keysO_len]; exact hGl
     generalize grpsL key bs = G at *
     generalize hK : keysO G = K at *
     refine AWP.kS 13 (m := K.length) rfl rfl ?_
     have hst := TCall.val (first := []) (caps := []) (avs := [.sla 3 3 0 K.length K.length, .fn (.func 40) [] []]) (sortKT (preC s l sec N G K bs.length c1 c2 c3 ++ famK N (lenB G)) 3 K.length K rfl (by omega))
     have hset : (preC s l sec N G K bs.length c1 c2 c3 ++ famK N (lenB G)).set 3 (.arr 3 K.length ((sortK K).map encK)) = preC s l sec N G (keysB key bs) bs.length c1 c2 c3 ++ famK N (lenB G) := by
      rw [← hks]; unfold preC; rw [sortK_len]; rfl
     have hKs : K.length = (keysB key bs).length := by rw [← hks, sortK_len]
     repeat' (first | refine aoQ rfl rfl rfl (fun hg => by first | exact std0 | exact std1) (by exact rfl) ?_ | refine sqW ?_ | refine rgK (fun K' hK => ?_) | (refine aoN (hK _ _ ?_); clear hK K') | refine aoE (alW tabOk rfl rfl rfl rfl rfl rfl ?_) | refine aoE (scT (hst) rfl rfl rfl rfl rfl nd rfl rfl nds ?_) | refine cdN rfl tI (fun hc => ?_) (fun hc => ?_) | refine blK ?_ | refine exW ?_ | refine skW ?_)
     all_goals (first | exact dd | skip)
     rintro _ _ ⟨rfl, rfl⟩
     rw [hset]
     have hkl2 : (keysB key bs).length ≤ 20000 := by rw [← hKs]; omega
     rw [hKs] at *
     have o1' : okObj (8 + (N + (N + N))) (.arr 16 bs.length c1) = true := o1
     clear hset hst hKs hks
     generalize hks : keysB key bs = ks at *
     repeat' (first | refine aoQ rfl rfl rfl (fun hg => by first | exact std0 | exact PRun.lenA tabOk rfl rfl nd rfl) (by exact rfl) ?_ | refine sqW ?_ | refine rgK (fun K' hK => ?_) | (refine aoN (hK _ _ ?_); clear hK K') | refine blK ?_)
     refine AWP.mapWeak (ek := ekT) (ev := evC N) (ev' := evD) (al := mapO G) 2 (fun o => o.map (·.1)) rfl (evC_weak N) ?_
     refine AWP.nilFresh 19 3 rfl ?_
     refine lpD (ι := Nat × List (List AV) × List (List AV))
      (fun i => [(12, .map 2), (19, .sl 3 ((outK key bs ks i.1).map clE) (tkO (outK key bs ks i.1))), (103, .sla 3 3 0 ks.length ks.length), (104, .int ks.length), (105, .int i.1)])
      (fun i => postC s l sec G ks bs.length (bs.length + i.1) c1 i.2.1 i.2.2 (outK key bs ks i.1) ++ famK N (lenB G))
      (fun i => i.1 ≤ ks.length ∧ okObj (8 + (N + (N + N))) (.arr 3 (bs.length + i.1) i.2.1) = true ∧ okObj (8 + (N + (N + N))) (.arr 3 (bs.length + i.1) i.2.2) = true)
      (fun i => ks.length - i.1) (8 + (N + (N + N))) (fun i => by rw [lLa, famK_len]; rfl) (0, c2, c3) ⟨nZl _, o2, o3⟩ ⟨rfl, rfl, rfl, rfl, rfl, tI⟩
      (by
       show ([.var (encS s), .var (encW s l sec), .map (Go.Ab.encM ekT evD ((mapO G).map fun p => (p.1, p.2.map (·.1)))), .arr 3 ks.length (ks.map encK), .arr 16 bs.length c1, .arr 3 bs.length c2, .arr 3 bs.length c3, .own 3 0] ++ famK N (lenB G)) = _
       rw [mapO_D]; rfl)
      (fun i _ => by
       show (decide (2 < 8 + (N + (N + N))) && (okRef (8 + (N + (N + N))) 4 (.sl 3 _ _) && (decide (3 < 8 + (N + (N + N))) && true))) = true
       rw [decide_eq_true (by omega), decide_eq_true (by omega), tkO_ok (by omega)]; rfl)
      (fun i ⟨_, h2, h3⟩ => by
       rw [zCi, famK_ok, zBm]
       unfold postC
       simp only [zBu, zC8, h2, h3, o1', okArrK, okMapD, zBm]
       rfl) ?_
     rintro ⟨i, e2, e3⟩ ⟨hi, p2, p3⟩
     dsimp only at hi p2 p3 ⊢
     by_cases hlt : i < ks.length
     · obtain ⟨kv, hkv⟩ : ∃ kv, ks.getD i default = kv := ⟨_, rfl⟩
       have hkm : kv ∈ ks := by rw [← hkv]; exact getD_mem hlt
       obtain ⟨j, hj⟩ := hlk kv hkm
       have hl2 : lk (mapD G) kv = some (some (grp key bs kv)) := by rw [lk_mapD, hj]; rfl
       have hst := outK_step (key := key) (bs := bs) hlt hkv
       have hol := outK_len key bs ks i
       have hdf := diff_spec (grp key bs kv) (hgn kv hkm) (by have := hgl kv; omega)
       clear hlk hgn hgl hj
       generalize grp key bs kv = g at *
       generalize outK key bs ks i = A at *
       have hA1 : (A.map clE).length = A.length := lLm ..
       have hA2 : A.map clE ++ [clE g] = (A ++ [g]).map clE := by rw [zAe]; rfl
       repeat' (first | refine aoE (EStep.allocArrV (l := 6) (cs := [.nils, .nils, .nils]) tabOk rfl rfl rfl rfl rfl rfl rfl rfl ?_) | refine aoE (EStep.allocArrV (l := 5) (cs := [.int 0, .int 0, .int 0]) tabOk rfl rfl rfl rfl rfl rfl rfl rfl ?_) | refine aoQ rfl rfl rfl (fun hg => by first | exact PRun.callL hdf rfl rfl nd ⟨Lend.of 4 rfl, Lend.fn1 (Lend.eptr rfl (zB6 _) rfl), tI⟩ rfl nds | exact std0 | exact PRun.indexA0 tabOk rfl rfl nd rfl nd rfl (by decide) rfl ⟨by omega, by omega⟩ | exact PRun.eq (v := .agg (encK (ks.getD ((i : Nat) : Int).toNat default))) (PRun.loadEM (f := encK) (xs := ks) tabOk rfl rfl nd rfl hlt rfl rfl) (congrArg (fun x => AV.agg (encK x)) (show ks.getD ((i : Nat) : Int).toNat default = kv from hkv)) | exact PRun.fieldE tabOk rfl rfl nd rfl rfl | exact PRun.loadE tabOk rfl rfl nd rfl (zB6 _) rfl rfl rfl | exact PRun.eq (v' := .agg (clE g)) (PRun.lookupB (ok := false) (ek := ekT) (ev := evD) (al := mapD G) (key := kv) (zv := none) hl2 keyLaw3 (LOk.of (tabOk.get rfl)) (LOk.of (tabOk.get rfl)) rfl rfl (Rd.w rfl nd) (Or.inr ⟨_, rfl, rfl⟩) (Rd.w rfl nd) rfl) rfl | exact pbS tabOk rfl rfl nds) (by exact rfl) ?_ | refine sqW ?_ | refine rgK (fun K' hK => ?_) | (refine aoN (hK _ _ ?_); clear hK K') | refine aoE (EStep.storeE (l := 5) tabOk rfl rfl rfl tI rfl (zB6 _) rfl tI rfl rfl rfl rfl rfl rfl ?_) | refine aoE (EStep.storeE (l := 6) tabOk rfl rfl rfl tI rfl (zB6 _) rfl tI rfl rfl rfl rfl rfl rfl ?_) | refine aoE (EStep.appendU (l := 7) (es := A.map clE) (es3 := (A ++ [g]).map clE) (m := ((A ++ [g]).map clE).length) tabOk rfl rfl rfl (by decide) (tkO_or A) (Rd.w rfl tI) rfl (Rd.w rfl tI) (.sl rfl (by intro x hx; rcases zAl.1 hx with rfl; rfl)) (zB6 _) (LOk.of (tabOk.get rfl)) (LOk.of (tabOk.get rfl)) rfl rfl (by rw [hA1]; simp only [zA5, zAb]; omega) (by rw [hA1]; simp only [zA5, zAb]; omega) hA2 (by simp) ?_) | refine cdN rfl tI (fun hc => ?_) (fun hc => ?_) | refine blK ?_ | refine exW ?_ | refine skW ?_ | refine rtW ?_)
       all_goals (first | exact dd | skip)
       · rw [if_pos hc] at hst
         refine ⟨(i + 1, [encK kv], [clE g]), ⟨hlt, rfl, rfl⟩, by show ks.length - (i + 1) < ks.length - i; omega, ⟨rfl, ?_, rfl, rfl, rfl, tI⟩, ?_⟩
         · show _ = AV.sl 3 ((outK key bs ks (i + 1)).map clE) (tkO (outK key bs ks (i + 1)))
           rw [hst, tkO_app]; rfl
         · show _ = postC s l sec G ks bs.length (bs.length + (i + 1)) c1 [encK kv] [clE g] (outK key bs ks (i + 1)) ++ famK N (lenB G)
           rw [hst]
           exact zAu (l := postC s l sec G ks bs.length (bs.length + (i + 1)) c1 [encK kv] [clE g] (A ++ [g]) ++ famK N (lenB G)) (by rw [lLa, famK_len]; exact nLr _)
       · rw [if_neg (by rw [hc]; decide)] at hst
         refine ⟨(i + 1, [encK kv], [clE g]), ⟨hlt, rfl, rfl⟩, by show ks.length - (i + 1) < ks.length - i; omega, ⟨rfl, ?_, rfl, rfl, rfl, tI⟩, ?_⟩
         · show _ = AV.sl 3 ((outK key bs ks (i + 1)).map clE) (tkO (outK key bs ks (i + 1)))
           rw [hst]; rfl
         · show _ = postC s l sec G ks bs.length (bs.length + (i + 1)) c1 [encK kv] [clE g] (outK key bs ks (i + 1)) ++ famK N (lenB G)
           rw [hst]
           exact zAu (l := postC s l sec G ks bs.length (bs.length + (i + 1)) c1 [encK kv] [clE g] A ++ famK N (lenB G)) (by rw [lLa, famK_len]; exact nLr _)
     · obtain rfl : i = ks.length := by omega
       generalize outK key bs ks ks.length = A at *
       repeat' (first | refine aoQ rfl rfl rfl (fun hg => by exact std0) (by exact rfl) ?_ | refine sqW ?_ | refine rgK (fun K' hK => ?_) | (refine aoN (hK _ _ ?_); clear hK K') | refine cdN rfl tI (fun hc => ?_) (fun hc => ?_) | refine blK ?_ | refine exW ?_ | refine skW ?_ | refine rtW ?_)
       all_goals (first | exact dd | skip)
       refine ⟨.inr rfl, _, rfl, ?_⟩
       cases A
       · exact Ent.of rfl
       · exact Ent.of rfl
 · rw [show clashesR s l sec ex = ([], 1) from if_neg hf]
   refine PCall.bodyS tabOk Tryz.func12 rfl rfl Tryz.ntmps12 rfl ?_
   repeat' (first | refine aoQ rfl rfl rfl (fun hg => by first | exact std0 | exact pcW (f1) rfl rfl nd rfl nds | exact pcW (f2) rfl rfl nd rfl nds | exact pcW (f3) rfl rfl nd rfl nds | exact pcW (f4) rfl rfl nd rfl nds | exact std1) (by exact rfl) ?_ | refine sqW ?_ | refine rgK (fun K' hK => ?_) | (refine aoN (hK _ _ ?_); clear hK K') | refine aoE (bxW rfl rfl rfl rfl rfl tI rfl rfl ?_) | refine cdN rfl tI (fun hc => ?_) (fun hc => ?_) | refine skW ?_ | refine rtW ?_)
   all_goals (first | (exact ⟨.inr rfl, _, rfl, entT0 1⟩) | skip)
   exfalso
   apply hf
   unfold formB exOk
   simp at hc ⊢
   obtain ⟨⟨⟨⟨a, b⟩, c⟩, d⟩, e⟩ := hc
   exact ⟨⟨⟨a, b⟩, c, by omega⟩, e⟩
theorem head20 : PCall Tryz.prog 10 [] (.b true) := head20_spec fun h => clashes_spec h
theorem ins_keys {κ α : Type} [DecidableEq κ] {k : κ} (v : α) : ∀ {al : List (κ × α)}, (ins al k v).map (·.1) = if (lk al k).isSome then al.map (·.1) else al.map (·.1) ++ [k]
 | [] => rfl
 | (x, y) :: r => by
   simp only [ins, lk]
   split
   · rename_i h; rw [zAz, zAz]; simp [h]
   · rw [zAz, ins_keys v, zAz]
     split <;> rfl
theorem lftM_keys (ids : List Int) : ∀ k, k ≤ ids.length → ((lftM (ids.take k)).map (·.1)).Nodup ∧ ∀ n ∈ (lftM (ids.take k)).map (·.1), n ∈ ids.take k
 | 0, _ => ⟨zCx, fun n h => by cases h⟩
 | k + 1, h => by
   obtain ⟨h1, h2⟩ := lftM_keys ids k (by omega)
   rw [lftM_succ (by omega), ins_keys, lftM_some, takeS' (by omega : k < ids.length)]
   by_cases hm : ids.getD k default ∈ ids.take k
   · rw [decide_eq_true hm, if_pos rfl]
     exact ⟨h1, fun n hn => zCd _ (h2 n hn)⟩
   · rw [decide_eq_false hm, if_neg (by decide)]
     refine ⟨zBx.2 ⟨h1, by simp, fun a ha b hb e => ?_⟩, fun n hn => ?_⟩
     · rw [zAl] at hb
       subst e; subst hb
       exact hm (h2 _ ha)
     · rcases zB5.1 hn with hn | hn
       · exact zCd _ (h2 n hn)
       · exact zD6 _ hn
theorem both_cost {c : Cl} (h : c.notes.length = c.vals.length) : (lftM c.notes).length ≤ (oth (psC c) 1).length + (oth (psC c) 2).length := by
 obtain ⟨h1, h2⟩ := lftM_keys c.notes c.notes.length (nLr _)
 rw [zAr] at h1 h2
 have h3 : (lftM c.notes).map (·.1) ⊆ oth (psC c) 1 ++ oth (psC c) 2 := fun n hn => by
  obtain ⟨j, hj, e⟩ := zAq.1 (h2 n hn)
  have hp := psC_at h (k := j) (by omega)
  have hm : (psC c).getD j default ∈ psC c := getD_mem (by rw [psC_len h]; omega)
  rw [hp, getD_lt hj] at hm
  rw [zB5, mem_oth, mem_oth]
  by_cases h9 : c.vals.getD j default = 1
  · exact .inr ⟨_, hm, e, by show c.vals.getD j default ≠ 2; rw [h9]; decide⟩
  · exact .inl ⟨_, hm, e, h9⟩
 have := h1.length_le_of_subset h3
 rwa [lLm, lLa] at this
theorem sel_has (c : Cl) : hasI (selC c) 1 = (((oth (psC c) 1).length : Int) == leastC c) ∧ hasI (selC c) 2 = (((oth (psC c) 2).length : Int) == leastC c) ∧ 1 ≤ (selC c).length ∧ (selC c).length ≤ 2 := by
 unfold selC
 rw [filt2 fun v => ((oth (psC c) v).length : Int) == leastC c]
 have hl : (((oth (psC c) 1).length : Int) == leastC c) = true ∨ (((oth (psC c) 2).length : Int) == leastC c) = true := by
  unfold leastC
  simp only [beq_iff_eq]
  omega
 generalize (((oth (psC c) 1).length : Int) == leastC c) = x at *
 generalize (((oth (psC c) 2).length : Int) == leastC c) = y at *
 cases x <;> cases y <;> simp [hasI] at hl ⊢
theorem clE_enc (gs : List (List Bow)) : gs.map clE = (gs.map clOf).map encC := by
 rw [zC6]
 exact zDj fun g _ => (encC_clOf g).symm
theorem sameL_spec (gs : List (List Bow)) (hl : gs.length ≤ 1000000) (hg : ∀ g ∈ gs, g.length ≤ 1000000) : PCall Tryz.prog 14 [.sl 3 (gs.map clE) .no, .sl 3 (gs.map clE) .no] (.b true) := by
 rw [clE_enc]
 exact sameC_spec (gs.map clOf) (by rw [lLm]; omega) fun c hc => by
  obtain ⟨g, h1, rfl⟩ := zAi.1 hc
  exact clOf_sized (hg g h1)
theorem clash_small {s : Score} {l : List Jo.Mark} {sec : Int} {ex : List Int} (h : (bowsL s l sec ex).length ≤ 20000) : (clashes s l sec ex).length ≤ 20000 ∧ ∀ g ∈ clashes s l sec ex, g.length ≤ 20000 := by
 refine ⟨zBb (clashes_len s l sec ex) h, fun g hg => ?_⟩
 obtain ⟨k, _, rfl, _⟩ := mem_clash.1 hg
 unfold grp
 exact zBb (zB2 _ _) h
theorem form_parts {s : Score} {l : List Jo.Mark} {sec : Int} {ex : List Int} (h : formB s l sec ex = true) : scoreOk s = true ∧ marksOk l = true ∧ Jo.inR sec 0 99 = true ∧ ex.length ≤ 20000 ∧ exOk ex = true := by
 unfold formB at h
 simp only [zA0, zAm, dEf] at h
 obtain ⟨⟨⟨h1, h2⟩, h3, h4⟩, h5⟩ := h
 exact ⟨h1, h2, h3, by omega, h5⟩
theorem form_of {s : Score} {l : List Jo.Mark} {sec : Int} {ex : List Int} (h1 : scoreOk s = true) (h2 : marksOk l = true) (h3 : Jo.inR sec 0 99 = true) (h4 : ex.length ≤ 20000) (h5 : exOk ex = true) : formB s l sec ex = true := by
 unfold formB
 rw [h1, h2, h3, h5, decide_eq_false (by omega)]; rfl
def use20 (s : Score) (l : List Jo.Mark) (sec : Int) (ex : List Int) : Bool := (few20 s l && decide ((ex.length : Int) ≤ 60)) && formB s l sec ex
theorem use_parts {s : Score} {l : List Jo.Mark} {sec : Int} {ex : List Int} (h : use20 s l sec ex = true) : few20 s l = true ∧ ex.length ≤ 60 ∧ formB s l sec ex = true := by
 unfold use20 at h
 simp only [zA0, dEt] at h
 exact ⟨h.1.1, by omega, h.2⟩
theorem clashes_ok {s : Score} {l : List Jo.Mark} {sec : Int} {ex : List Int} (h : In20 s l sec ex) (hf : formB s l sec ex = true) : PCall Tryz.prog 12 [.agg (encS s), .sl 10 (l.map encMk) .no, .int sec, .sl 1 (ex.map eI) .no] (.tup [.sl 3 ((clashes s l sec ex).map clE) .no, .int 0]) := by
 have := clashes_spec h
 rw [show clashesR s l sec ex = (clashes s l sec ex, 0) from if_pos hf] at this
 exact this
theorem in20' {s : Score} (hok : scoreOk s = true) (h1 : s.bars.length ≤ 12) (h2 : s.parts.length ≤ 8) (h3 : s.notes.length ≤ 40) {l : List Jo.Mark} {sec : Int} {ex : List Int} (hl : l.length ≤ 1000000) (ht : TextsIn l) (hex : ex.length ≤ 1000000) : In20 s l sec ex :=
 ⟨⟨by omega, by omega, by omega⟩, by omega, by omega, by omega, hl, ht, hex, fun _ => zBb (bows_few hok h2 h3 l sec ex) (by decide)⟩
end Go.Proofs.YtficfljjnbnhbaaGreatDoor.Bw
