/- Contracts by content: align: Bars.  Alignments in plain words: the example's.  The law AlignSame by content. The law AlignNotes by content. No statement is proved here. -/
import Derived.Test.YtekfpcgagoidcaaGreatDoorU21
import Derived.Test.YtekfpcgagoidcaaGreatDoorU22
import Derived.Test.YtekfpcgagoidcaaGreatDoorU23
set_option linter.unusedVariables false
set_option linter.unusedSimpArgs false
namespace Go.Ab
def isPrA : AV → Bool
 | .prim _ => true
 | _ => false
theorem pureA {es : List (List AV)} (h : es.all (fun x => x.all isPrA) = true) : ∀ e ∈ es, ∀ a ∈ e, ∀ M B x, VRel M B a x → VRel M [] a x := fun e he a ha M B x hx => by
 have h1 := zA7.1 (zA7.1 h e he) a ha
 cases a <;> simp [isPrA] at h1
 rw [VRel.prim_eq hx]; exact .prim _
end Go.Ab
namespace Go.Proofs.YtekfpcgagoidcaaGreatDoor.Al
open Go.Ab Go.Sort
attribute [local irreducible] AWP AOps EStep AQ PStep PRun PCall TCall VCall
theorem encPr_pr (l : PL) : (l.map encPr).all (fun x => x.all isPrA) = true := by
 rw [List.all_map]; exact zA7.2 fun p _ => rfl
theorem one_encPr (l : PL) : ∀ x ∈ l.map encPr, x.all oneAV = true := fun x hx => by
 obtain ⟨p, _, rfl⟩ := zAu.1 hx; rfl
def noA : Algn := ⟨[], 0, []⟩
def cellI (x : Int) (k : Nat) : AObj := match k with | 0 => .arr 1 0 [] | 1 => .arr 1 1 [[.int 0]] | _ => .arr 1 1 [[.int x]]
def cellsI (σ : Store) (x y : Int) (j k : Nat) : Store := σ ++ [cellI x j, cellI y k]
def BM0 (a b : Score) (al : NL) (kn : KL) : Store := PairS (BO a b).1 (BO a b).2.1 (BO a b).2.2 a b al kn ++ [.var [.ptr 7 0], .var [tabA a b]]
theorem entNoA (c : Int) : Ent (.agg [.nils, .int c, .nils]) (.agg [.sl 2 [] .no, .int c, .sl 1 [] .no]) := Ent.agg rfl fun i u v hu hv => by
 match i, hu, hv with
 | 0, hu, hv => cases hu; cases hv; exact Ent.nil
 | 1, hu, hv => cases hu; cases hv; exact Ent.rfl' _
 | 2, hu, hv => cases hu; cases hv; exact Ent.nil
 | i + 3, hu, hv => cases hu
def longB (a b : Score) : Prop := a.bars.length > 200 ∨ b.bars.length > 200
instance (a b : Score) : Decidable (longB a b) := by unfold longB; infer_instance
def bestA (a b : Score) : Algn := ⟨alignR (costR a b) a.bars.length b.bars.length, T (costR a b) a.bars.length b.bars.length, tableL (costR a b) (a.bars.length + 1) (b.bars.length + 1)⟩
def barsR (a b : Score) : Algn × Int := if scoreOk a = true ∧ scoreOk b = true then (if longB a b then (noA, 2) else (bestA a b, 0)) else (noA, 1)
def pBS (a b : Score) (al : NL) (kn : KL) (i k : Nat) (acc : PL) : Nat → AObj := fun j => (BS a b al kn i k acc).getD j .dead
theorem pBS_ok (a b : Score) (al : NL) (kn : KL) (i k : Nat) (acc : PL) : ∀ j, okObj 14 (pBS a b al kn i k acc j) = true := fun j => by
 have h := BS_ok a b al kn i k acc
 rw [zA7] at h
 unfold pBS
 rw [zBs]
 cases hh : (BS a b al kn i k acc)[j]? with
 | none => rfl
 | some v => exact h v (zAk hh)
theorem reverseP_spec {p : Nat → AObj} (hp : ∀ i, okObj 14 (p i) = true) (l : PL) (hl : l.length ≤ 1000000) :
 TCall Tryz.prog 50 [pcell l] (RS p l.length l) (fun r s => r = .tup [] ∧ s = RS p l.length l.reverse) := by
 cases l with
 | nil => exact reverse0_spec hp 0
 | cons x l => exact reverse_spec hp _ (x :: l) hl
theorem align_rev (c : Nat → Nat → Int) (n m : Nat) : (ip (back c n m)).reverse = alignR c n m := by unfold alignR ip; rw [List.map_reverse]
set_option maxHeartbeats 16000000 in
set_option maxRecDepth 20000 in
theorem aBars_spec (a b : Score) (ha : a.Small) (hb : b.Small) : PCall Tryz.prog 19 [.agg (encS a), .agg (encS b)] (.tup [.agg (encA (barsR a b).1), .int (barsR a b).2]) := by
 have ha1 := ha.1
 have hb1 := hb.1
 have hv0 := TCall.val (first := []) (caps := []) (avs := [.agg (encS a), .agg (encS b)]) (newPair_spec (BO_ok a b) a b ha hb)
 have hp2 := fun u v => isLong_spec a b u v ha hb
 refine PCall.bodyS tabOk Tryz.func19 rfl rfl Tryz.ntmps19 rfl ?_
 repeat' (first | refine aoQ rfl rfl rfl (fun hg => by exact std0) (by exact rfl) ?_ | refine sqW ?_ | refine rgK (fun K' hK => ?_) | (refine aoN (hK _ _ ?_); clear hK K') | refine aoE (bxW rfl rfl rfl rfl rfl tI rfl rfl ?_) | refine aoE (alW tabOk rfl rfl rfl rfl rfl rfl ?_) | refine aoE (scT (hv0) rfl rfl rfl rfl rfl nd rfl rfl nds ?_))
 intro r s hr
 unfold npR at hr
 split at hr
 · rename_i hok
   obtain ⟨rfl, al, hg, rfl⟩ := hr
   simp only [zA0] at hok
   have hna := ok_nts hok.1
   have hnb := ok_nts hok.2
   have hna1 := hna.bars
   have hR : barsR a b = if longB a b then (noA, 2) else (bestA a b, 0) := if_pos hok
   have hvT := TCall.val (first := []) (caps := []) (avs := [.ptr 7 0]) (TCall.frame (table_spec (BO_ok a b) hna hnb hg (KnOk.nil a b)) [.var [.ptr 7 0]] (pairS_ok (BO_ok a b) (nLr _) a b al _) rfl (fun rv s h => by obtain ⟨_, kn, _, h⟩ := h; rw [h]; rfl))
   repeat' (first | refine aoQ rfl rfl rfl (fun hg => by first | exact std0 | exact pbW (hp2 _ _) rfl rfl nd rfl rfl nds | exact pbD tabOk rfl rfl nds) (by exact rfl) ?_ | refine sqW ?_ | refine rgK (fun K' hK => ?_) | (refine aoN (hK _ _ ?_); clear hK K') | refine aoE (stW tabOk rfl rfl rfl tI rfl rfl tI rfl rfl rfl rfl rfl rfl rfl ?_) | refine aoE (alW tabOk rfl rfl rfl rfl rfl rfl ?_) | refine aoE (scT (hvT) rfl rfl rfl rfl rfl nd rfl rfl nds ?_) | refine cdN rfl tI (fun hc => ?_) (fun hc => ?_) | refine blK ?_ | refine skW ?_ | refine rtW ?_)
   all_goals (first | exact dd | skip)
   · rw [hR, if_pos (by simp only [zA2, zAi, zA0, zA5, zAf, dEt, dEf, zAh, zAe, beq_iff_eq, beq_eq_false_iff_ne, bne_iff_ne, bne_eq_false_iff_eq, gt_iff_lt, ge_iff_le, ne_eq] at hc; exact hc)]
     exact ⟨.inr rfl, _, rfl, Ent.tup2 (entNoA 0) (Ent.rfl' _)⟩
   have hlg : ¬ longB a b := by unfold longB; simp only [zA2, zAi, zA0, zA5, zAf, dEt, dEf, zAh, zAe, beq_iff_eq, beq_eq_false_iff_ne, bne_iff_ne, bne_eq_false_iff_eq, gt_iff_lt, ge_iff_le, ne_eq] at hc; omega
   rw [if_neg hlg] at hR
   clear hc hvT hp2
   rintro _ _ ⟨σ', rfl, rfl, kn, hkn, rfl⟩
   have l1 := tableL_len (costR a b) (a.bars.length + 1) (b.bars.length + 1)
   repeat' (first | refine sqW ?_ | (refine aoN (hK _ _ ?_); clear hK K') | refine aoE (stW tabOk rfl rfl rfl tI rfl rfl tI rfl rfl rfl rfl rfl rfl rfl ?_) | refine aoE (alW tabOk rfl rfl rfl rfl rfl rfl ?_))
   refine AWP.newArr 1 (AWP.newArr 1 ?_)
   refine AWP.drawV 2 (clsT [9, 10]) (fun J => cellsI (BM0 a b al kn) a.bars.length b.bars.length (J 1) (J 2)) rfl (by kernel_rfl) (by decide +kernel) rfl (by decide +kernel) (fun K' hK => ?_)
   repeat' (first
    | refine VQ.q rfl (by decide +kernel) rfl rfl (fun J' hg => by first | exact std0 | exact std1) (by exact rfl) ?_)
   refine VQ.e 1 0 (v := .eptr 10 1 0 0 1) (d := some 9) rfl (by decide +kernel) rfl ?_ ?_
   · intro env' he J' hJ
     show EStep _ _ _ _ (fun e s => _ ∧ s = cellsI _ _ _ (J' 1 + 1) (J' 2)) env' (cellsI _ _ _ (J' 1) (J' 2))
     rw [hJ]
     exact EStep.allocArr (l := 10) (sz := 1) tabOk rfl rfl rfl rfl rfl rfl rfl rfl ⟨rfl, rfl⟩
   refine VQ.e 2 0 (v := .eptr 11 1 0 0 1) (d := some 10) rfl (by decide +kernel) rfl ?_ ?_
   · intro env' he J' hJ
     show EStep _ _ _ _ (fun e s => _ ∧ s = cellsI _ _ _ (J' 1) (J' 2 + 1)) env' (cellsI _ _ _ (J' 1) (J' 2))
     rw [hJ]
     exact EStep.allocArr (l := 11) (sz := 1) tabOk rfl rfl rfl rfl rfl rfl rfl rfl ⟨rfl, rfl⟩
   refine VQ.e 1 1 (v := .any) (d := none) rfl (by decide +kernel) rfl ?_ ?_
   · intro env' he J' hJ
     show EStep _ _ _ _ (fun e s => _ ∧ s = cellsI _ _ _ (J' 1 + 1) (J' 2)) env' (cellsI _ _ _ (J' 1) (J' 2))
     rw [hJ]
     exact EStep.storeE (l := 10) tabOk rfl rfl ((rdv_congr (he 9 (by decide +kernel))).trans rfl) (by rw [rdn_congr (he 9 (by decide +kernel))]; first | exact tI | exact rfl) rfl (zAd _) ((rdv_congr (he 31 (by decide +kernel))).trans rfl) (by rw [rdn_congr (he 31 (by decide +kernel))]; first | exact tI | exact rfl) rfl rfl rfl rfl rfl rfl ⟨rfl, rfl⟩
   refine VQ.e 2 1 (v := .any) (d := none) rfl (by decide +kernel) rfl ?_ ?_
   · intro env' he J' hJ
     show EStep _ _ _ _ (fun e s => _ ∧ s = cellsI _ _ _ (J' 1) (J' 2 + 1)) env' (cellsI _ _ _ (J' 1) (J' 2))
     rw [hJ]
     exact EStep.storeE (l := 11) tabOk rfl rfl ((rdv_congr (he 10 (by decide +kernel))).trans rfl) (by rw [rdn_congr (he 10 (by decide +kernel))]; first | exact tI | exact rfl) rfl (zAd _) ((rdv_congr (he 34 (by decide +kernel))).trans rfl) (by rw [rdn_congr (he 34 (by decide +kernel))]; first | exact tI | exact rfl) rfl rfl rfl rfl rfl rfl ⟨rfl, rfl⟩
   refine VQ.nil (hK _ _ ?_)
   clear hK K'
   show AWP _ _ _ _ _ (cellsI (BM0 a b al kn) a.bars.length b.bars.length 2 2)
   refine AWP.keep [(2, .ptr 0 0), (3, .ptr 1 0), (4, .ptr 2 0), (6, .ptr 8 0), (8, .ptr 9 0), (9, .eptr 10 1 0 0 1), (10, .eptr 11 1 0 0 1)] ⟨rfl, rfl, rfl, rfl, rfl, rfl, rfl, tI⟩ ?_
   repeat' (first | refine sqW ?_)
   refine AWP.drawYM effOp (fun q => match q with | 0 => cellsI (BM0 a b al kn) a.bars.length b.bars.length 2 2 | 1 => cellsI (BM0 a b al kn) a.bars.length b.bars.length 2 2 ++ [.var [.nils, .int 0, .nils]] | _ => cellsI (BM0 a b al kn) a.bars.length b.bars.length 2 2 ++ [.var [.nils, .int (T (costR a b) a.bars.length b.bars.length), tabA a b]]) rfl (by kernel_rfl) (by decide +kernel) rfl (by decide +kernel) (fun K' hK => ?_)
   repeat' (first
    | refine yqQ (a := 0) (b := 0) rfl (by decide +kernel) (by decide +kernel) rfl rfl rfl (fun k h1 h2 hg => by (have hk : k = 0 := (by omega)); (rcases hk with rfl) <;> (first | exact iX encI (rowL (costR a b) a.bars.length (b.bars.length + 1)) ((b.bars.length : Nat) : Int) (x := T (costR a b) a.bars.length b.bars.length) (rowL_get (by omega) _) (hb := by rw [rowL_len]; omega) | exact iX encRow (tableL (costR a b) (a.bars.length + 1) (b.bars.length + 1)) ((a.bars.length : Nat) : Int) (x := rowL (costR a b) a.bars.length (b.bars.length + 1)) (tableL_get (by omega) _) (hb := by rw [l1]; omega) | exact std0 | exact PRun.loadE tabOk rfl rfl nd rfl (zAd _) rfl rfl rfl | exact pbD tabOk rfl rfl nds | exact std1)) (by exact rfl) ?_
    | refine yqQ (a := 0) (b := 1) rfl (by decide +kernel) (by decide +kernel) rfl rfl rfl (fun k h1 h2 hg => by (have hk : k = 0 ∨ k = 1 := (by omega)); (rcases hk with rfl | rfl) <;> (first | exact iX encI (rowL (costR a b) a.bars.length (b.bars.length + 1)) ((b.bars.length : Nat) : Int) (x := T (costR a b) a.bars.length b.bars.length) (rowL_get (by omega) _) (hb := by rw [rowL_len]; omega) | exact iX encRow (tableL (costR a b) (a.bars.length + 1) (b.bars.length + 1)) ((a.bars.length : Nat) : Int) (x := rowL (costR a b) a.bars.length (b.bars.length + 1)) (tableL_get (by omega) _) (hb := by rw [l1]; omega) | exact std0 | exact PRun.loadE tabOk rfl rfl nd rfl (zAd _) rfl rfl rfl | exact pbD tabOk rfl rfl nds | exact std1)) (by exact rfl) ?_
    | refine yqQ (a := 1) (b := 1) rfl (by decide +kernel) (by decide +kernel) rfl rfl rfl (fun k h1 h2 hg => by (have hk : k = 1 := (by omega)); (rcases hk with rfl) <;> (first | exact iX encI (rowL (costR a b) a.bars.length (b.bars.length + 1)) ((b.bars.length : Nat) : Int) (x := T (costR a b) a.bars.length b.bars.length) (rowL_get (by omega) _) (hb := by rw [rowL_len]; omega) | exact iX encRow (tableL (costR a b) (a.bars.length + 1) (b.bars.length + 1)) ((a.bars.length : Nat) : Int) (x := rowL (costR a b) a.bars.length (b.bars.length + 1)) (tableL_get (by omega) _) (hb := by rw [l1]; omega) | exact std0 | exact PRun.loadE tabOk rfl rfl nd rfl (zAd _) rfl rfl rfl | exact pbD tabOk rfl rfl nds | exact std1)) (by exact rfl) ?_
    | refine yqQ (a := 0) (b := 2) rfl (by decide +kernel) (by decide +kernel) rfl rfl rfl (fun k h1 h2 hg => by (have hk : k = 0 ∨ k = 1 ∨ k = 2 := (by omega)); (rcases hk with rfl | rfl | rfl) <;> (first | exact iX encI (rowL (costR a b) a.bars.length (b.bars.length + 1)) ((b.bars.length : Nat) : Int) (x := T (costR a b) a.bars.length b.bars.length) (rowL_get (by omega) _) (hb := by rw [rowL_len]; omega) | exact iX encRow (tableL (costR a b) (a.bars.length + 1) (b.bars.length + 1)) ((a.bars.length : Nat) : Int) (x := rowL (costR a b) a.bars.length (b.bars.length + 1)) (tableL_get (by omega) _) (hb := by rw [l1]; omega) | exact std0 | exact PRun.loadE tabOk rfl rfl nd rfl (zAd _) rfl rfl rfl | exact pbD tabOk rfl rfl nds | exact std1)) (by exact rfl) ?_
    | refine yqQ (a := 1) (b := 2) rfl (by decide +kernel) (by decide +kernel) rfl rfl rfl (fun k h1 h2 hg => by (have hk : k = 1 ∨ k = 2 := (by omega)); (rcases hk with rfl | rfl) <;> (first | exact iX encI (rowL (costR a b) a.bars.length (b.bars.length + 1)) ((b.bars.length : Nat) : Int) (x := T (costR a b) a.bars.length b.bars.length) (rowL_get (by omega) _) (hb := by rw [rowL_len]; omega) | exact iX encRow (tableL (costR a b) (a.bars.length + 1) (b.bars.length + 1)) ((a.bars.length : Nat) : Int) (x := rowL (costR a b) a.bars.length (b.bars.length + 1)) (tableL_get (by omega) _) (hb := by rw [l1]; omega) | exact std0 | exact PRun.loadE tabOk rfl rfl nd rfl (zAd _) rfl rfl rfl | exact pbD tabOk rfl rfl nds | exact std1)) (by exact rfl) ?_
    | refine yqQ (a := 2) (b := 2) rfl (by decide +kernel) (by decide +kernel) rfl rfl rfl (fun k h1 h2 hg => by (have hk : k = 2 := (by omega)); (rcases hk with rfl) <;> (first | exact iX encI (rowL (costR a b) a.bars.length (b.bars.length + 1)) ((b.bars.length : Nat) : Int) (x := T (costR a b) a.bars.length b.bars.length) (rowL_get (by omega) _) (hb := by rw [rowL_len]; omega) | exact iX encRow (tableL (costR a b) (a.bars.length + 1) (b.bars.length + 1)) ((a.bars.length : Nat) : Int) (x := rowL (costR a b) a.bars.length (b.bars.length + 1)) (tableL_get (by omega) _) (hb := by rw [l1]; omega) | exact std0 | exact PRun.loadE tabOk rfl rfl nd rfl (zAd _) rfl rfl rfl | exact pbD tabOk rfl rfl nds | exact std1)) (by exact rfl) ?_)
   refine YQ.e (v := .ptr 12 0) (d := some 11) rfl rfl rfl ?_ ?_
   · intro env' he
     exact alW tabOk rfl rfl rfl rfl rfl rfl ⟨rfl, rfl⟩
   repeat' (first
    | refine yqQ (a := 0) (b := 0) rfl (by decide +kernel) (by decide +kernel) rfl rfl rfl (fun k h1 h2 hg => by (have hk : k = 0 := (by omega)); (rcases hk with rfl) <;> (first | exact std0 | exact std1)) (by exact rfl) ?_
    | refine yqQ (a := 0) (b := 1) rfl (by decide +kernel) (by decide +kernel) rfl rfl rfl (fun k h1 h2 hg => by (have hk : k = 0 ∨ k = 1 := (by omega)); (rcases hk with rfl | rfl) <;> (first | exact std0 | exact std1)) (by exact rfl) ?_
    | refine yqQ (a := 1) (b := 1) rfl (by decide +kernel) (by decide +kernel) rfl rfl rfl (fun k h1 h2 hg => by (have hk : k = 1 := (by omega)); (rcases hk with rfl) <;> (first | exact std0 | exact std1)) (by exact rfl) ?_
    | refine yqQ (a := 0) (b := 2) rfl (by decide +kernel) (by decide +kernel) rfl rfl rfl (fun k h1 h2 hg => by (have hk : k = 0 ∨ k = 1 ∨ k = 2 := (by omega)); (rcases hk with rfl | rfl | rfl) <;> (first | exact std0 | exact std1)) (by exact rfl) ?_
    | refine yqQ (a := 1) (b := 2) rfl (by decide +kernel) (by decide +kernel) rfl rfl rfl (fun k h1 h2 hg => by (have hk : k = 1 ∨ k = 2 := (by omega)); (rcases hk with rfl | rfl) <;> (first | exact std0 | exact std1)) (by exact rfl) ?_
    | refine yqQ (a := 2) (b := 2) rfl (by decide +kernel) (by decide +kernel) rfl rfl rfl (fun k h1 h2 hg => by (have hk : k = 2 := (by omega)); (rcases hk with rfl) <;> (first | exact std0 | exact std1)) (by exact rfl) ?_)
   refine YQ.e (v := .any) (d := none) rfl rfl rfl ?_ ?_
   · intro env' he
     exact stW tabOk rfl rfl ((rdv_congr (he 11 (by decide +kernel))).trans rfl) (by rw [rdn_congr (he 11 (by decide +kernel))]; first | exact tI | exact rfl) rfl ((rdv_congr (he 43 (by decide +kernel))).trans rfl) (by rw [rdn_congr (he 43 (by decide +kernel))]; first | exact tI | exact rfl) rfl rfl rfl rfl rfl rfl rfl ⟨rfl, rfl⟩
   repeat' (first
    | refine yqQ (a := 0) (b := 0) rfl (by decide +kernel) (by decide +kernel) rfl rfl rfl (fun k h1 h2 hg => by (have hk : k = 0 := (by omega)); (rcases hk with rfl) <;> (first | exact std0 | exact std1)) (by exact rfl) ?_
    | refine yqQ (a := 0) (b := 1) rfl (by decide +kernel) (by decide +kernel) rfl rfl rfl (fun k h1 h2 hg => by (have hk : k = 0 ∨ k = 1 := (by omega)); (rcases hk with rfl | rfl) <;> (first | exact std0 | exact std1)) (by exact rfl) ?_
    | refine yqQ (a := 1) (b := 1) rfl (by decide +kernel) (by decide +kernel) rfl rfl rfl (fun k h1 h2 hg => by (have hk : k = 1 := (by omega)); (rcases hk with rfl) <;> (first | exact std0 | exact std1)) (by exact rfl) ?_
    | refine yqQ (a := 0) (b := 2) rfl (by decide +kernel) (by decide +kernel) rfl rfl rfl (fun k h1 h2 hg => by (have hk : k = 0 ∨ k = 1 ∨ k = 2 := (by omega)); (rcases hk with rfl | rfl | rfl) <;> (first | exact std0 | exact std1)) (by exact rfl) ?_
    | refine yqQ (a := 1) (b := 2) rfl (by decide +kernel) (by decide +kernel) rfl rfl rfl (fun k h1 h2 hg => by (have hk : k = 1 ∨ k = 2 := (by omega)); (rcases hk with rfl | rfl) <;> (first | exact std0 | exact std1)) (by exact rfl) ?_
    | refine yqQ (a := 2) (b := 2) rfl (by decide +kernel) (by decide +kernel) rfl rfl rfl (fun k h1 h2 hg => by (have hk : k = 2 := (by omega)); (rcases hk with rfl) <;> (first | exact std0 | exact std1)) (by exact rfl) ?_)
   refine YQ.nil (hK _ _ ?_)
   clear hK K'
   show AWP _ _ _ _ _ (cellsI (BM0 a b al kn) a.bars.length b.bars.length 2 2 ++ [.var [.nils, .int (T (costR a b) a.bars.length b.bars.length), tabA a b]])
   repeat' (first | refine aoQ rfl rfl rfl (fun hg => by exact std0) (by exact rfl) ?_ | refine sqW ?_ | refine rgK (fun K' hK => ?_) | (refine aoN (hK _ _ ?_); clear hK K') | refine blK ?_)
   refine AWP.arrNilV (v := 12) (i := 0) (sz := 2) rfl rfl ?_
   refine lpD (ι := KL × Nat × Nat × PL) (fun _ => [(4, .ptr 2 0), (9, .eptr 10 1 0 0 1), (10, .eptr 11 1 0 0 1), (11, .ptr 12 0), (12, .fn (.func 49) [] [.eptr 10 1 0 0 1, .eptr 11 1 0 0 1, .ptr 9 0, .ptr 8 0, .ptr 12 0])]) (fun q => BS a b al q.1 q.2.1 q.2.2.1 q.2.2.2)
    (fun q => KnOk a b q.1 ∧ q.2.1 ≤ a.bars.length ∧ q.2.2.1 ≤ b.bars.length ∧ q.2.2.2.length + q.2.1 ≤ a.bars.length ∧ q.2.2.2 ++ ip (back (costR a b) q.2.1 q.2.2.1) = ip (back (costR a b) a.bars.length b.bars.length)) (fun q => q.2.1 + q.2.2.1) 14 (fun _ => rfl) (kn, a.bars.length, b.bars.length, []) ⟨hkn, nLr _, nLr _, by simp, rfl⟩ ⟨rfl, rfl, rfl, rfl, rfl, tI⟩ rfl (fun _ _ => rfl) (fun q _ => BS_ok a b al _ _ _ _) ?_
   rintro ⟨kn1, i, k, acc⟩ ⟨hk1, hi, hk, hacc, hbk⟩
   dsimp only at hk1 hi hk hacc hbk
   by_cases h0 : i = 0 ∧ k = 0
   · obtain ⟨rfl, rfl⟩ := h0
     rw [back_nil, show ip [] = [] from rfl, zCg] at hbk
     have hrv := TCall.val (first := []) (caps := []) (avs := [pcell acc]) (reverseP_spec (pBS_ok a b al kn1 0 0 acc) acc (by omega))
     have hrev : acc.reverse = alignR (costR a b) a.bars.length b.bars.length := by rw [hbk]; exact align_rev _ _ _
     clear hbk
     cases acc with
     | nil =>
       repeat' (first | refine aoQ rfl rfl rfl (fun hg => by first | exact std0 | exact PRun.loadE tabOk rfl rfl nd rfl (zAd _) rfl rfl rfl) (by exact rfl) ?_ | refine sqW ?_ | refine rgK (fun K' hK => ?_) | (refine aoN (hK _ _ ?_); clear hK K') | refine aoE (scT (hrv) rfl rfl rfl rfl rfl nd rfl rfl nds ?_) | refine cdN rfl tI (fun hc => ?_) (fun hc => ?_) | refine blK ?_ | refine exW ?_ | refine skW ?_)
       all_goals (first | exact dd | skip)
       rintro _ _ ⟨rfl, rfl⟩
       repeat' (first | refine aoQ rfl rfl rfl (fun hg => by exact std0) (by exact rfl) ?_ | refine sqW ?_ | refine rgK (fun K' hK => ?_) | (refine aoN (hK _ _ ?_); clear hK K') | refine aoE (stW tabOk rfl rfl rfl tI rfl rfl tI rfl rfl rfl rfl rfl rfl rfl ?_) | refine rtW ?_)
       rw [hR]
       refine ⟨.inr rfl, _, rfl, Ent.of ?_⟩
       unfold bestA
       rw [← hrev]; rfl
     | cons x acc =>
       repeat' (first | refine aoQ rfl rfl rfl (fun hg => by first | exact std0 | exact PRun.loadE tabOk rfl rfl nd rfl (zAd _) rfl rfl rfl) (by exact rfl) ?_ | refine sqW ?_ | refine rgK (fun K' hK => ?_) | (refine aoN (hK _ _ ?_); clear hK K') | refine aoE (scT (hrv) rfl rfl rfl rfl rfl nd rfl rfl nds ?_) | refine cdN rfl tI (fun hc => ?_) (fun hc => ?_) | refine blK ?_ | refine exW ?_ | refine skW ?_)
       all_goals (first | exact dd | skip)
       rintro _ _ ⟨rfl, rfl⟩
       refine aoN (hK _ _ ?_)
       clear hK K'
       show AWP _ _ _ _ _ _
       refine AWP.freezeAV (l := 13) (sz := 2) (ver := (x :: acc).length) (es := (x :: acc).reverse.map encPr) rfl ?_ ?_
       · exact pureA (encPr_pr _)
       refine AWP.keep [(4, .ptr 2 0), (11, .ptr 12 0)] ⟨rfl, rfl, tI⟩ ?_
       have hcell : frzA 13 2 (x :: acc).length ((x :: acc).reverse.map encPr) (pcell (x :: acc)) = .sl 2 ((x :: acc).reverse.map encPr) .no := by
        unfold pcell frzA
        dsimp only
        rw [if_pos ⟨rfl, rfl, rfl, by rw [lLm, zCv], rfl⟩]
       show AWP _ _ _ _ _ [frzAO 13 2 (x :: acc).length ((x :: acc).reverse.map encPr) (pBS a b al kn1 0 0 (x :: acc) 0), frzAO 13 2 (x :: acc).length ((x :: acc).reverse.map encPr) (pBS a b al kn1 0 0 (x :: acc) 1), .var [.nils, .int 0, .nils], frzAO 13 2 (x :: acc).length ((x :: acc).reverse.map encPr) (pBS a b al kn1 0 0 (x :: acc) 3), frzAO 13 2 (x :: acc).length ((x :: acc).reverse.map encPr) (pBS a b al kn1 0 0 (x :: acc) 4), frzAO 13 2 (x :: acc).length ((x :: acc).reverse.map encPr) (pBS a b al kn1 0 0 (x :: acc) 5), frzAO 13 2 (x :: acc).length ((x :: acc).reverse.map encPr) (pBS a b al kn1 0 0 (x :: acc) 6), frzAO 13 2 (x :: acc).length ((x :: acc).reverse.map encPr) (pBS a b al kn1 0 0 (x :: acc) 7), frzAO 13 2 (x :: acc).length ((x :: acc).reverse.map encPr) (pBS a b al kn1 0 0 (x :: acc) 8), frzAO 13 2 (x :: acc).length ((x :: acc).reverse.map encPr) (pBS a b al kn1 0 0 (x :: acc) 9), frzAO 13 2 (x :: acc).length ((x :: acc).reverse.map encPr) (pBS a b al kn1 0 0 (x :: acc) 10), frzAO 13 2 (x :: acc).length ((x :: acc).reverse.map encPr) (pBS a b al kn1 0 0 (x :: acc) 11), .var [frzA 13 2 (x :: acc).length ((x :: acc).reverse.map encPr) (pcell (x :: acc)), .int (T (costR a b) a.bars.length b.bars.length), tabA a b], .dead]
       rw [hcell]
       repeat' (first | refine aoQ rfl rfl rfl (fun hg => by exact std0) (by exact rfl) ?_ | refine sqW ?_ | refine rgK (fun K' hK => ?_) | (refine aoN (hK _ _ ?_); clear hK K') | refine aoE (stW tabOk rfl rfl rfl tI rfl rfl tI rfl rfl rfl rfl rfl rfl rfl ?_) | refine rtW ?_)
       rw [hR]
       refine ⟨.inr rfl, _, rfl, Ent.of ?_⟩
       unfold bestA
       rw [← hrev]; rfl
   · have hst : TCall Tryz.prog 49 [.eptr 10 1 0 0 1, .eptr 11 1 0 0 1, .ptr 9 0, .ptr 8 0, .ptr 12 0] (BS a b al kn1 i k acc) (stepQ a b al i k acc) := by
      cases i with
      | zero =>
        cases k with
        | zero => exact absurd ⟨rfl, rfl⟩ h0
        | succ k => exact step_side hna hnb hg hk1 hk acc
      | succ i =>
        cases k with
        | zero => exact step_up hna hnb hg hk1 hi acc
        | succ k => exact step_both hna hnb hg hk1 hi hk acc (by omega)
     have hst' := TCall.val (first := []) (caps := [.eptr 10 1 0 0 1, .eptr 11 1 0 0 1, .ptr 9 0, .ptr 8 0, .ptr 12 0]) (avs := []) hst
     repeat' (first | refine aoQ rfl rfl rfl (fun hg => by first | exact std0 | exact PRun.loadE tabOk rfl rfl nd rfl (zAd _) rfl rfl rfl) (by exact rfl) ?_ | refine sqW ?_ | refine rgK (fun K' hK => ?_) | (refine aoN (hK _ _ ?_); clear hK K') | refine aoE (scT (hst') rfl rfl rfl rfl rfl nd rfl rfl nds ?_) | refine cdN rfl tI (fun hc => ?_) (fun hc => ?_) | refine blK ?_ | refine exW ?_ | refine skW ?_)
     all_goals (first | exact dd | skip)
     rintro _ _ ⟨rfl, kn2, i2, k2, acc2, g1, g2, g3, g4, g5, g6, rfl⟩
     repeat' (first | (refine aoN (hK _ _ ?_); clear hK K'))
     exact ⟨(kn2, i2, k2, acc2), ⟨g1, by show i2 ≤ _; omega, by show k2 ≤ _; omega, by show acc2.length + i2 ≤ _; omega, g6.trans hbk⟩, by show i2 + k2 < i + k; exact g4, ⟨rfl, rfl, rfl, rfl, rfl, tI⟩, rfl⟩
 · rename_i hok
   obtain ⟨rfl, rfl⟩ := hr
   have hR : barsR a b = (noA, 1) := if_neg (fun h => hok (by rw [h.1, h.2]; rfl))
   repeat' (first | refine aoQ rfl rfl rfl (fun hg => by first | exact std0 | exact pbD tabOk rfl rfl nds) (by exact rfl) ?_ | refine sqW ?_ | refine rgK (fun K' hK => ?_) | (refine aoN (hK _ _ ?_); clear hK K') | refine aoE (stW tabOk rfl rfl rfl tI rfl rfl tI rfl rfl rfl rfl rfl rfl rfl ?_) | refine aoE (alW tabOk rfl rfl rfl rfl rfl rfl ?_) | refine cdN rfl tI (fun hc => ?_) (fun hc => ?_) | refine blK ?_ | refine rtW ?_)
   all_goals (first | exact dd | skip)
   rw [hR]
   exact ⟨.inr rfl, _, rfl, Ent.tup2 (entNoA 0) (Ent.rfl' _)⟩
end Go.Proofs.YtekfpcgagoidcaaGreatDoor.Al
namespace Go.Proofs.YtekfpcgagoidcaaGreatDoor.Al
open Go.Ab Go.Sort
def TF (c : Nat → Nat → Int) : Nat → Nat → Nat → Int
 | 0, _, _ => 0
 | _ + 1, 0, k => 2 * (k : Int)
 | _ + 1, i + 1, 0 => 2 * ((i + 1 : Nat) : Int)
 | f + 1, i + 1, k + 1 => min (TF c f i (k + 1) + 2) (min (TF c f (i + 1) k + 2) (TF c f i k + c i k))
theorem TF_T (c : Nat → Nat → Int) : ∀ f i k : Nat, i + k < f → TF c f i k = T c i k
 | 0, _, _, h => absurd h (Nat.not_lt_zero _)
 | f + 1, 0, k, _ => by rw [TF, T_zero]
 | f + 1, i + 1, 0, _ => by rw [TF, T_left]
 | f + 1, i + 1, k + 1, h => by rw [TF, T_succ, TF_T c f i (k + 1) (by omega), TF_T c f (i + 1) k (by omega), TF_T c f i k (by omega)]
def backF (c : Nat → Nat → Int) : Nat → Nat → Nat → List (Nat × Nat)
 | 0, _, _ => []
 | _ + 1, 0, _ => []
 | f + 1, i + 1, 0 => backF c f i 0
 | f + 1, i + 1, k + 1 => if TF c (f + 1) (i + 1) (k + 1) = TF c f i k + c i k then (i, k) :: backF c f i k else if TF c (f + 1) (i + 1) (k + 1) = TF c f i (k + 1) + 2 then backF c f i (k + 1) else backF c f (i + 1) k
theorem back_zero (c : Nat → Nat → Int) : ∀ k : Nat, back c 0 k = []
 | 0 => back_nil
 | k + 1 => by rw [back]; exact back_zero c k
theorem backF_back (c : Nat → Nat → Int) : ∀ f i k : Nat, i + k < f → backF c f i k = back c i k
 | 0, _, _, h => absurd h (Nat.not_lt_zero _)
 | f + 1, 0, k, _ => by rw [backF, back_zero]
 | f + 1, i + 1, 0, h => by rw [backF, back, backF_back c f i 0 (by omega)]
 | f + 1, i + 1, k + 1, h => by rw [backF, back, TF_T c (f + 1) (i + 1) (k + 1) (by omega), TF_T c f i k (by omega), TF_T c f i (k + 1) (by omega), backF_back c f i (k + 1) (by omega), backF_back c f (i + 1) k (by omega), backF_back c f i k (by omega)]
end Go.Proofs.YtekfpcgagoidcaaGreatDoor.Al
namespace Go.Proofs.YtekfpcgagoidcaaGreatDoor.Al
open Go.Ab Go.Sort
attribute [local irreducible] AWP AOps EStep AQ PStep PRun PCall TCall VCall
theorem RP_len : ∀ {l : List (Nat × Nat)} {i k : Nat}, RP i k l → l.length ≤ i
 | [], _, _, _ => nZl _
 | x :: r, i, k, ⟨h1, _, h3⟩ => by
   have := RP_len h3
   rw [zA8]; omega
theorem alignR_len (c : Nat → Nat → Int) (n m : Nat) : (alignR c n m).length ≤ n := by
 unfold alignR ip
 rw [lLm, zCv]
 exact RP_len (back_spec (c := c) n m).1
theorem few12_notes {s : Score} (h : few12 s = true) : s.bars.length ≤ 12 ∧ s.notes.length ≤ 60 := by
 unfold few12 at h
 simp only [zA0, dEt] at h
 omega
theorem notesR_best {a b : Score} (ha : scoreOk a = true) (hb : scoreOk b = true) {x : Algn} (hx : x.pairs = alignR (costR a b) a.bars.length b.bars.length) : notesR a b x = (notesM a b (np (alignR (costR a b) a.bars.length b.bars.length)), 0) := by
 unfold notesR
 rw [hx, ha, hb, (alignR_ok (costR a b) a.bars.length b.bars.length).1]; rfl
theorem map_getD' {α β : Type} [Inhabited α] [Inhabited β] (f : α → β) {l : List α} {k : Nat} (h : k < l.length) : (l.map f).getD k default = f (l.getD k default) := by
 rw [getD_lt (by rw [lLm]; exact h), List.getElem_map, getD_lt h]
end Go.Proofs.YtekfpcgagoidcaaGreatDoor.Al
namespace Go.Ab
theorem PRun.lookupA {P : Program} {o : Oper} {env : Env} {σ : Store} {κ α : Type} [DecidableEq κ] {ek : κ → Value} {ev : α → AV} {t kt et : TypeId} {m x : Operand} {al : List (κ × α)} {key : κ} {zv : α} {uk um : AV} {ok : Bool} {s1 b1 : Nat} {z : List Z} {le : LI} {r : Option α} (h : lk al key = r)
 (K : KeyLaw P kt ek) (hl : LOk P t ⟨.map kt et, s1, b1, z⟩) (he : LOk P et le) (hz : zeroAV le = ev zv) (ho : o.op = .lookup t m x ok) (hm : Rd env m um)
 (hum : um = .imap (encM ek ev al) ∨ ∃ l, um = .map l ∧ σ[l]? = some (.map (encM ek ev al)))
 (hx : Rd env x uk) (hex : exactV uk = some (ek key)) : PRun P o env σ (if ok then .tup [ev (r.getD zv), .b r.isSome] else ev (r.getD zv)) := h ▸ PRun.lookup K hl he hz ho hm hum hx hex
def insL {κ α : Type} [DecidableEq κ] (al l : List (κ × α)) : List (κ × α) := l.foldl (fun al p => ins al p.1 p.2) al
theorem insL_snoc {κ α : Type} [DecidableEq κ] (al l : List (κ × α)) (p : κ × α) : insL al (l ++ [p]) = ins (insL al l) p.1 p.2 := by unfold insL; rw [zBy]; rfl
theorem lk_insL {κ α : Type} [DecidableEq κ] : ∀ (l al : List (κ × α)) (k : κ), (∀ p ∈ l, p.1 ≠ k) → lk (insL al l) k = lk al k
 | [], _, _, _ => rfl
 | p :: l, al, k, h => by
   show lk (insL (ins al p.1 p.2) l) k = _
   rw [lk_insL l _ k fun q hq => h q (zAm _ hq), Go.Proofs.YtekfpcgagoidcaaGreatDoor.lk_ins', if_neg (h p (zAp ..))]
theorem lk_insL_mem {κ α : Type} [DecidableEq κ] : ∀ {l al : List (κ × α)} {k : κ} {v : α}, (l.map (·.1)).Nodup → (k, v) ∈ l → lk (insL al l) k = some v
 | [], _, _, _, _, h => by cases h
 | p :: l, al, k, v, hn, h => by
   rw [zBk, zCe] at hn
   rcases zB6.1 h with h | h
   · subst h
     show lk (insL (ins al k v) l) k = _
     rw [lk_insL l _ k fun q hq e => hn.1 (zAu.2 ⟨q, hq, e⟩), Go.Proofs.YtekfpcgagoidcaaGreatDoor.lk_ins', if_pos rfl]
   · exact lk_insL_mem (l := l) hn.2 h
theorem lk_insL_some {κ α : Type} [DecidableEq κ] {l : List (κ × α)} {k : κ} {v : α} : ∀ {al : List (κ × α)}, lk (insL al l) k = some v → lk al k = some v ∨ (k, v) ∈ l := by
 induction l with
 | nil => intro al h; exact .inl h
 | cons p l ih =>
   intro al h
   rcases ih (al := ins al p.1 p.2) h with h | h
   · rw [Go.Proofs.YtekfpcgagoidcaaGreatDoor.lk_ins'] at h
     split at h
     · rename_i e
       cases h
       exact .inr (by rw [← e]; exact zAp ..)
     · exact .inl h
   · exact .inr (zAm _ h)
end Go.Ab
namespace Go.Proofs.YtekfpcgagoidcaaGreatDoor.Al
open Go.Ab Go.Sort
attribute [local irreducible] AWP AOps EStep AQ PStep PRun PCall TCall VCall
end Go.Proofs.YtekfpcgagoidcaaGreatDoor.Al
