/- Contracts by content: align: Bars.  Alignments in plain words: the example's. No statement is proved here. -/
import Derived.Test.YtekfpcgagoidcaaGreatDoorQ22
import Derived.Test.YtekfpcgagoidcaaGreatDoorQ23
import Derived.Test.YtekfpcgagoidcaaGreatDoorQ25
import Derived.Test.YtekfpcgagoidcaaGreatDoorQ27
set_option linter.unusedVariables false
set_option linter.unusedSimpArgs false
namespace Go.Ab
def isPrA : AV → Bool
  | .prim _ => true
  | _ => false
theorem pureA {es : List (List AV)} (h : es.all (fun x => x.all isPrA) = true) : ∀ e ∈ es, ∀ a ∈ e, ∀ M B x, VRel M B a x → VRel M [] a x := fun e he a ha M B x hx => by
  have h1 := List.all_eq_true.1 (List.all_eq_true.1 h e he) a ha
  cases a <;> simp [isPrA] at h1
  rw [VRel.prim_eq hx]; exact .prim _
end Go.Ab
namespace Go.Proofs.YtekfpcgagoidcaaGreatDoor.Al
open Go.Ab Go.Sort
attribute [local irreducible] AWP AOps EStep AQ PStep PRun PCall TCall VCall
theorem encPr_pr (l : PL) : (l.map encPr).all (fun x => x.all isPrA) = true := by
  rw [List.all_map]; exact List.all_eq_true.2 fun p _ => rfl
theorem one_encPr (l : PL) : ∀ x ∈ l.map encPr, x.all oneAV = true := fun x hx => by
  obtain ⟨p, _, rfl⟩ := List.mem_map.1 hx; rfl
def noA : Algn := ⟨[], 0, []⟩
def cellI (x : Int) (k : Nat) : AObj := match k with | 0 => .arr 1 0 [] | 1 => .arr 1 1 [[.int 0]] | _ => .arr 1 1 [[.int x]]
def cellsI (σ : Store) (x y : Int) (j k : Nat) : Store := σ ++ [cellI x j, cellI y k]
def BM0 (a b : Score) (al : NL) (kn : KL) : Store := PairS (BO a b).1 (BO a b).2.1 (BO a b).2.2 a b al kn ++ [.var [.ptr 7 0], .var [tabA a b]]
theorem entNoA (c : Int) : Ent (.agg [.nils, .int c, .nils]) (.agg [.sl 2 [] .no, .int c, .sl 1 [] .no]) := Ent.agg rfl fun i u v hu hv => by
  match i, hu, hv with
  | 0, hu, hv => cases hu; cases hv; exact Ent.nil
  | 1, hu, hv => cases hu; cases hv; exact Ent.rfl' _
  | 2, hu, hv => cases hu; cases hv; exact Ent.nil
  | i + 3, hu, hv => cases hu
def longB (a b : Score) : Prop := a.bars.length > 200 ∨ b.bars.length > 200
instance (a b : Score) : Decidable (longB a b) := by unfold longB; infer_instance
def bestA (a b : Score) : Algn := ⟨alignR (costR a b) a.bars.length b.bars.length, T (costR a b) a.bars.length b.bars.length, tableL (costR a b) (a.bars.length + 1) (b.bars.length + 1)⟩
def barsR (a b : Score) : Algn × Int := if scoreOk a = true ∧ scoreOk b = true then (if longB a b then (noA, 2) else (bestA a b, 0)) else (noA, 1)
def pBS (a b : Score) (al : NL) (kn : KL) (i k : Nat) (acc : PL) : Nat → AObj := fun j => (BS a b al kn i k acc).getD j .dead
theorem pBS_ok (a b : Score) (al : NL) (kn : KL) (i k : Nat) (acc : PL) : ∀ j, okObj 14 (pBS a b al kn i k acc j) = true := fun j => by
  have h := BS_ok a b al kn i k acc
  rw [List.all_eq_true] at h
  unfold pBS
  rw [List.getD_eq_getElem?_getD]
  cases hh : (BS a b al kn i k acc)[j]? with
  | none => rfl
  | some v => exact h v (List.mem_of_getElem? hh)
theorem reverseP_spec {p : Nat → AObj} (hp : ∀ i, okObj 14 (p i) = true) (l : PL) (hl : l.length ≤ 1000000) :
    TCall Tryz.prog 50 [pcell l] (RS p l.length l) (fun r s => r = .tup [] ∧ s = RS p l.length l.reverse) := by
  cases l with
  | nil => exact reverse0_spec hp 0
  | cons x l => exact reverse_spec hp _ (x :: l) hl
theorem align_rev (c : Nat → Nat → Int) (n m : Nat) : (ip (back c n m)).reverse = alignR c n m := by unfold alignR ip; rw [List.map_reverse]
set_option maxHeartbeats 16000000 in
set_option maxRecDepth 20000 in
theorem aBars_spec (a b : Score) (ha : a.Small) (hb : b.Small) : PCall Tryz.prog 19 [.agg (encS a), .agg (encS b)] (.tup [.agg (encA (barsR a b).1), .int (barsR a b).2]) := by
  have ha1 := ha.1
  have hb1 := hb.1
  have hv0 := TCall.val (first := []) (caps := []) (avs := [.agg (encS a), .agg (encS b)]) (newPair_spec (BO_ok a b) a b ha hb)
  have hp2 := fun u v => isLong_spec a b u v ha hb
  refine PCall.bodyS tabOk Tryz.func19 rfl rfl Tryz.ntmps19 rfl ?_
  repeat' (first | refine AOps.q rfl rfl rfl (fun hg => by exact std0) (by exact rfl) ?_ | refine AWP.seq ?_ | refine AWP.regionK (fun K' hK => ?_) | (refine AOps.nil (hK _ _ ?_); clear hK K') | refine AOps.e (EStep.boxW rfl rfl rfl rfl rfl True.intro rfl rfl ?_) | refine AOps.e (EStep.allocW tabOk rfl rfl rfl rfl rfl rfl ?_) | refine AOps.e (EStep.callT (hv0) rfl rfl rfl rfl rfl nd rfl rfl nds ?_))
  intro r s hr
  unfold npR at hr
  split at hr
  · rename_i hok
    obtain ⟨rfl, al, hg, rfl⟩ := hr
    simp only [Bool.and_eq_true] at hok
    have hna := ok_nts hok.1
    have hnb := ok_nts hok.2
    have hna1 := hna.bars
    have hR : barsR a b = if longB a b then (noA, 2) else (bestA a b, 0) := if_pos hok
    have hvT := TCall.val (first := []) (caps := []) (avs := [.ptr 7 0]) (TCall.frame (table_spec (BO_ok a b) hna hnb hg (KnOk.nil a b)) [.var [.ptr 7 0]] (pairS_ok (BO_ok a b) (Nat.le_refl _) a b al _) rfl (fun rv s h => by obtain ⟨_, kn, _, h⟩ := h; rw [h]; rfl))
    repeat' (first | refine AOps.q rfl rfl rfl (fun hg => by first | exact std0 | exact PRun.callBW (hp2 _ _) rfl rfl nd rfl rfl nds | exact PRun.buildW tabOk rfl rfl nds) (by exact rfl) ?_ | refine AWP.seq ?_ | refine AWP.regionK (fun K' hK => ?_) | (refine AOps.nil (hK _ _ ?_); clear hK K') | refine AOps.e (EStep.storeW tabOk rfl rfl rfl True.intro rfl rfl True.intro rfl rfl rfl rfl rfl rfl rfl ?_) | refine AOps.e (EStep.allocW tabOk rfl rfl rfl rfl rfl rfl ?_) | refine AOps.e (EStep.callT (hvT) rfl rfl rfl rfl rfl nd rfl rfl nds ?_) | (refine AWP.condW rfl True.intro (fun hc => ?_) (fun hc => ?_) <;> (first | (simp only [dEt] at hc) | (simp only [dEf, iNl, iNe] at hc) | skip)) | refine AWP.block ?_ | refine AWP.skip ?_ | refine AWP.ret ?_)
    all_goals (first | (exfalso; omega) | (exfalso; simp at hc; done) | (exfalso; simp at hc; omega) | (exfalso; simp only [dEf, dEt] at hc; omega) | (rename_i h0; exfalso; simp at h0; done) | (rename_i h0; exfalso; simp at h0; omega) | skip)
    · rw [hR, if_pos (by simp only [Int.toNat_natCast, Bool.or_eq_true, Bool.and_eq_true, Bool.or_eq_false_iff, Bool.and_eq_false_iff, dEt, dEf, Bool.not_eq_true', Bool.not_eq_false', beq_iff_eq, beq_eq_false_iff_ne, bne_iff_ne, bne_eq_false_iff_eq, gt_iff_lt, ge_iff_le, ne_eq] at hc; exact hc)]
      exact ⟨.inr rfl, _, rfl, Ent.tup2 (entNoA 0) (Ent.rfl' _)⟩
    have hlg : ¬ longB a b := by unfold longB; simp only [Int.toNat_natCast, Bool.or_eq_true, Bool.and_eq_true, Bool.or_eq_false_iff, Bool.and_eq_false_iff, dEt, dEf, Bool.not_eq_true', Bool.not_eq_false', beq_iff_eq, beq_eq_false_iff_ne, bne_iff_ne, bne_eq_false_iff_eq, gt_iff_lt, ge_iff_le, ne_eq] at hc; omega
    rw [if_neg hlg] at hR
    clear hc hvT hp2
    rintro _ _ ⟨σ', rfl, rfl, kn, hkn, rfl⟩
    have l1 := tableL_len (costR a b) (a.bars.length + 1) (b.bars.length + 1)
    repeat' (first | refine AWP.seq ?_ | (refine AOps.nil (hK _ _ ?_); clear hK K') | refine AOps.e (EStep.storeW tabOk rfl rfl rfl True.intro rfl rfl True.intro rfl rfl rfl rfl rfl rfl rfl ?_) | refine AOps.e (EStep.allocW tabOk rfl rfl rfl rfl rfl rfl ?_))
    refine AWP.newArr 1 (AWP.newArr 1 ?_)
    refine AWP.drawV 2 (clsT [9, 10]) (fun J => cellsI (BM0 a b al kn) a.bars.length b.bars.length (J 1) (J 2)) rfl (by kernel_rfl) (by decide +kernel) rfl (by decide +kernel) (fun K' hK => ?_)
    repeat' (first
      | refine VQ.q rfl (by decide +kernel) rfl rfl (fun J' hg => by first | exact std0 | exact std1) (by exact rfl) ?_)
    refine VQ.e 1 0 (v := .eptr 10 1 0 0 1) (d := some 9) rfl (by decide +kernel) rfl ?_ ?_
    · intro env' he J' hJ
      show EStep _ _ _ _ (fun e s => _ ∧ s = cellsI _ _ _ (J' 1 + 1) (J' 2)) env' (cellsI _ _ _ (J' 1) (J' 2))
      rw [hJ]
      exact EStep.allocArr (l := 10) (sz := 1) tabOk rfl rfl rfl rfl rfl rfl rfl rfl ⟨rfl, rfl⟩
    refine VQ.e 2 0 (v := .eptr 11 1 0 0 1) (d := some 10) rfl (by decide +kernel) rfl ?_ ?_
    · intro env' he J' hJ
      show EStep _ _ _ _ (fun e s => _ ∧ s = cellsI _ _ _ (J' 1) (J' 2 + 1)) env' (cellsI _ _ _ (J' 1) (J' 2))
      rw [hJ]
      exact EStep.allocArr (l := 11) (sz := 1) tabOk rfl rfl rfl rfl rfl rfl rfl rfl ⟨rfl, rfl⟩
    refine VQ.e 1 1 (v := .any) (d := none) rfl (by decide +kernel) rfl ?_ ?_
    · intro env' he J' hJ
      show EStep _ _ _ _ (fun e s => _ ∧ s = cellsI _ _ _ (J' 1 + 1) (J' 2)) env' (cellsI _ _ _ (J' 1) (J' 2))
      rw [hJ]
      exact EStep.storeE (l := 10) tabOk rfl rfl ((rdv_congr (he 9 (by decide +kernel))).trans rfl) (by rw [rdn_congr (he 9 (by decide +kernel))]; first | exact True.intro | exact rfl) rfl (Nat.succ_pos _) ((rdv_congr (he 31 (by decide +kernel))).trans rfl) (by rw [rdn_congr (he 31 (by decide +kernel))]; first | exact True.intro | exact rfl) rfl rfl rfl rfl rfl rfl ⟨rfl, rfl⟩
    refine VQ.e 2 1 (v := .any) (d := none) rfl (by decide +kernel) rfl ?_ ?_
    · intro env' he J' hJ
      show EStep _ _ _ _ (fun e s => _ ∧ s = cellsI _ _ _ (J' 1) (J' 2 + 1)) env' (cellsI _ _ _ (J' 1) (J' 2))
      rw [hJ]
      exact EStep.storeE (l := 11) tabOk rfl rfl ((rdv_congr (he 10 (by decide +kernel))).trans rfl) (by rw [rdn_congr (he 10 (by decide +kernel))]; first | exact True.intro | exact rfl) rfl (Nat.succ_pos _) ((rdv_congr (he 34 (by decide +kernel))).trans rfl) (by rw [rdn_congr (he 34 (by decide +kernel))]; first | exact True.intro | exact rfl) rfl rfl rfl rfl rfl rfl ⟨rfl, rfl⟩
    refine VQ.nil (hK _ _ ?_)
    clear hK K'
    show AWP _ _ _ _ _ (cellsI (BM0 a b al kn) a.bars.length b.bars.length 2 2)
    refine AWP.keep [(2, .ptr 0 0), (3, .ptr 1 0), (4, .ptr 2 0), (6, .ptr 8 0), (8, .ptr 9 0), (9, .eptr 10 1 0 0 1), (10, .eptr 11 1 0 0 1)] ⟨rfl, rfl, rfl, rfl, rfl, rfl, rfl, True.intro⟩ ?_
    repeat' (first | refine AWP.seq ?_)
    refine AWP.drawYM effOp (fun q => match q with | 0 => cellsI (BM0 a b al kn) a.bars.length b.bars.length 2 2 | 1 => cellsI (BM0 a b al kn) a.bars.length b.bars.length 2 2 ++ [.var [.nils, .int 0, .nils]] | _ => cellsI (BM0 a b al kn) a.bars.length b.bars.length 2 2 ++ [.var [.nils, .int (T (costR a b) a.bars.length b.bars.length), tabA a b]]) rfl (by kernel_rfl) (by decide +kernel) rfl (by decide +kernel) (fun K' hK => ?_)
    repeat' (first
      | refine YQ.q (a := 0) (b := 0) rfl (by decide +kernel) (by decide +kernel) rfl rfl rfl (fun k h1 h2 hg => by (have hk : k = 0 := (by omega)); (rcases hk with rfl) <;> (first | exact iX encI (rowL (costR a b) a.bars.length (b.bars.length + 1)) ((b.bars.length : Nat) : Int) (x := T (costR a b) a.bars.length b.bars.length) (rowL_get (by omega) _) (hb := by rw [rowL_len]; omega) | exact iX encRow (tableL (costR a b) (a.bars.length + 1) (b.bars.length + 1)) ((a.bars.length : Nat) : Int) (x := rowL (costR a b) a.bars.length (b.bars.length + 1)) (tableL_get (by omega) _) (hb := by rw [l1]; omega) | exact std0 | exact PRun.loadE tabOk rfl rfl nd rfl (Nat.succ_pos _) rfl rfl rfl | exact PRun.buildW tabOk rfl rfl nds | exact std1)) (by exact rfl) ?_
      | refine YQ.q (a := 0) (b := 1) rfl (by decide +kernel) (by decide +kernel) rfl rfl rfl (fun k h1 h2 hg => by (have hk : k = 0 ∨ k = 1 := (by omega)); (rcases hk with rfl | rfl) <;> (first | exact iX encI (rowL (costR a b) a.bars.length (b.bars.length + 1)) ((b.bars.length : Nat) : Int) (x := T (costR a b) a.bars.length b.bars.length) (rowL_get (by omega) _) (hb := by rw [rowL_len]; omega) | exact iX encRow (tableL (costR a b) (a.bars.length + 1) (b.bars.length + 1)) ((a.bars.length : Nat) : Int) (x := rowL (costR a b) a.bars.length (b.bars.length + 1)) (tableL_get (by omega) _) (hb := by rw [l1]; omega) | exact std0 | exact PRun.loadE tabOk rfl rfl nd rfl (Nat.succ_pos _) rfl rfl rfl | exact PRun.buildW tabOk rfl rfl nds | exact std1)) (by exact rfl) ?_
      | refine YQ.q (a := 1) (b := 1) rfl (by decide +kernel) (by decide +kernel) rfl rfl rfl (fun k h1 h2 hg => by (have hk : k = 1 := (by omega)); (rcases hk with rfl) <;> (first | exact iX encI (rowL (costR a b) a.bars.length (b.bars.length + 1)) ((b.bars.length : Nat) : Int) (x := T (costR a b) a.bars.length b.bars.length) (rowL_get (by omega) _) (hb := by rw [rowL_len]; omega) | exact iX encRow (tableL (costR a b) (a.bars.length + 1) (b.bars.length + 1)) ((a.bars.length : Nat) : Int) (x := rowL (costR a b) a.bars.length (b.bars.length + 1)) (tableL_get (by omega) _) (hb := by rw [l1]; omega) | exact std0 | exact PRun.loadE tabOk rfl rfl nd rfl (Nat.succ_pos _) rfl rfl rfl | exact PRun.buildW tabOk rfl rfl nds | exact std1)) (by exact rfl) ?_
      | refine YQ.q (a := 0) (b := 2) rfl (by decide +kernel) (by decide +kernel) rfl rfl rfl (fun k h1 h2 hg => by (have hk : k = 0 ∨ k = 1 ∨ k = 2 := (by omega)); (rcases hk with rfl | rfl | rfl) <;> (first | exact iX encI (rowL (costR a b) a.bars.length (b.bars.length + 1)) ((b.bars.length : Nat) : Int) (x := T (costR a b) a.bars.length b.bars.length) (rowL_get (by omega) _) (hb := by rw [rowL_len]; omega) | exact iX encRow (tableL (costR a b) (a.bars.length + 1) (b.bars.length + 1)) ((a.bars.length : Nat) : Int) (x := rowL (costR a b) a.bars.length (b.bars.length + 1)) (tableL_get (by omega) _) (hb := by rw [l1]; omega) | exact std0 | exact PRun.loadE tabOk rfl rfl nd rfl (Nat.succ_pos _) rfl rfl rfl | exact PRun.buildW tabOk rfl rfl nds | exact std1)) (by exact rfl) ?_
      | refine YQ.q (a := 1) (b := 2) rfl (by decide +kernel) (by decide +kernel) rfl rfl rfl (fun k h1 h2 hg => by (have hk : k = 1 ∨ k = 2 := (by omega)); (rcases hk with rfl | rfl) <;> (first | exact iX encI (rowL (costR a b) a.bars.length (b.bars.length + 1)) ((b.bars.length : Nat) : Int) (x := T (costR a b) a.bars.length b.bars.length) (rowL_get (by omega) _) (hb := by rw [rowL_len]; omega) | exact iX encRow (tableL (costR a b) (a.bars.length + 1) (b.bars.length + 1)) ((a.bars.length : Nat) : Int) (x := rowL (costR a b) a.bars.length (b.bars.length + 1)) (tableL_get (by omega) _) (hb := by rw [l1]; omega) | exact std0 | exact PRun.loadE tabOk rfl rfl nd rfl (Nat.succ_pos _) rfl rfl rfl | exact PRun.buildW tabOk rfl rfl nds | exact std1)) (by exact rfl) ?_
      | refine YQ.q (a := 2) (b := 2) rfl (by decide +kernel) (by decide +kernel) rfl rfl rfl (fun k h1 h2 hg => by (have hk : k = 2 := (by omega)); (rcases hk with rfl) <;> (first | exact iX encI (rowL (costR a b) a.bars.length (b.bars.length + 1)) ((b.bars.length : Nat) : Int) (x := T (costR a b) a.bars.length b.bars.length) (rowL_get (by omega) _) (hb := by rw [rowL_len]; omega) | exact iX encRow (tableL (costR a b) (a.bars.length + 1) (b.bars.length + 1)) ((a.bars.length : Nat) : Int) (x := rowL (costR a b) a.bars.length (b.bars.length + 1)) (tableL_get (by omega) _) (hb := by rw [l1]; omega) | exact std0 | exact PRun.loadE tabOk rfl rfl nd rfl (Nat.succ_pos _) rfl rfl rfl | exact PRun.buildW tabOk rfl rfl nds | exact std1)) (by exact rfl) ?_)
    refine YQ.e (v := .ptr 12 0) (d := some 11) rfl rfl rfl ?_ ?_
    · intro env' he
      exact EStep.allocW tabOk rfl rfl rfl rfl rfl rfl ⟨rfl, rfl⟩
    repeat' (first
      | refine YQ.q (a := 0) (b := 0) rfl (by decide +kernel) (by decide +kernel) rfl rfl rfl (fun k h1 h2 hg => by (have hk : k = 0 := (by omega)); (rcases hk with rfl) <;> (first | exact std0 | exact std1)) (by exact rfl) ?_
      | refine YQ.q (a := 0) (b := 1) rfl (by decide +kernel) (by decide +kernel) rfl rfl rfl (fun k h1 h2 hg => by (have hk : k = 0 ∨ k = 1 := (by omega)); (rcases hk with rfl | rfl) <;> (first | exact std0 | exact std1)) (by exact rfl) ?_
      | refine YQ.q (a := 1) (b := 1) rfl (by decide +kernel) (by decide +kernel) rfl rfl rfl (fun k h1 h2 hg => by (have hk : k = 1 := (by omega)); (rcases hk with rfl) <;> (first | exact std0 | exact std1)) (by exact rfl) ?_
      | refine YQ.q (a := 0) (b := 2) rfl (by decide +kernel) (by decide +kernel) rfl rfl rfl (fun k h1 h2 hg => by (have hk : k = 0 ∨ k = 1 ∨ k = 2 := (by omega)); (rcases hk with rfl | rfl | rfl) <;> (first | exact std0 | exact std1)) (by exact rfl) ?_
      | refine YQ.q (a := 1) (b := 2) rfl (by decide +kernel) (by decide +kernel) rfl rfl rfl (fun k h1 h2 hg => by (have hk : k = 1 ∨ k = 2 := (by omega)); (rcases hk with rfl | rfl) <;> (first | exact std0 | exact std1)) (by exact rfl) ?_
      | refine YQ.q (a := 2) (b := 2) rfl (by decide +kernel) (by decide +kernel) rfl rfl rfl (fun k h1 h2 hg => by (have hk : k = 2 := (by omega)); (rcases hk with rfl) <;> (first | exact std0 | exact std1)) (by exact rfl) ?_)
    refine YQ.e (v := .any) (d := none) rfl rfl rfl ?_ ?_
    · intro env' he
      exact EStep.storeW tabOk rfl rfl ((rdv_congr (he 11 (by decide +kernel))).trans rfl) (by rw [rdn_congr (he 11 (by decide +kernel))]; first | exact True.intro | exact rfl) rfl ((rdv_congr (he 43 (by decide +kernel))).trans rfl) (by rw [rdn_congr (he 43 (by decide +kernel))]; first | exact True.intro | exact rfl) rfl rfl rfl rfl rfl rfl rfl ⟨rfl, rfl⟩
    repeat' (first
      | refine YQ.q (a := 0) (b := 0) rfl (by decide +kernel) (by decide +kernel) rfl rfl rfl (fun k h1 h2 hg => by (have hk : k = 0 := (by omega)); (rcases hk with rfl) <;> (first | exact std0 | exact std1)) (by exact rfl) ?_
      | refine YQ.q (a := 0) (b := 1) rfl (by decide +kernel) (by decide +kernel) rfl rfl rfl (fun k h1 h2 hg => by (have hk : k = 0 ∨ k = 1 := (by omega)); (rcases hk with rfl | rfl) <;> (first | exact std0 | exact std1)) (by exact rfl) ?_
      | refine YQ.q (a := 1) (b := 1) rfl (by decide +kernel) (by decide +kernel) rfl rfl rfl (fun k h1 h2 hg => by (have hk : k = 1 := (by omega)); (rcases hk with rfl) <;> (first | exact std0 | exact std1)) (by exact rfl) ?_
      | refine YQ.q (a := 0) (b := 2) rfl (by decide +kernel) (by decide +kernel) rfl rfl rfl (fun k h1 h2 hg => by (have hk : k = 0 ∨ k = 1 ∨ k = 2 := (by omega)); (rcases hk with rfl | rfl | rfl) <;> (first | exact std0 | exact std1)) (by exact rfl) ?_
      | refine YQ.q (a := 1) (b := 2) rfl (by decide +kernel) (by decide +kernel) rfl rfl rfl (fun k h1 h2 hg => by (have hk : k = 1 ∨ k = 2 := (by omega)); (rcases hk with rfl | rfl) <;> (first | exact std0 | exact std1)) (by exact rfl) ?_
      | refine YQ.q (a := 2) (b := 2) rfl (by decide +kernel) (by decide +kernel) rfl rfl rfl (fun k h1 h2 hg => by (have hk : k = 2 := (by omega)); (rcases hk with rfl) <;> (first | exact std0 | exact std1)) (by exact rfl) ?_)
    refine YQ.nil (hK _ _ ?_)
    clear hK K'
    show AWP _ _ _ _ _ (cellsI (BM0 a b al kn) a.bars.length b.bars.length 2 2 ++ [.var [.nils, .int (T (costR a b) a.bars.length b.bars.length), tabA a b]])
    repeat' (first | refine AOps.q rfl rfl rfl (fun hg => by exact std0) (by exact rfl) ?_ | refine AWP.seq ?_ | refine AWP.regionK (fun K' hK => ?_) | (refine AOps.nil (hK _ _ ?_); clear hK K') | refine AWP.block ?_)
    refine AWP.arrNilV (v := 12) (i := 0) (sz := 2) rfl rfl ?_
    refine AWP.loopD (ι := KL × Nat × Nat × PL) (fun _ => [(4, .ptr 2 0), (9, .eptr 10 1 0 0 1), (10, .eptr 11 1 0 0 1), (11, .ptr 12 0), (12, .fn (.func 49) [] [.eptr 10 1 0 0 1, .eptr 11 1 0 0 1, .ptr 9 0, .ptr 8 0, .ptr 12 0])]) (fun q => BS a b al q.1 q.2.1 q.2.2.1 q.2.2.2)
      (fun q => KnOk a b q.1 ∧ q.2.1 ≤ a.bars.length ∧ q.2.2.1 ≤ b.bars.length ∧ q.2.2.2.length + q.2.1 ≤ a.bars.length ∧ q.2.2.2 ++ ip (back (costR a b) q.2.1 q.2.2.1) = ip (back (costR a b) a.bars.length b.bars.length)) (fun q => q.2.1 + q.2.2.1) 14 (fun _ => rfl) (kn, a.bars.length, b.bars.length, []) ⟨hkn, Nat.le_refl _, Nat.le_refl _, by simp, rfl⟩ ⟨rfl, rfl, rfl, rfl, rfl, True.intro⟩ rfl (fun _ _ => rfl) (fun q _ => BS_ok a b al _ _ _ _) ?_
    rintro ⟨kn1, i, k, acc⟩ ⟨hk1, hi, hk, hacc, hbk⟩
    dsimp only at hk1 hi hk hacc hbk
    by_cases h0 : i = 0 ∧ k = 0
    · obtain ⟨rfl, rfl⟩ := h0
      rw [back_nil, show ip [] = [] from rfl, List.append_nil] at hbk
      have hrv := TCall.val (first := []) (caps := []) (avs := [pcell acc]) (reverseP_spec (pBS_ok a b al kn1 0 0 acc) acc (by omega))
      have hrev : acc.reverse = alignR (costR a b) a.bars.length b.bars.length := by rw [hbk]; exact align_rev _ _ _
      clear hbk
      cases acc with
      | nil =>
        repeat' (first | refine AOps.q rfl rfl rfl (fun hg => by first | exact std0 | exact PRun.loadE tabOk rfl rfl nd rfl (Nat.succ_pos _) rfl rfl rfl) (by exact rfl) ?_ | refine AWP.seq ?_ | refine AWP.regionK (fun K' hK => ?_) | (refine AOps.nil (hK _ _ ?_); clear hK K') | refine AOps.e (EStep.callT (hrv) rfl rfl rfl rfl rfl nd rfl rfl nds ?_) | (refine AWP.condW rfl True.intro (fun hc => ?_) (fun hc => ?_) <;> (first | (simp only [dEt] at hc) | (simp only [dEf, iNl, iNe] at hc) | skip)) | refine AWP.block ?_ | refine AWP.exit ?_ | refine AWP.skip ?_)
        all_goals (first | (exfalso; omega) | (exfalso; simp at hc; done) | (exfalso; simp at hc; omega) | (exfalso; simp only [dEf, dEt] at hc; omega) | (rename_i h0; exfalso; simp at h0; done) | (rename_i h0; exfalso; simp at h0; omega) | skip)
        rintro _ _ ⟨rfl, rfl⟩
        repeat' (first | refine AOps.q rfl rfl rfl (fun hg => by exact std0) (by exact rfl) ?_ | refine AWP.seq ?_ | refine AWP.regionK (fun K' hK => ?_) | (refine AOps.nil (hK _ _ ?_); clear hK K') | refine AOps.e (EStep.storeW tabOk rfl rfl rfl True.intro rfl rfl True.intro rfl rfl rfl rfl rfl rfl rfl ?_) | refine AWP.ret ?_)
        rw [hR]
        refine ⟨.inr rfl, _, rfl, Ent.of ?_⟩
        unfold bestA
        rw [← hrev]; rfl
      | cons x acc =>
        repeat' (first | refine AOps.q rfl rfl rfl (fun hg => by first | exact std0 | exact PRun.loadE tabOk rfl rfl nd rfl (Nat.succ_pos _) rfl rfl rfl) (by exact rfl) ?_ | refine AWP.seq ?_ | refine AWP.regionK (fun K' hK => ?_) | (refine AOps.nil (hK _ _ ?_); clear hK K') | refine AOps.e (EStep.callT (hrv) rfl rfl rfl rfl rfl nd rfl rfl nds ?_) | (refine AWP.condW rfl True.intro (fun hc => ?_) (fun hc => ?_) <;> (first | (simp only [dEt] at hc) | (simp only [dEf, iNl, iNe] at hc) | skip)) | refine AWP.block ?_ | refine AWP.exit ?_ | refine AWP.skip ?_)
        all_goals (first | (exfalso; omega) | (exfalso; simp at hc; done) | (exfalso; simp at hc; omega) | (exfalso; simp only [dEf, dEt] at hc; omega) | (rename_i h0; exfalso; simp at h0; done) | (rename_i h0; exfalso; simp at h0; omega) | skip)
        rintro _ _ ⟨rfl, rfl⟩
        refine AOps.nil (hK _ _ ?_)
        clear hK K'
        show AWP _ _ _ _ _ _
        refine AWP.freezeAV (l := 13) (sz := 2) (ver := (x :: acc).length) (es := (x :: acc).reverse.map encPr) rfl ?_ ?_
        · exact pureA (encPr_pr _)
        refine AWP.keep [(4, .ptr 2 0), (11, .ptr 12 0)] ⟨rfl, rfl, True.intro⟩ ?_
        have hcell : frzA 13 2 (x :: acc).length ((x :: acc).reverse.map encPr) (pcell (x :: acc)) = .sl 2 ((x :: acc).reverse.map encPr) .no := by
          unfold pcell frzA
          dsimp only
          rw [if_pos ⟨rfl, rfl, rfl, by rw [List.length_map, List.length_reverse], rfl⟩]
        show AWP _ _ _ _ _ [frzAO 13 2 (x :: acc).length ((x :: acc).reverse.map encPr) (pBS a b al kn1 0 0 (x :: acc) 0), frzAO 13 2 (x :: acc).length ((x :: acc).reverse.map encPr) (pBS a b al kn1 0 0 (x :: acc) 1), .var [.nils, .int 0, .nils], frzAO 13 2 (x :: acc).length ((x :: acc).reverse.map encPr) (pBS a b al kn1 0 0 (x :: acc) 3), frzAO 13 2 (x :: acc).length ((x :: acc).reverse.map encPr) (pBS a b al kn1 0 0 (x :: acc) 4), frzAO 13 2 (x :: acc).length ((x :: acc).reverse.map encPr) (pBS a b al kn1 0 0 (x :: acc) 5), frzAO 13 2 (x :: acc).length ((x :: acc).reverse.map encPr) (pBS a b al kn1 0 0 (x :: acc) 6), frzAO 13 2 (x :: acc).length ((x :: acc).reverse.map encPr) (pBS a b al kn1 0 0 (x :: acc) 7), frzAO 13 2 (x :: acc).length ((x :: acc).reverse.map encPr) (pBS a b al kn1 0 0 (x :: acc) 8), frzAO 13 2 (x :: acc).length ((x :: acc).reverse.map encPr) (pBS a b al kn1 0 0 (x :: acc) 9), frzAO 13 2 (x :: acc).length ((x :: acc).reverse.map encPr) (pBS a b al kn1 0 0 (x :: acc) 10), frzAO 13 2 (x :: acc).length ((x :: acc).reverse.map encPr) (pBS a b al kn1 0 0 (x :: acc) 11), .var [frzA 13 2 (x :: acc).length ((x :: acc).reverse.map encPr) (pcell (x :: acc)), .int (T (costR a b) a.bars.length b.bars.length), tabA a b], .dead]
        rw [hcell]
        repeat' (first | refine AOps.q rfl rfl rfl (fun hg => by exact std0) (by exact rfl) ?_ | refine AWP.seq ?_ | refine AWP.regionK (fun K' hK => ?_) | (refine AOps.nil (hK _ _ ?_); clear hK K') | refine AOps.e (EStep.storeW tabOk rfl rfl rfl True.intro rfl rfl True.intro rfl rfl rfl rfl rfl rfl rfl ?_) | refine AWP.ret ?_)
        rw [hR]
        refine ⟨.inr rfl, _, rfl, Ent.of ?_⟩
        unfold bestA
        rw [← hrev]; rfl
    · have hst : TCall Tryz.prog 49 [.eptr 10 1 0 0 1, .eptr 11 1 0 0 1, .ptr 9 0, .ptr 8 0, .ptr 12 0] (BS a b al kn1 i k acc) (stepQ a b al i k acc) := by
        cases i with
        | zero =>
          cases k with
          | zero => exact absurd ⟨rfl, rfl⟩ h0
          | succ k => exact step_side hna hnb hg hk1 hk acc
        | succ i =>
          cases k with
          | zero => exact step_up hna hnb hg hk1 hi acc
          | succ k => exact step_both hna hnb hg hk1 hi hk acc (by omega)
      have hst' := TCall.val (first := []) (caps := [.eptr 10 1 0 0 1, .eptr 11 1 0 0 1, .ptr 9 0, .ptr 8 0, .ptr 12 0]) (avs := []) hst
      repeat' (first | refine AOps.q rfl rfl rfl (fun hg => by first | exact std0 | exact PRun.loadE tabOk rfl rfl nd rfl (Nat.succ_pos _) rfl rfl rfl) (by exact rfl) ?_ | refine AWP.seq ?_ | refine AWP.regionK (fun K' hK => ?_) | (refine AOps.nil (hK _ _ ?_); clear hK K') | refine AOps.e (EStep.callT (hst') rfl rfl rfl rfl rfl nd rfl rfl nds ?_) | (refine AWP.condW rfl True.intro (fun hc => ?_) (fun hc => ?_) <;> (first | (simp only [dEt] at hc) | (simp only [dEf, iNl, iNe] at hc) | skip)) | refine AWP.block ?_ | refine AWP.exit ?_ | refine AWP.skip ?_)
      all_goals (first | (exfalso; omega) | (exfalso; simp at hc; done) | (exfalso; simp at hc; omega) | (exfalso; simp only [dEf, dEt] at hc; omega) | (rename_i h0; exfalso; simp at h0; done) | (rename_i h0; exfalso; simp at h0; omega) | skip)
      rintro _ _ ⟨rfl, kn2, i2, k2, acc2, g1, g2, g3, g4, g5, g6, rfl⟩
      repeat' (first | (refine AOps.nil (hK _ _ ?_); clear hK K'))
      exact ⟨(kn2, i2, k2, acc2), ⟨g1, by show i2 ≤ _; omega, by show k2 ≤ _; omega, by show acc2.length + i2 ≤ _; omega, g6.trans hbk⟩, by show i2 + k2 < i + k; exact g4, ⟨rfl, rfl, rfl, rfl, rfl, True.intro⟩, rfl⟩
  · rename_i hok
    obtain ⟨rfl, rfl⟩ := hr
    have hR : barsR a b = (noA, 1) := if_neg (fun h => hok (by rw [h.1, h.2]; rfl))
    repeat' (first | refine AOps.q rfl rfl rfl (fun hg => by first | exact std0 | exact PRun.buildW tabOk rfl rfl nds) (by exact rfl) ?_ | refine AWP.seq ?_ | refine AWP.regionK (fun K' hK => ?_) | (refine AOps.nil (hK _ _ ?_); clear hK K') | refine AOps.e (EStep.storeW tabOk rfl rfl rfl True.intro rfl rfl True.intro rfl rfl rfl rfl rfl rfl rfl ?_) | refine AOps.e (EStep.allocW tabOk rfl rfl rfl rfl rfl rfl ?_) | (refine AWP.condW rfl True.intro (fun hc => ?_) (fun hc => ?_) <;> (first | (simp only [dEt] at hc) | (simp only [dEf, iNl, iNe] at hc) | skip)) | refine AWP.block ?_ | refine AWP.ret ?_)
    all_goals (first | (exfalso; omega) | (exfalso; simp at hc; done) | (exfalso; simp at hc; omega) | (exfalso; simp only [dEf, dEt] at hc; omega) | (rename_i h0; exfalso; simp at h0; done) | (rename_i h0; exfalso; simp at h0; omega) | skip)
    rw [hR]
    exact ⟨.inr rfl, _, rfl, Ent.tup2 (entNoA 0) (Ent.rfl' _)⟩
end Go.Proofs.YtekfpcgagoidcaaGreatDoor.Al


namespace Go.Proofs.YtekfpcgagoidcaaGreatDoor.Al
open Go.Ab Go.Sort
def TF (c : Nat → Nat → Int) : Nat → Nat → Nat → Int
  | 0, _, _ => 0
  | _ + 1, 0, k => 2 * (k : Int)
  | _ + 1, i + 1, 0 => 2 * ((i + 1 : Nat) : Int)
  | f + 1, i + 1, k + 1 => min (TF c f i (k + 1) + 2) (min (TF c f (i + 1) k + 2) (TF c f i k + c i k))
theorem TF_T (c : Nat → Nat → Int) : ∀ f i k : Nat, i + k < f → TF c f i k = T c i k
  | 0, _, _, h => absurd h (Nat.not_lt_zero _)
  | f + 1, 0, k, _ => by rw [TF, T_zero]
  | f + 1, i + 1, 0, _ => by rw [TF, T_left]
  | f + 1, i + 1, k + 1, h => by rw [TF, T_succ, TF_T c f i (k + 1) (by omega), TF_T c f (i + 1) k (by omega), TF_T c f i k (by omega)]
def backF (c : Nat → Nat → Int) : Nat → Nat → Nat → List (Nat × Nat)
  | 0, _, _ => []
  | _ + 1, 0, _ => []
  | f + 1, i + 1, 0 => backF c f i 0
  | f + 1, i + 1, k + 1 => if TF c (f + 1) (i + 1) (k + 1) = TF c f i k + c i k then (i, k) :: backF c f i k else if TF c (f + 1) (i + 1) (k + 1) = TF c f i (k + 1) + 2 then backF c f i (k + 1) else backF c f (i + 1) k
theorem back_zero (c : Nat → Nat → Int) : ∀ k : Nat, back c 0 k = []
  | 0 => back_nil
  | k + 1 => by rw [back]; exact back_zero c k
theorem backF_back (c : Nat → Nat → Int) : ∀ f i k : Nat, i + k < f → backF c f i k = back c i k
  | 0, _, _, h => absurd h (Nat.not_lt_zero _)
  | f + 1, 0, k, _ => by rw [backF, back_zero]
  | f + 1, i + 1, 0, h => by rw [backF, back, backF_back c f i 0 (by omega)]
  | f + 1, i + 1, k + 1, h => by rw [backF, back, TF_T c (f + 1) (i + 1) (k + 1) (by omega), TF_T c f i k (by omega), TF_T c f i (k + 1) (by omega), backF_back c f i (k + 1) (by omega), backF_back c f (i + 1) k (by omega), backF_back c f i k (by omega)]
theorem costR_nn (a b : Score) : ∀ i k, 0 ≤ costR a b i k := fun i k => (costR_in a b i k).1
theorem check_best {a b : Score} (ha : scoreOk a = true) (hb : scoreOk b = true) (hl : ¬ longB a b) : checkR a b (bestA a b) = (true, 0) := by
  have h1 := alignR_ok (costR a b) a.bars.length b.bars.length
  unfold longB at hl
  have h2 := table_ok (c := costR a b) (costR_nn a b) (n := a.bars.length) (m := b.bars.length) (by omega)
  unfold checkR
  rw [if_pos ⟨ha, hb⟩, if_neg hl]
  unfold bestA
  dsimp only
  rw [if_pos ⟨h1.1, h1.2, h2⟩, get2_table (Nat.lt_succ_self _) (Nat.lt_succ_self _)]
  simp
theorem check_other {a b : Score} (ha : scoreOk a = true) (hb : scoreOk b = true) (hl : ¬ longB a b) {c : Int} (hc : c ≠ T (costR a b) a.bars.length b.bars.length) : checkR a b ⟨(bestA a b).pairs, c, (bestA a b).table⟩ = (false, 0) := by
  have h1 := alignR_ok (costR a b) a.bars.length b.bars.length
  unfold longB at hl
  unfold checkR
  rw [if_pos ⟨ha, hb⟩, if_neg hl]
  unfold bestA
  dsimp only
  rw [if_neg]
  rintro ⟨_, h, _⟩
  exact hc (h.symm.trans h1.2)
def x1A : Score := exS 1 [(1, 0), (2, 1), (3, 2)]
def x1B : Score := exS 2 [(1, 0), (4, 1), (3, 2)]
def x1C : Score := exS 2 [(1, 0), (4, 6), (3, 2)]
theorem x1A_ok : scoreOk x1A = true := by rw [scoreOk_eq]; decide +kernel
theorem x1B_ok : scoreOk x1B = true := by rw [scoreOk_eq]; decide +kernel
theorem x1C_ok : scoreOk x1C = true := by rw [scoreOk_eq]; decide +kernel
theorem x1AB_T : T (costR x1A x1B) 3 3 = 1 := by rw [← TF_T _ 7 3 3 (by decide)]; decide +kernel
theorem x1AC_T : T (costR x1A x1C) 3 3 = 4 := by rw [← TF_T _ 7 3 3 (by decide)]; decide +kernel
theorem x1AB_p : alignR (costR x1A x1B) 3 3 = [(0, 0), (1, 1), (2, 2)] := by unfold alignR; rw [← backF_back _ 7 3 3 (by decide)]; decide +kernel
theorem x1AC_p : alignR (costR x1A x1C) 3 3 = [(0, 0), (2, 2)] := by unfold alignR; rw [← backF_back _ 7 3 3 (by decide)]; decide +kernel
def x1T : List (List Int) := tableL (costR x1A x1B) 4 4
def x1U : List (List Int) := tableL (costR x1A x1C) 4 4
theorem x1AB : barsR x1A x1B = (⟨[(0, 0), (1, 1), (2, 2)], 1, x1T⟩, 0) := by
  unfold barsR
  rw [if_pos ⟨x1A_ok, x1B_ok⟩, if_neg (by unfold longB; decide)]
  unfold bestA
  rw [show x1A.bars.length = 3 from rfl, show x1B.bars.length = 3 from rfl, x1AB_p, x1AB_T]; rfl
theorem x1AC : barsR x1A x1C = (⟨[(0, 0), (2, 2)], 4, x1U⟩, 0) := by
  unfold barsR
  rw [if_pos ⟨x1A_ok, x1C_ok⟩, if_neg (by unfold longB; decide)]
  unfold bestA
  rw [show x1A.bars.length = 3 from rfl, show x1C.bars.length = 3 from rfl, x1AC_p, x1AC_T]; rfl
theorem x1Best : bestA x1A x1B = ⟨[(0, 0), (1, 1), (2, 2)], 1, x1T⟩ := by
  unfold bestA
  rw [show x1A.bars.length = 3 from rfl, show x1B.bars.length = 3 from rfl, x1AB_p, x1AB_T]; rfl
theorem x1Check : checkR x1A x1B ⟨[(0, 0), (1, 1), (2, 2)], 1, x1T⟩ = (true, 0) := by
  rw [← x1Best]; exact check_best x1A_ok x1B_ok (by unfold longB; decide)
theorem x1Check2 : checkR x1A x1B ⟨[(0, 0), (1, 1), (2, 2)], 2, x1T⟩ = (false, 0) := by
  have := check_other x1A_ok x1B_ok (by unfold longB; decide) (c := 2) (by rw [show x1A.bars.length = 3 from rfl, show x1B.bars.length = 3 from rfl, x1AB_T]; decide)
  rwa [x1Best] at this
theorem x1Notes : notesR x1A x1B ⟨[(0, 0), (1, 1), (2, 2)], 1, x1T⟩ = ([(101, 101), (102, 104), (103, 103)], 0) := by
  unfold notesR
  rw [x1A_ok, x1B_ok]
  decide +kernel
theorem x1Cost : costI x1A x1B 1 1 = (1, 0) := by
  unfold costI
  rw [if_pos ⟨x1A_ok, x1B_ok, by decide, by decide, by decide, by decide⟩]; decide +kernel
theorem x1Cost2 : costI x1A x1C 1 1 = (5, 0) := by
  unfold costI
  rw [if_pos ⟨x1A_ok, x1C_ok, by decide, by decide, by decide, by decide⟩]; decide +kernel
theorem x1Cost3 : costI x1A x1B 3 0 = (0, 1) := by
  unfold costI
  rw [if_neg (fun h => absurd h.2.2.2.1 (by decide))]
theorem x1Bad : barsR x1A ⟨0, [], [], []⟩ = (noA, 1) := by
  unfold barsR
  rw [if_neg (fun h => absurd h.2 (by rw [scoreOk_eq]; decide +kernel))]
theorem exS_small (v : Int) (l : List (Int × Int)) (h : l.length ≤ 1000) : (exS v l).Small := by
  refine ⟨?_, ?_, ?_⟩ <;> simp [exS] <;> omega
end Go.Proofs.YtekfpcgagoidcaaGreatDoor.Al
namespace Go.Proofs.YtekfpcgagoidcaaGreatDoor.Al
open Go.Ab Go.Sort
attribute [local irreducible] AWP AOps EStep AQ PStep PRun PCall TCall VCall
theorem encY1 : ([(0, 0), (1, 1), (2, 2)] : PL).map encPr = [[.int 0, .int 0], [.int 1, .int 1], [.int 2, .int 2]] := by kernel_rfl
theorem encY2 : ([(0, 0), (2, 2)] : PL).map encPr = [[.int 0, .int 0], [.int 2, .int 2]] := by kernel_rfl
theorem encY3 : ([(101, 101), (102, 104), (103, 103)] : PL).map encPr = [[.int 101, .int 101], [.int 102, .int 104], [.int 103, .int 103]] := by kernel_rfl
theorem sameY (l : PL) (h : l.length ≤ 1000) : PCall Tryz.prog 26 [.sl 2 (l.map encPr) .no, .sl 2 (l.map encPr) .no] (.b true) := by
  have := samePairs_spec l l (by omega) (by omega)
  rwa [beq_self_eq_true] at this
theorem entNoS : Ent (.agg [.int 0, .nils, .nils, .nils]) (.agg [.int 0, .sl 4 [] .no, .sl 13 [] .no, .sl 12 [] .no]) := Ent.agg rfl fun i u v hu hv => by
  match i, hu, hv with
  | 0, hu, hv => cases hu; cases hv; exact Ent.rfl' _
  | 1, hu, hv => cases hu; cases hv; exact Ent.nil
  | 2, hu, hv => cases hu; cases hv; exact Ent.nil
  | 3, hu, hv => cases hu; cases hv; exact Ent.nil
  | i + 4, hu, hv => cases hu
set_option maxHeartbeats 16000000 in
set_option maxRecDepth 20000 in
theorem head12_spec : PCall Tryz.prog 15 [] (.b true) := by
  have hA : x1A.Small := exS_small _ _ (by decide)
  have hB : x1B.Small := exS_small _ _ (by decide)
  have hC : x1C.Small := exS_small _ _ (by decide)
  have hZ : (⟨0, [], [], []⟩ : Score).Small := ⟨by decide, by decide, by decide⟩
  have w1 := work_spec 1 [(1, 0), (2, 1), (3, 2)] (by decide) (by decide)
  have w2 := work_spec 2 [(1, 0), (4, 1), (3, 2)] (by decide) (by decide)
  have w3 := work_spec 2 [(1, 0), (4, 6), (3, 2)] (by decide) (by decide)
  have b1 := aBars_spec x1A x1B hA hB
  have b2 := aBars_spec x1A x1C hA hC
  have b3 := PCall.argE2 entNoS (aBars_spec x1A ⟨0, [], [], []⟩ hA hZ)
  rw [x1AB] at b1
  rw [x1AC] at b2
  rw [x1Bad] at b3
  have n1 := aNotes_spec x1A x1B hA hB ⟨[(0, 0), (1, 1), (2, 2)], 1, x1T⟩ (by decide)
  rw [x1Notes] at n1
  have k0 : x1T.length ≤ 9223372036854775807 := by unfold x1T; rw [tableL_len]; decide
  have k1 := aCheck_spec x1A x1B hA hB ⟨[(0, 0), (1, 1), (2, 2)], 1, x1T⟩ (by decide) k0
  have k2 := aCheck_spec x1A x1B hA hB ⟨[(0, 0), (1, 1), (2, 2)], 2, x1T⟩ (by decide) k0
  rw [x1Check] at k1
  rw [x1Check2] at k2
  have c1 := aCost_spec x1A x1B hA hB 1 1
  have c2 := aCost_spec x1A x1C hA hC 1 1
  have c3 := aCost_spec x1A x1B hA hB 3 0
  rw [x1Cost] at c1
  rw [x1Cost2] at c2
  rw [x1Cost3] at c3
  have s1 := sameY [(0, 0), (1, 1), (2, 2)] (by decide)
  have s2 := sameY [(0, 0), (2, 2)] (by decide)
  have s3 := sameY [(101, 101), (102, 104), (103, 103)] (by decide)
  rw [show exS 1 [(1, 0), (2, 1), (3, 2)] = x1A from rfl] at w1
  rw [show exS 2 [(1, 0), (4, 1), (3, 2)] = x1B from rfl] at w2
  rw [show exS 2 [(1, 0), (4, 6), (3, 2)] = x1C from rfl] at w3
  dsimp only at b1 b2 b3 n1 k1 k2 c1 c2 c3
  unfold encA noA at *
  dsimp only at b1 b2 b3 n1 k1 k2 c1 c2 c3
  rw [encY1] at b1 n1 k1 k2 s1
  rw [encY2] at b2 s2
  rw [encY3] at n1 s3
  generalize x1T = tT at *
  generalize x1U = tU at *
  generalize x1A = A at *
  generalize x1B = B at *
  generalize x1C = C at *
  obtain ⟨v1, e1, e2, e3⟩ := A
  refine PCall.body Tryz.func15 rfl rfl Tryz.ntmps15 rfl rfl ?_
  repeat' (first | refine AOps.q rfl rfl rfl (fun hg => by first | exact std0 | exact PRun.callW (w1) rfl rfl nd rfl nds | exact PRun.callW (w2) rfl rfl nd rfl nds | exact PRun.callW (w3) rfl rfl nd rfl nds | exact PRun.callW (b1) rfl rfl nd rfl nds | exact PRun.callW (b2) rfl rfl nd rfl nds | exact PRun.callW (b3) rfl rfl nd rfl nds | exact PRun.callW (n1) rfl rfl nd rfl nds | exact PRun.callW (k1) rfl rfl nd rfl nds | exact PRun.callW (k2) rfl rfl nd rfl nds | exact PRun.callW (c1) rfl rfl nd rfl nds | exact PRun.callW (c2) rfl rfl nd rfl nds | exact PRun.callW (c3) rfl rfl nd rfl nds | exact PRun.callW (s1) rfl rfl nd rfl nds | exact PRun.callW (s2) rfl rfl nd rfl nds | exact PRun.callW (s3) rfl rfl nd rfl nds | exact PRun.buildW tabOk rfl rfl nds | exact PRun.buildSlW tabOk rfl rfl nds | exact PRun.buildAW tabOk rfl rfl nds) (by exact rfl) ?_ | refine AWP.seq ?_ | refine AWP.regionK (fun K' hK => ?_) | (refine AOps.nil (hK _ _ ?_); clear hK K') | refine AOps.e (EStep.storeW tabOk rfl rfl rfl True.intro rfl rfl True.intro rfl rfl rfl rfl rfl rfl rfl ?_) | refine AOps.e (EStep.allocW tabOk rfl rfl rfl rfl rfl rfl ?_) | refine AWP.ret ?_)
  exact ⟨.inr rfl, Ent.b rfl⟩
theorem RP_len : ∀ {l : List (Nat × Nat)} {i k : Nat}, RP i k l → l.length ≤ i
  | [], _, _, _ => Nat.zero_le _
  | x :: r, i, k, ⟨h1, _, h3⟩ => by
    have := RP_len h3
    rw [List.length_cons]; omega
theorem alignR_len (c : Nat → Nat → Int) (n m : Nat) : (alignR c n m).length ≤ n := by
  unfold alignR ip
  rw [List.length_map, List.length_reverse]
  exact RP_len (back_spec (c := c) n m).1
theorem few12_notes {s : Score} (h : few12 s = true) : s.bars.length ≤ 12 ∧ s.notes.length ≤ 60 := by
  unfold few12 at h
  simp only [Bool.and_eq_true, dEt] at h
  omega
end Go.Proofs.YtekfpcgagoidcaaGreatDoor.Al

