/- Contracts by content: slices.Delete of a cut. Contracts by content: slices.Index and Contains of cuts; reprise.Cut, reprise.Open. No statement is proved here. -/
import Derived.Test.YtdglbdfdkabjfaaGreatDoorC1
set_option linter.unusedVariables false
set_option linter.unusedSimpArgs false

namespace Go.Proofs.YtdglbdfdkabjfaaGreatDoor.Pl
open Go.Ab Go.Pl
attribute [local irreducible] AWP AOps EStep AQ PStep PRun PCall TCall VCall
def delA (l : List PCut) (i j m : Nat) : List (List AV) := (l.map encCt).take i ++ (((l.map encCt).drop j).take m ++ (l.map encCt).drop (i + m))
theorem delA_len {l : List PCut} {i j m : Nat} (h1 : i + m ≤ l.length) (h2 : j + m ≤ l.length) : (delA l i j m).length = l.length := by
 unfold delA
 simp only [List.length_append, List.length_take, List.length_drop, List.length_map]; omega
theorem delA_take {l : List PCut} {i j m q : Nat} (hj : j = i + 1) (hm : i + m = q) (hl : j + m = l.length) : (delA l i j m).take q = (l.eraseIdx i).map encCt := by
 unfold delA
 rw [List.eraseIdx_eq_take_drop_succ, List.map_append, List.map_take, List.map_drop, ← hj, ← List.append_assoc, List.take_append_of_le_length (by simp only [List.length_append, List.length_take, List.length_drop, List.length_map]; omega)]
 rw [List.take_of_length_le (by simp only [List.length_append, List.length_take, List.length_drop, List.length_map]; omega)]
 congr 1
 rw [List.take_of_length_le (by simp only [List.length_drop, List.length_map]; omega)]
set_option maxHeartbeats 4000000 in
set_option maxRecDepth 20000 in
theorem delete_T {l : List PCut} (hl : l.length ≤ 1000000) {i : Nat} (hi : i < l.length) {o0 o1 o2 o3 o4 : AObj} (hok : ([o0, o1, o2, o3, o4] : Store).all (okObj 6) = true) :
 TCall Tryz.prog 88 [.sla 5 3 0 l.length 0, .int i, .int ((i : Int) + 1)] [o0, o1, o2, o3, o4, .arr 3 0 (l.map encCt)]
 (fun r s => r = At 5 3 (l.length - 1) ∧ s = [o0, o1, o2, o3, o4, .arr 3 0 ((l.eraseIdx i).map encCt)]) := by
 have hok6 : ([o0, o1, o2, o3, o4, .arr 3 0 ((l.eraseIdx i).map encCt)] : Store).all (okObj 6) = true := by
  have e4 := okArrC (l.eraseIdx i) 6
  rw [show ([o0, o1, o2, o3, o4, .arr 3 0 ((l.eraseIdx i).map encCt)] : Store) = [o0, o1, o2, o3, o4] ++ [.arr 3 0 ((l.eraseIdx i).map encCt)] from rfl, List.all_append, hok, Bool.true_and]
  simp only [List.all_cons, List.all_nil, e4]; rfl
 have hll : (l.map encCt).length = l.length := by simp
 have ej : 0 + ((i : Int) + 1).toNat = i + 1 := by omega
 have em : l.length - ((i : Int) + 1).toNat = l.length - (i + 1) := by omega
 obtain ⟨J, hJ⟩ : ∃ J, 0 + ((i : Int) + 1).toNat = J := ⟨_, rfl⟩
 obtain ⟨M, hM⟩ : ∃ M, l.length - ((i : Int) + 1).toNat = M := ⟨_, rfl⟩
 have hdl : (delA l i J M).length = l.length := delA_len (by omega) (by omega)
 have hdt := delA_take (l := l) (i := i) (j := J) (m := M) (q := l.length - 1) (by omega) (by omega) (by omega)
 have hlo : ∀ {o : Oper} {env : Env} {x y : Operand} {t : TypeId}, o.op = .slice t x (some y) none none → rdv env x = some (.sla 5 3 0 l.length 0) → rdn env x → rdv env y = some (.int ((i : Int) + 1)) → rdn env y → elemSz tab t = some 3 → PRun Tryz.prog o env [o0, o1, o2, o3, o4, .arr 3 0 (l.map encCt)] (.sla 5 3 J M 0) := fun a1 a2 a3 a4 a5 a6 => by
  have := PRun.sliceLoS (σ := [o0, o1, o2, o3, o4, .arr 3 0 (l.map encCt)]) tabOk a1 a2 a3 a4 a5 a6 rfl ⟨by omega, by omega⟩
  rw [hJ, hM] at this
  exact this
 rcases i with _ | i
 · rcases hn : l.length with _ | _ | k
   · omega
   · rw [hn] at hl hll hdl hdt hlo hi hM em
     refine TCall.body Tryz.func88 rfl rfl Tryz.ntmps88 rfl rfl ?_
     repeat' (first | refine AOps.q rfl rfl rfl (fun hg => by first | exact std0 | exact PRun.slice3A tabOk rfl rfl nd rfl nd rfl nd rfl nd rfl rfl (by omega) ⟨by omega, by omega, by omega⟩ (by omega) | exact PRun.lenA tabOk rfl rfl nd rfl) (by exact rfl) ?_ | refine AWP.seq ?_ | refine AWP.regionK (fun K' hK => ?_) | (refine AOps.nil (hK _ _ ?_); clear hK K') | (refine AWP.condW rfl True.intro (fun hc => ?_) (fun hc => ?_) <;> (first | (simp only [decide_eq_true_eq] at hc) | (simp only [decide_eq_false_iff_not, Int.not_lt, Int.not_le] at hc) | skip)) | refine AWP.skip ?_ | refine AWP.ret ?_)
     all_goals (first | (exfalso; simp at hc; done) | (exfalso; omega) | skip)
     refine AWP.drawY (fun j => match j with | 0 => [o0, o1, o2, o3, o4, .arr 3 0 (l.map encCt)] | _ => [o0, o1, o2, o3, o4, .arr 3 0 (delA l 0 J M)]) rfl (by kernel_rfl) (by decide +kernel) rfl (by decide +kernel) (fun K' hK => ?_)
     repeat' (first
      | refine YQ.q (a := 0) (b := 0) rfl (by decide +kernel) (by decide +kernel) rfl rfl rfl (fun k h1 h2 hg => by (have hk : k = 0 := (by omega)); (rcases hk with rfl) <;> (first | exact hlo rfl rfl nd rfl nd rfl | exact PRun.sliceHiO tabOk rfl rfl nd rfl nd rfl rfl (by omega) | exact std0 | exact std1)) (by exact rfl) ?_
      | refine YQ.q (a := 0) (b := 1) rfl (by decide +kernel) (by decide +kernel) rfl rfl rfl (fun k h1 h2 hg => by (have hk : k = 0 ∨ k = 1 := (by omega)); (rcases hk with rfl | rfl) <;> (first | exact hlo rfl rfl nd rfl nd rfl | exact PRun.sliceHiO tabOk rfl rfl nd rfl nd rfl rfl (by omega) | exact std0 | exact std1)) (by exact rfl) ?_
      | refine YQ.q (a := 1) (b := 1) rfl (by decide +kernel) (by decide +kernel) rfl rfl rfl (fun k h1 h2 hg => by (have hk : k = 1 := (by omega)); (rcases hk with rfl) <;> (first | exact hlo rfl rfl nd rfl nd rfl | exact PRun.sliceHiO tabOk rfl rfl nd rfl nd rfl rfl (by omega) | exact std0 | exact std1)) (by exact rfl) ?_
      | refine YQ.q (a := 0) (b := 2) rfl (by decide +kernel) (by decide +kernel) rfl rfl rfl (fun k h1 h2 hg => by (have hk : k = 0 ∨ k = 1 ∨ k = 2 := (by omega)); (rcases hk with rfl | rfl | rfl) <;> (first | exact hlo rfl rfl nd rfl nd rfl | exact PRun.sliceHiO tabOk rfl rfl nd rfl nd rfl rfl (by omega) | exact std0 | exact std1)) (by exact rfl) ?_
      | refine YQ.q (a := 1) (b := 2) rfl (by decide +kernel) (by decide +kernel) rfl rfl rfl (fun k h1 h2 hg => by (have hk : k = 1 ∨ k = 2 := (by omega)); (rcases hk with rfl | rfl) <;> (first | exact hlo rfl rfl nd rfl nd rfl | exact PRun.sliceHiO tabOk rfl rfl nd rfl nd rfl rfl (by omega) | exact std0 | exact std1)) (by exact rfl) ?_
      | refine YQ.q (a := 2) (b := 2) rfl (by decide +kernel) (by decide +kernel) rfl rfl rfl (fun k h1 h2 hg => by (have hk : k = 2 := (by omega)); (rcases hk with rfl) <;> (first | exact hlo rfl rfl nd rfl nd rfl | exact PRun.sliceHiO tabOk rfl rfl nd rfl nd rfl rfl (by omega) | exact std0 | exact std1)) (by exact rfl) ?_)
     refine YQ.e (v := .sl 3 [] (.own 5)) (d := some 26) rfl rfl rfl ?_ ?_
     · intro env' he
       exact EStep.appendIn (l := 5) tabOk 0 J M rfl rfl rfl (by decide) (Rd.w ((rdv_congr (he 22 (by decide +kernel))).trans rfl) (by rw [rdn_congr (he 22 (by decide +kernel))]; first | exact True.intro | exact rfl)) rfl (show _ = At 5 3 (0 + M) by rw [show 0 + M = 0 by omega]; rfl) rfl (Rd.w ((rdv_congr (he 25 (by decide +kernel))).trans rfl) (by rw [rdn_congr (he 25 (by decide +kernel))]; first | exact True.intro | exact rfl)) (one_encCt l) (LOk.of (tabOk.get rfl)) (LOk.of (tabOk.get rfl)) (LOk.of (tabOk.get rfl)) rfl (by omega) (by omega) (by omega) rfl ⟨rfl, rfl⟩
     repeat' (first
      | refine YQ.q (a := 0) (b := 0) rfl (by decide +kernel) (by decide +kernel) rfl rfl rfl (fun k h1 h2 hg => by (have hk : k = 0 := (by omega)); (rcases hk with rfl) <;> (first | exact std0 | exact std1)) (by exact rfl) ?_
      | refine YQ.q (a := 0) (b := 1) rfl (by decide +kernel) (by decide +kernel) rfl rfl rfl (fun k h1 h2 hg => by (have hk : k = 0 ∨ k = 1 := (by omega)); (rcases hk with rfl | rfl) <;> (first | exact std0 | exact std1)) (by exact rfl) ?_
      | refine YQ.q (a := 1) (b := 1) rfl (by decide +kernel) (by decide +kernel) rfl rfl rfl (fun k h1 h2 hg => by (have hk : k = 1 := (by omega)); (rcases hk with rfl) <;> (first | exact std0 | exact std1)) (by exact rfl) ?_
      | refine YQ.q (a := 0) (b := 2) rfl (by decide +kernel) (by decide +kernel) rfl rfl rfl (fun k h1 h2 hg => by (have hk : k = 0 ∨ k = 1 ∨ k = 2 := (by omega)); (rcases hk with rfl | rfl | rfl) <;> (first | exact std0 | exact std1)) (by exact rfl) ?_
      | refine YQ.q (a := 1) (b := 2) rfl (by decide +kernel) (by decide +kernel) rfl rfl rfl (fun k h1 h2 hg => by (have hk : k = 1 ∨ k = 2 := (by omega)); (rcases hk with rfl | rfl) <;> (first | exact std0 | exact std1)) (by exact rfl) ?_
      | refine YQ.q (a := 2) (b := 2) rfl (by decide +kernel) (by decide +kernel) rfl rfl rfl (fun k h1 h2 hg => by (have hk : k = 2 := (by omega)); (rcases hk with rfl) <;> (first | exact std0 | exact std1)) (by exact rfl) ?_)
     refine YQ.nil (hK _ _ ?_)
     clear hK K'
     repeat' (first | refine AOps.q rfl rfl rfl (fun hg => by first | exact std0 | exact PRun.sliceLHO tabOk 0 1 rfl rfl nd rfl rfl nd rfl nd rfl rfl ⟨by omega, by omega⟩ | exact std1) (by exact rfl) ?_ | refine AWP.seq ?_ | refine AWP.regionK (fun K' hK => ?_) | (refine AOps.nil (hK _ _ ?_); clear hK K') | refine AOps.e (EStep.clearA tabOk rfl rfl rfl True.intro rfl (LOk.of (tabOk.get rfl)) (LOk.of (tabOk.get rfl)) rfl rfl rfl ?_) | refine AWP.ret ?_)
     refine ⟨.inr rfl, At 5 3 0, [o0, o1, o2, o3, o4, .arr 3 0 ((l.eraseIdx 0).map encCt)], ⟨rfl, rfl⟩, ?_, by simp, hok6, rfl, rfl⟩
     show [o0, o1, o2, o3, o4, .arr 3 0 ((delA l 0 J M).take 0)] = _
     rw [hdt]
   · rw [hn] at hl hll hdl hdt hlo hi hM em
     refine TCall.body Tryz.func88 rfl rfl Tryz.ntmps88 rfl rfl ?_
     repeat' (first | refine AOps.q rfl rfl rfl (fun hg => by first | exact std0 | exact PRun.slice3A tabOk rfl rfl nd rfl nd rfl nd rfl nd rfl rfl (by omega) ⟨by omega, by omega, by omega⟩ (by omega) | exact PRun.lenA tabOk rfl rfl nd rfl) (by exact rfl) ?_ | refine AWP.seq ?_ | refine AWP.regionK (fun K' hK => ?_) | (refine AOps.nil (hK _ _ ?_); clear hK K') | (refine AWP.condW rfl True.intro (fun hc => ?_) (fun hc => ?_) <;> (first | (simp only [decide_eq_true_eq] at hc) | (simp only [decide_eq_false_iff_not, Int.not_lt, Int.not_le] at hc) | skip)) | refine AWP.skip ?_ | refine AWP.ret ?_)
     all_goals (first | (exfalso; simp at hc; done) | (exfalso; omega) | skip)
     refine AWP.drawY (fun j => match j with | 0 => [o0, o1, o2, o3, o4, .arr 3 0 (l.map encCt)] | _ => [o0, o1, o2, o3, o4, .arr 3 0 (delA l 0 J M)]) rfl (by kernel_rfl) (by decide +kernel) rfl (by decide +kernel) (fun K' hK => ?_)
     repeat' (first
      | refine YQ.q (a := 0) (b := 0) rfl (by decide +kernel) (by decide +kernel) rfl rfl rfl (fun k h1 h2 hg => by (have hk : k = 0 := (by omega)); (rcases hk with rfl) <;> (first | exact hlo rfl rfl nd rfl nd rfl | exact PRun.sliceHiO tabOk rfl rfl nd rfl nd rfl rfl (by omega) | exact std0 | exact std1)) (by exact rfl) ?_
      | refine YQ.q (a := 0) (b := 1) rfl (by decide +kernel) (by decide +kernel) rfl rfl rfl (fun k h1 h2 hg => by (have hk : k = 0 ∨ k = 1 := (by omega)); (rcases hk with rfl | rfl) <;> (first | exact hlo rfl rfl nd rfl nd rfl | exact PRun.sliceHiO tabOk rfl rfl nd rfl nd rfl rfl (by omega) | exact std0 | exact std1)) (by exact rfl) ?_
      | refine YQ.q (a := 1) (b := 1) rfl (by decide +kernel) (by decide +kernel) rfl rfl rfl (fun k h1 h2 hg => by (have hk : k = 1 := (by omega)); (rcases hk with rfl) <;> (first | exact hlo rfl rfl nd rfl nd rfl | exact PRun.sliceHiO tabOk rfl rfl nd rfl nd rfl rfl (by omega) | exact std0 | exact std1)) (by exact rfl) ?_
      | refine YQ.q (a := 0) (b := 2) rfl (by decide +kernel) (by decide +kernel) rfl rfl rfl (fun k h1 h2 hg => by (have hk : k = 0 ∨ k = 1 ∨ k = 2 := (by omega)); (rcases hk with rfl | rfl | rfl) <;> (first | exact hlo rfl rfl nd rfl nd rfl | exact PRun.sliceHiO tabOk rfl rfl nd rfl nd rfl rfl (by omega) | exact std0 | exact std1)) (by exact rfl) ?_
      | refine YQ.q (a := 1) (b := 2) rfl (by decide +kernel) (by decide +kernel) rfl rfl rfl (fun k h1 h2 hg => by (have hk : k = 1 ∨ k = 2 := (by omega)); (rcases hk with rfl | rfl) <;> (first | exact hlo rfl rfl nd rfl nd rfl | exact PRun.sliceHiO tabOk rfl rfl nd rfl nd rfl rfl (by omega) | exact std0 | exact std1)) (by exact rfl) ?_
      | refine YQ.q (a := 2) (b := 2) rfl (by decide +kernel) (by decide +kernel) rfl rfl rfl (fun k h1 h2 hg => by (have hk : k = 2 := (by omega)); (rcases hk with rfl) <;> (first | exact hlo rfl rfl nd rfl nd rfl | exact PRun.sliceHiO tabOk rfl rfl nd rfl nd rfl rfl (by omega) | exact std0 | exact std1)) (by exact rfl) ?_)
     refine YQ.e (v := .sla 5 3 0 (k + 1) 0) (d := some 26) rfl rfl rfl ?_ ?_
     · intro env' he
       exact EStep.appendIn (l := 5) tabOk 0 J M rfl rfl rfl (by decide) (Rd.w ((rdv_congr (he 22 (by decide +kernel))).trans rfl) (by rw [rdn_congr (he 22 (by decide +kernel))]; first | exact True.intro | exact rfl)) rfl (show _ = At 5 3 (0 + M) by rw [show 0 + M = k + 1 by omega]; rfl) rfl (Rd.w ((rdv_congr (he 25 (by decide +kernel))).trans rfl) (by rw [rdn_congr (he 25 (by decide +kernel))]; first | exact True.intro | exact rfl)) (one_encCt l) (LOk.of (tabOk.get rfl)) (LOk.of (tabOk.get rfl)) (LOk.of (tabOk.get rfl)) rfl (by omega) (by omega) (by omega) rfl ⟨rfl, rfl⟩
     repeat' (first
      | refine YQ.q (a := 0) (b := 0) rfl (by decide +kernel) (by decide +kernel) rfl rfl rfl (fun k h1 h2 hg => by (have hk : k = 0 := (by omega)); (rcases hk with rfl) <;> (first | exact std0 | exact std1)) (by exact rfl) ?_
      | refine YQ.q (a := 0) (b := 1) rfl (by decide +kernel) (by decide +kernel) rfl rfl rfl (fun k h1 h2 hg => by (have hk : k = 0 ∨ k = 1 := (by omega)); (rcases hk with rfl | rfl) <;> (first | exact std0 | exact std1)) (by exact rfl) ?_
      | refine YQ.q (a := 1) (b := 1) rfl (by decide +kernel) (by decide +kernel) rfl rfl rfl (fun k h1 h2 hg => by (have hk : k = 1 := (by omega)); (rcases hk with rfl) <;> (first | exact std0 | exact std1)) (by exact rfl) ?_
      | refine YQ.q (a := 0) (b := 2) rfl (by decide +kernel) (by decide +kernel) rfl rfl rfl (fun k h1 h2 hg => by (have hk : k = 0 ∨ k = 1 ∨ k = 2 := (by omega)); (rcases hk with rfl | rfl | rfl) <;> (first | exact std0 | exact std1)) (by exact rfl) ?_
      | refine YQ.q (a := 1) (b := 2) rfl (by decide +kernel) (by decide +kernel) rfl rfl rfl (fun k h1 h2 hg => by (have hk : k = 1 ∨ k = 2 := (by omega)); (rcases hk with rfl | rfl) <;> (first | exact std0 | exact std1)) (by exact rfl) ?_
      | refine YQ.q (a := 2) (b := 2) rfl (by decide +kernel) (by decide +kernel) rfl rfl rfl (fun k h1 h2 hg => by (have hk : k = 2 := (by omega)); (rcases hk with rfl) <;> (first | exact std0 | exact std1)) (by exact rfl) ?_)
     refine YQ.nil (hK _ _ ?_)
     clear hK K'
     repeat' (first | refine AOps.q rfl rfl rfl (fun hg => by first | exact std0 | exact PRun.lenA tabOk rfl rfl nd rfl | exact PRun.sliceLHO tabOk (k + 1) (k + 1 + 1) rfl rfl nd rfl rfl nd rfl nd rfl rfl ⟨by omega, by omega⟩) (by exact rfl) ?_ | refine AWP.seq ?_ | refine AWP.regionK (fun K' hK => ?_) | (refine AOps.nil (hK _ _ ?_); clear hK K') | refine AOps.e (EStep.clearA tabOk rfl rfl rfl True.intro rfl (LOk.of (tabOk.get rfl)) (LOk.of (tabOk.get rfl)) rfl rfl rfl ?_) | refine AWP.ret ?_)
     refine ⟨.inr rfl, At 5 3 (k + 1), [o0, o1, o2, o3, o4, .arr 3 0 ((l.eraseIdx 0).map encCt)], ⟨rfl, rfl⟩, ?_, by simp, hok6, rfl, rfl⟩
     show [o0, o1, o2, o3, o4, .arr 3 0 ((delA l 0 J M).take (k + 1))] = _
     rw [show k + 1 = k + 1 + 1 - 1 from rfl, hdt]
 · rcases hn : l.length with _ | _ | k
   · omega
   · omega
   · rw [hn] at hl hll hdl hdt hlo hi hM em
     refine TCall.body Tryz.func88 rfl rfl Tryz.ntmps88 rfl rfl ?_
     repeat' (first | refine AOps.q rfl rfl rfl (fun hg => by first | exact std0 | exact PRun.slice3A tabOk rfl rfl nd rfl nd rfl nd rfl nd rfl rfl (by omega) ⟨by omega, by omega, by omega⟩ (by omega) | exact PRun.lenA tabOk rfl rfl nd rfl) (by exact rfl) ?_ | refine AWP.seq ?_ | refine AWP.regionK (fun K' hK => ?_) | (refine AOps.nil (hK _ _ ?_); clear hK K') | (refine AWP.condW rfl True.intro (fun hc => ?_) (fun hc => ?_) <;> (first | (simp only [decide_eq_true_eq] at hc) | (simp only [decide_eq_false_iff_not, Int.not_lt, Int.not_le] at hc) | skip)) | refine AWP.skip ?_ | refine AWP.ret ?_)
     all_goals (first | (exfalso; simp at hc; done) | (exfalso; simp at hc; omega) | (exfalso; omega) | skip)
     refine AWP.drawY (fun j => match j with | 0 => [o0, o1, o2, o3, o4, .arr 3 0 (l.map encCt)] | _ => [o0, o1, o2, o3, o4, .arr 3 0 (delA l (i + 1) J M)]) rfl (by kernel_rfl) (by decide +kernel) rfl (by decide +kernel) (fun K' hK => ?_)
     repeat' (first
      | refine YQ.q (a := 0) (b := 0) rfl (by decide +kernel) (by decide +kernel) rfl rfl rfl (fun k h1 h2 hg => by (have hk : k = 0 := (by omega)); (rcases hk with rfl) <;> (first | exact hlo rfl rfl nd rfl nd rfl | exact PRun.sliceHiS tabOk rfl rfl nd rfl nd rfl rfl ⟨by omega, by omega⟩ | exact std0 | exact std1)) (by exact rfl) ?_
      | refine YQ.q (a := 0) (b := 1) rfl (by decide +kernel) (by decide +kernel) rfl rfl rfl (fun k h1 h2 hg => by (have hk : k = 0 ∨ k = 1 := (by omega)); (rcases hk with rfl | rfl) <;> (first | exact hlo rfl rfl nd rfl nd rfl | exact PRun.sliceHiS tabOk rfl rfl nd rfl nd rfl rfl ⟨by omega, by omega⟩ | exact std0 | exact std1)) (by exact rfl) ?_
      | refine YQ.q (a := 1) (b := 1) rfl (by decide +kernel) (by decide +kernel) rfl rfl rfl (fun k h1 h2 hg => by (have hk : k = 1 := (by omega)); (rcases hk with rfl) <;> (first | exact hlo rfl rfl nd rfl nd rfl | exact PRun.sliceHiS tabOk rfl rfl nd rfl nd rfl rfl ⟨by omega, by omega⟩ | exact std0 | exact std1)) (by exact rfl) ?_
      | refine YQ.q (a := 0) (b := 2) rfl (by decide +kernel) (by decide +kernel) rfl rfl rfl (fun k h1 h2 hg => by (have hk : k = 0 ∨ k = 1 ∨ k = 2 := (by omega)); (rcases hk with rfl | rfl | rfl) <;> (first | exact hlo rfl rfl nd rfl nd rfl | exact PRun.sliceHiS tabOk rfl rfl nd rfl nd rfl rfl ⟨by omega, by omega⟩ | exact std0 | exact std1)) (by exact rfl) ?_
      | refine YQ.q (a := 1) (b := 2) rfl (by decide +kernel) (by decide +kernel) rfl rfl rfl (fun k h1 h2 hg => by (have hk : k = 1 ∨ k = 2 := (by omega)); (rcases hk with rfl | rfl) <;> (first | exact hlo rfl rfl nd rfl nd rfl | exact PRun.sliceHiS tabOk rfl rfl nd rfl nd rfl rfl ⟨by omega, by omega⟩ | exact std0 | exact std1)) (by exact rfl) ?_
      | refine YQ.q (a := 2) (b := 2) rfl (by decide +kernel) (by decide +kernel) rfl rfl rfl (fun k h1 h2 hg => by (have hk : k = 2 := (by omega)); (rcases hk with rfl) <;> (first | exact hlo rfl rfl nd rfl nd rfl | exact PRun.sliceHiS tabOk rfl rfl nd rfl nd rfl rfl ⟨by omega, by omega⟩ | exact std0 | exact std1)) (by exact rfl) ?_)
     refine YQ.e (v := .sla 5 3 0 (k + 1) 0) (d := some 26) rfl rfl rfl ?_ ?_
     · intro env' he
       exact EStep.appendIn (l := 5) tabOk (i + 1) J M rfl rfl rfl (by decide) (Rd.w ((rdv_congr (he 22 (by decide +kernel))).trans rfl) (by rw [rdn_congr (he 22 (by decide +kernel))]; first | exact True.intro | exact rfl)) rfl (show _ = At 5 3 (i + 1 + M) by rw [show i + 1 + M = k + 1 by omega]; rfl) rfl (Rd.w ((rdv_congr (he 25 (by decide +kernel))).trans rfl) (by rw [rdn_congr (he 25 (by decide +kernel))]; first | exact True.intro | exact rfl)) (one_encCt l) (LOk.of (tabOk.get rfl)) (LOk.of (tabOk.get rfl)) (LOk.of (tabOk.get rfl)) rfl (by omega) (by omega) (by omega) rfl ⟨rfl, rfl⟩
     repeat' (first
      | refine YQ.q (a := 0) (b := 0) rfl (by decide +kernel) (by decide +kernel) rfl rfl rfl (fun k h1 h2 hg => by (have hk : k = 0 := (by omega)); (rcases hk with rfl) <;> (first | exact std0 | exact std1)) (by exact rfl) ?_
      | refine YQ.q (a := 0) (b := 1) rfl (by decide +kernel) (by decide +kernel) rfl rfl rfl (fun k h1 h2 hg => by (have hk : k = 0 ∨ k = 1 := (by omega)); (rcases hk with rfl | rfl) <;> (first | exact std0 | exact std1)) (by exact rfl) ?_
      | refine YQ.q (a := 1) (b := 1) rfl (by decide +kernel) (by decide +kernel) rfl rfl rfl (fun k h1 h2 hg => by (have hk : k = 1 := (by omega)); (rcases hk with rfl) <;> (first | exact std0 | exact std1)) (by exact rfl) ?_
      | refine YQ.q (a := 0) (b := 2) rfl (by decide +kernel) (by decide +kernel) rfl rfl rfl (fun k h1 h2 hg => by (have hk : k = 0 ∨ k = 1 ∨ k = 2 := (by omega)); (rcases hk with rfl | rfl | rfl) <;> (first | exact std0 | exact std1)) (by exact rfl) ?_
      | refine YQ.q (a := 1) (b := 2) rfl (by decide +kernel) (by decide +kernel) rfl rfl rfl (fun k h1 h2 hg => by (have hk : k = 1 ∨ k = 2 := (by omega)); (rcases hk with rfl | rfl) <;> (first | exact std0 | exact std1)) (by exact rfl) ?_
      | refine YQ.q (a := 2) (b := 2) rfl (by decide +kernel) (by decide +kernel) rfl rfl rfl (fun k h1 h2 hg => by (have hk : k = 2 := (by omega)); (rcases hk with rfl) <;> (first | exact std0 | exact std1)) (by exact rfl) ?_)
     refine YQ.nil (hK _ _ ?_)
     clear hK K'
     repeat' (first | refine AOps.q rfl rfl rfl (fun hg => by first | exact std0 | exact PRun.lenA tabOk rfl rfl nd rfl | exact PRun.sliceLHO tabOk (k + 1) (k + 1 + 1) rfl rfl nd rfl rfl nd rfl nd rfl rfl ⟨by omega, by omega⟩) (by exact rfl) ?_ | refine AWP.seq ?_ | refine AWP.regionK (fun K' hK => ?_) | (refine AOps.nil (hK _ _ ?_); clear hK K') | refine AOps.e (EStep.clearA tabOk rfl rfl rfl True.intro rfl (LOk.of (tabOk.get rfl)) (LOk.of (tabOk.get rfl)) rfl rfl rfl ?_) | refine AWP.ret ?_)
     refine ⟨.inr rfl, At 5 3 (k + 1), [o0, o1, o2, o3, o4, .arr 3 0 ((l.eraseIdx (i + 1)).map encCt)], ⟨rfl, rfl⟩, ?_, by simp, hok6, rfl, rfl⟩
     show [o0, o1, o2, o3, o4, .arr 3 0 ((delA l (i + 1) J M).take (k + 1))] = _
     rw [show k + 1 = k + 1 + 1 - 1 from rfl, hdt]
end Go.Proofs.YtdglbdfdkabjfaaGreatDoor.Pl
namespace Go.Proofs.YtdglbdfdkabjfaaGreatDoor.Pl
open Go.Ab Go.Pl
attribute [local irreducible] AWP AOps EStep AQ PStep PRun PCall TCall VCall
theorem flCt : flatOf Tryz.prog 83 = some [.int .i64, .int .i64, .int .i64] := by kernel_rfl
def eqCt (c x : PCut) : Bool := c.from_ == x.from_ && (c.until_ == x.until_ && (c.pass == x.pass && true))
theorem eqCt_iff (c x : PCut) : eqCt c x = true ↔ x = c := by
 obtain ⟨a, b, p⟩ := c; obtain ⟨a2, b2, p2⟩ := x
 unfold eqCt
 simp only [Bool.and_true, Bool.and_eq_true, beq_iff_eq, PCut.mk.injEq]
 exact ⟨fun h => ⟨h.1.symm, h.2.1.symm, h.2.2.symm⟩, fun h => ⟨h.1.symm, h.2.1.symm, h.2.2.symm⟩⟩
theorem indexCt_spec (l : List PCut) (c : PCut) (hl : l.length ≤ 1000000000) : PCall Tryz.prog 87 [.sl 3 (l.map encCt) .no, .agg (encCt c)] (.int (findI (eqCt c) l)) := by
 refine PCall.body Tryz.func87 rfl rfl Tryz.ntmps87 rfl rfl ?_
 repeat' (first | refine AOps.q rfl rfl rfl (fun hg => by first | exact std0 | exact std1) (by exact rfl) ?_ | refine AWP.seq ?_ | refine AWP.regionK (fun K' hK => ?_) | (refine AOps.nil (hK _ _ ?_); clear hK K') | refine AOps.e (EStep.boxW rfl rfl rfl rfl rfl True.intro rfl rfl ?_) | refine AWP.block ?_)
 refine AWP.loopW (ι := Nat) (fun k => [(0, .sl 3 (l.map encCt) .no), (3, .ptr 0 0), (6, .sl 3 (l.map encCt) .no), (7, .int l.length), (8, .int k)]) (fun _ => [.var (encCt c)]) (fun k => k ≤ l.length ∧ ∀ j, j < k → eqCt c (l.getD j default) = false) (fun k => l.length - k) 0 ⟨Nat.zero_le _, fun j h => absurd h (by omega)⟩ ⟨rfl, rfl, rfl, rfl, rfl, True.intro⟩ rfl ?_
 rintro k ⟨hk, hall⟩
 by_cases hlt : k < l.length
 · repeat' (first | refine AOps.q rfl rfl rfl (fun hg => by exact std0) (by exact rfl) ?_ | refine AWP.seq ?_ | refine AWP.regionK (fun K' hK => ?_) | (refine AOps.nil (hK _ _ ?_); clear hK K') | (refine AWP.condW rfl True.intro (fun hc => ?_) (fun hc => ?_) <;> (first | (simp only [decide_eq_true_eq] at hc) | (simp only [decide_eq_false_iff_not, Int.not_lt, Int.not_le] at hc) | skip)) | refine AWP.block ?_ | refine AWP.exit ?_ | refine AWP.skip ?_ | refine AWP.ret ?_ | refine AWP.drawK2 (by decide +kernel) (by kernel_rfl) (by decide +kernel) rfl (fun K' hK => ?_) | (refine AQ.nil (hK _ ?_); clear hK K') | refine AQ.q rfl rfl (fun hg => by first | exact std0 | exact PRun.eqS flCt rfl rfl nd rfl nd rfl | exact std1) (by exact rfl) ?_)
   all_goals first | (exfalso; omega) | skip
   · refine ⟨.inr rfl, ?_⟩
     rw [show findI (eqCt c) l = k from findI_at hlt hc hall]
     exact fun _ _ h => h
   · exact ⟨k + 1, ⟨by omega, fun j hj => lt_succ_cases hall hc hj⟩, by omega, ⟨rfl, rfl, rfl, rfl, rfl, True.intro⟩, rfl⟩
 · repeat' (first | refine AOps.q rfl rfl rfl (fun hg => by exact std0) (by exact rfl) ?_ | refine AWP.seq ?_ | refine AWP.regionK (fun K' hK => ?_) | (refine AOps.nil (hK _ _ ?_); clear hK K') | (refine AWP.condW rfl True.intro (fun hc => ?_) (fun hc => ?_) <;> (first | (simp only [decide_eq_true_eq] at hc) | (simp only [decide_eq_false_iff_not, Int.not_lt, Int.not_le] at hc) | skip)) | refine AWP.block ?_ | refine AWP.exit ?_ | refine AWP.skip ?_ | refine AWP.ret ?_ | refine AWP.drawK2 (by decide +kernel) (by kernel_rfl) (by decide +kernel) rfl (fun K' hK => ?_) | refine AQ.q rfl rfl (fun hg => by first | exact std0 | exact std1) (by exact rfl) ?_)
   all_goals first | (exfalso; omega) | skip
   refine ⟨.inr rfl, ?_⟩
   rw [show findI (eqCt c) l = -1 from findI_no fun j hj => hall j (by omega)]
   exact fun _ _ h => h
theorem findC_mem (l : List PCut) (c : PCut) : decide (findI (eqCt c) l ≥ 0) = decide (c ∈ l) := by
 rw [findI_ge, Bool.eq_iff_iff, List.any_eq_true, decide_eq_true_eq]
 constructor
 · rintro ⟨x, hx, h⟩; rw [← (eqCt_iff c x).1 h]; exact hx
 · intro h; exact ⟨c, h, (eqCt_iff c c).2 rfl⟩
theorem containsCt_spec (l : List PCut) (c : PCut) (hl : l.length ≤ 1000000000) : PCall Tryz.prog 85 [.sl 3 (l.map encCt) .no, .agg (encCt c)] (.b (decide (c ∈ l))) := by
 rw [← findC_mem]
 refine PCall.body Tryz.func85 rfl rfl Tryz.ntmps85 rfl rfl ?_
 repeat' (first | refine AOps.q rfl rfl rfl (fun hg => by first | exact std0 | exact PRun.callW (indexCt_spec l c hl) rfl rfl nd rfl nds) (by exact rfl) ?_ | refine AWP.seq ?_ | refine AWP.regionK (fun K' hK => ?_) | (refine AOps.nil (hK _ _ ?_); clear hK K') | refine AOps.e (EStep.boxW rfl rfl rfl rfl rfl True.intro rfl rfl ?_) | refine AWP.ret ?_)
 exact ⟨.inr rfl, Ent.b rfl⟩
theorem erase_at {l : List PCut} {c : PCut} {k : Nat} (hk : k < l.length) (h : eqCt c (l.getD k default) = true) (hall : ∀ j, j < k → eqCt c (l.getD j default) = false) : l.erase c = l.eraseIdx k := by
 induction l generalizing k with
 | nil => simp at hk
 | cons x l ih =>
   cases k with
   | zero =>
     have : x = c := (eqCt_iff c x).1 h
     rw [this, List.erase_cons_head]; rfl
   | succ k =>
     have h0 := hall 0 (by omega)
     have hne : x ≠ c := fun e => by
      have : eqCt c x = true := (eqCt_iff c x).2 e
      exact absurd (h0.symm.trans this) (by decide)
     rw [List.erase_cons_tail (by simpa using hne), List.eraseIdx_cons_succ, ih (by simpa using hk) h fun j hj => hall (j + 1) (by omega)]
def noF : PForm := ⟨0, [], [], ⟨0, 0, 0⟩, []⟩
theorem entNoF : Ent (.agg zF) (.agg (encF noF)) := Ent.agg rfl fun i u v hu hv => by
 match i, hu, hv with
 | 0, hu, hv => cases hu; cases hv; exact Ent.rfl' _
 | 1, hu, hv => cases hu; cases hv; exact Ent.nil
 | 2, hu, hv => cases hu; cases hv; exact Ent.nil
 | 3, hu, hv => cases hu; cases hv; exact Ent.rfl' _
 | 4, hu, hv => cases hu; cases hv; exact Ent.rfl' _
 | 5, hu, hv => cases hu; cases hv; exact Ent.rfl' _
 | 6, hu, hv => cases hu; cases hv; exact Ent.nil
 | i + 7, hu, hv => cases hu
def cutR (f : PForm) (c : PCut) : PForm × Int := if (!formOk f || !cutOk f.bars c) = true then (noF, 1) else if c ∈ f.cuts then (noF, 5) else if f.cuts.length = 100 then (noF, 2) else (withCut f c, 0)
def tupF (r : PForm × Int) : AV := .tup [.agg (encF r.1), .int r.2]
theorem cuts_len {f : PForm} (h : formOk f = true) : f.cuts.length ≤ 100 := by
 unfold formOk at h
 simp only [Bool.and_eq_true, decide_eq_true_eq] at h
 exact h.1.2.2
theorem purC (l : List PCut) : ∀ e ∈ l.map encCt, ∀ a ∈ e, ∀ M B x, VRel M B a x → VRel M [] a x := pure_prims fun e he => by obtain ⟨c, _, rfl⟩ := List.mem_map.1 he; rfl
set_option maxHeartbeats 8000000 in
set_option maxRecDepth 20000 in
theorem cut_spec (f : PForm) (hf : FIn f) (c : PCut) : PCall Tryz.prog 26 [.agg (encF f), .agg (encCt c)] (tupF (cutR f c)) := by
 have h1 := valid_spec f hf
 have h2 := isCut_spec f c
 have h3 := containsCt_spec f.cuts c hf.cuts
 by_cases hA : (!formOk f || !cutOk f.bars c) = true
 · have e : cutR f c = (noF, 1) := if_pos hA
   rw [e]
   generalize formOk f = x at *
   generalize cutOk f.bars c = y at *
   refine PCall.bodyS tabOk Tryz.func26 rfl rfl Tryz.ntmps26 rfl ?_
   repeat' (first | refine AOps.q rfl rfl rfl (fun hg => by first | exact std0 | exact PRun.callW (h1) rfl rfl nd rfl nds | exact PRun.callW (h2) rfl rfl nd rfl nds | exact PRun.buildW tabOk rfl rfl nds) (by exact rfl) ?_ | refine AWP.seq ?_ | refine AWP.regionK (fun K' hK => ?_) | (refine AOps.nil (hK _ _ ?_); clear hK K') | refine AOps.e (EStep.boxW rfl rfl rfl rfl rfl True.intro rfl rfl ?_) | refine AOps.e (EStep.allocW tabOk rfl rfl rfl rfl rfl rfl ?_) | refine AWP.block ?_)
   refine AWP.condW rfl True.intro (fun hc => ?_) (fun hc => absurd (hA.symm.trans hc) (by decide))
   repeat' (first | refine AOps.q rfl rfl rfl (fun hg => by first | exact std0 | exact PRun.buildW tabOk rfl rfl nds) (by exact rfl) ?_ | refine AWP.seq ?_ | refine AWP.regionK (fun K' hK => ?_) | (refine AOps.nil (hK _ _ ?_); clear hK K') | refine AOps.e (EStep.storeW tabOk rfl rfl rfl True.intro rfl rfl True.intro rfl rfl rfl rfl rfl rfl rfl ?_) | refine AWP.ret ?_)
   exact ⟨.inr rfl, _, rfl, Ent.tup2 entNoF (Ent.rfl' _)⟩
 have hA2 : (!formOk f || !cutOk f.bars c) = false := by simpa using hA
 have hform : formOk f = true := by
  rw [Bool.or_eq_false_iff] at hA2; simpa using hA2.1
 have hlen := cuts_len hform
 by_cases hB : c ∈ f.cuts
 · have e : cutR f c = (noF, 5) := by unfold cutR; rw [if_neg hA, if_pos hB]
   rw [e]
   rw [decide_eq_true hB] at h3
   generalize formOk f = x at *
   generalize cutOk f.bars c = y at *
   refine PCall.bodyS tabOk Tryz.func26 rfl rfl Tryz.ntmps26 rfl ?_
   repeat' (first | refine AOps.q rfl rfl rfl (fun hg => by first | exact std0 | exact PRun.callW (h1) rfl rfl nd rfl nds | exact PRun.callW (h2) rfl rfl nd rfl nds | exact PRun.buildW tabOk rfl rfl nds) (by exact rfl) ?_ | refine AWP.seq ?_ | refine AWP.regionK (fun K' hK => ?_) | (refine AOps.nil (hK _ _ ?_); clear hK K') | refine AOps.e (EStep.boxW rfl rfl rfl rfl rfl True.intro rfl rfl ?_) | refine AOps.e (EStep.allocW tabOk rfl rfl rfl rfl rfl rfl ?_) | refine AWP.block ?_)
   refine AWP.condW rfl True.intro (fun hc => absurd (hA2.symm.trans hc) (by decide)) (fun hc => ?_)
   repeat' (first | refine AOps.q rfl rfl rfl (fun hg => by first | exact std0 | exact PRun.callW (h3) rfl rfl nd rfl nds) (by exact rfl) ?_ | refine AWP.seq ?_ | refine AWP.regionK (fun K' hK => ?_) | (refine AOps.nil (hK _ _ ?_); clear hK K'))
   refine AWP.condW rfl True.intro (fun hc => ?_) (fun hc => absurd hc (by decide))
   repeat' (first | refine AOps.q rfl rfl rfl (fun hg => by first | exact std0 | exact PRun.buildW tabOk rfl rfl nds) (by exact rfl) ?_ | refine AWP.seq ?_ | refine AWP.regionK (fun K' hK => ?_) | (refine AOps.nil (hK _ _ ?_); clear hK K') | refine AOps.e (EStep.storeW tabOk rfl rfl rfl True.intro rfl rfl True.intro rfl rfl rfl rfl rfl rfl rfl ?_) | refine AWP.ret ?_)
   exact ⟨.inr rfl, _, rfl, Ent.tup2 entNoF (Ent.rfl' _)⟩
 rw [decide_eq_false hB] at h3
 by_cases hC : f.cuts.length = 100
 · have e : cutR f c = (noF, 2) := by unfold cutR; rw [if_neg hA, if_neg hB, if_pos hC]
   rw [e]
   generalize formOk f = x at *
   generalize cutOk f.bars c = y at *
   refine PCall.bodyS tabOk Tryz.func26 rfl rfl Tryz.ntmps26 rfl ?_
   repeat' (first | refine AOps.q rfl rfl rfl (fun hg => by first | exact std0 | exact PRun.callW (h1) rfl rfl nd rfl nds | exact PRun.callW (h2) rfl rfl nd rfl nds | exact PRun.buildW tabOk rfl rfl nds) (by exact rfl) ?_ | refine AWP.seq ?_ | refine AWP.regionK (fun K' hK => ?_) | (refine AOps.nil (hK _ _ ?_); clear hK K') | refine AOps.e (EStep.boxW rfl rfl rfl rfl rfl True.intro rfl rfl ?_) | refine AOps.e (EStep.allocW tabOk rfl rfl rfl rfl rfl rfl ?_) | refine AWP.block ?_)
   refine AWP.condW rfl True.intro (fun hc => absurd (hA2.symm.trans hc) (by decide)) (fun hc => ?_)
   repeat' (first | refine AOps.q rfl rfl rfl (fun hg => by first | exact std0 | exact PRun.callW (h3) rfl rfl nd rfl nds) (by exact rfl) ?_ | refine AWP.seq ?_ | refine AWP.regionK (fun K' hK => ?_) | (refine AOps.nil (hK _ _ ?_); clear hK K'))
   refine AWP.condW rfl True.intro (fun hc => absurd hc (by decide)) (fun hc => ?_)
   repeat' (first | refine AOps.q rfl rfl rfl (fun hg => by first | exact std0 | exact std1) (by exact rfl) ?_ | refine AWP.seq ?_ | refine AWP.regionK (fun K' hK => ?_) | (refine AOps.nil (hK _ _ ?_); clear hK K'))
   refine AWP.condW rfl True.intro (fun hc => ?_) (fun hc => absurd hc (by first | (simp; done) | (simp; omega)))
   repeat' (first | refine AOps.q rfl rfl rfl (fun hg => by first | exact std0 | exact PRun.buildW tabOk rfl rfl nds) (by exact rfl) ?_ | refine AWP.seq ?_ | refine AWP.regionK (fun K' hK => ?_) | (refine AOps.nil (hK _ _ ?_); clear hK K') | refine AOps.e (EStep.storeW tabOk rfl rfl rfl True.intro rfl rfl True.intro rfl rfl rfl rfl rfl rfl rfl ?_) | refine AWP.ret ?_)
   exact ⟨.inr rfl, _, rfl, Ent.tup2 entNoF (Ent.rfl' _)⟩
 have e : cutR f c = (withCut f c, 0) := by unfold cutR; rw [if_neg hA, if_neg hB, if_neg hC]
 rw [e]
 by_cases hne : f.cuts = []
 · have h4 := TCall.val (first := []) (caps := []) (avs := [.agg (encF f)]) (copied_T0 f hf hne (o0 := .var (encF f)) (o1 := .var (encCt c)) (o2 := .var zF) (fun o ho => by
    simp only [List.mem_cons, List.not_mem_nil, or_false] at ho
    rcases ho with rfl | rfl | rfl
    · exact okF f
    · exact fun m => rfl
    · exact fun m => rfl))
   have e2 : withCut f c = ⟨f.bars, f.reps, f.ends, f.jump, [c]⟩ := by unfold withCut; rw [hne]; rfl
   rw [e2]
   generalize formOk f = x at *
   generalize cutOk f.bars c = y at *
   refine PCall.bodyS tabOk Tryz.func26 rfl rfl Tryz.ntmps26 rfl ?_
   repeat' (first | refine AOps.q rfl rfl rfl (fun hg => by first | exact std0 | exact PRun.callW (h1) rfl rfl nd rfl nds | exact PRun.callW (h2) rfl rfl nd rfl nds | exact PRun.buildW tabOk rfl rfl nds) (by exact rfl) ?_ | refine AWP.seq ?_ | refine AWP.regionK (fun K' hK => ?_) | (refine AOps.nil (hK _ _ ?_); clear hK K') | refine AOps.e (EStep.boxW rfl rfl rfl rfl rfl True.intro rfl rfl ?_) | refine AOps.e (EStep.allocW tabOk rfl rfl rfl rfl rfl rfl ?_) | refine AWP.block ?_)
   refine AWP.condW rfl True.intro (fun hc => absurd (hA2.symm.trans hc) (by decide)) (fun hc => ?_)
   repeat' (first | refine AOps.q rfl rfl rfl (fun hg => by first | exact std0 | exact PRun.callW (h3) rfl rfl nd rfl nds) (by exact rfl) ?_ | refine AWP.seq ?_ | refine AWP.regionK (fun K' hK => ?_) | (refine AOps.nil (hK _ _ ?_); clear hK K'))
   refine AWP.condW rfl True.intro (fun hc => absurd hc (by decide)) (fun hc => ?_)
   repeat' (first | refine AOps.q rfl rfl rfl (fun hg => by first | exact std0 | exact std1) (by exact rfl) ?_ | refine AWP.seq ?_ | refine AWP.regionK (fun K' hK => ?_) | (refine AOps.nil (hK _ _ ?_); clear hK K'))
   refine AWP.condW rfl True.intro (fun hc => absurd hc (by first | (simp; done) | (simp; omega))) (fun hc => ?_)
   repeat' (first | refine AOps.q rfl rfl rfl (fun hg => by exact std0) (by exact rfl) ?_ | refine AWP.seq ?_ | refine AWP.regionK (fun K' hK => ?_) | refine AOps.e (EStep.callT (h4) rfl rfl rfl rfl rfl nd rfl rfl nds ?_) | refine AWP.skip ?_)
   rintro r s ⟨rfl, rfl⟩
   repeat' (first | refine AOps.e (EStep.storeW tabOk rfl rfl rfl True.intro rfl rfl True.intro rfl rfl rfl rfl rfl rfl rfl ?_) | (refine AOps.nil (hK _ _ ?_); clear hK K'))
   refine AWP.newOwn 3 ?_
   show AWP _ _ _ _ _ [.var (encFc f (.sl 3 [] .fresh)), .var (encCt c), .var zF, .var (encFc f (.sl 3 [] .fresh)), .var (encFc f (.sl 3 [] .fresh)), .own 3 0]
   repeat' (first | refine AOps.q rfl rfl rfl (fun hg => by first | exact std0 | exact PRun.buildSlW tabOk rfl rfl nds) (by exact rfl) ?_ | refine AWP.seq ?_ | refine AWP.regionK (fun K' hK => ?_) | (refine AOps.nil (hK _ _ ?_); clear hK K') | refine AOps.e (EStep.storeW tabOk rfl rfl rfl True.intro rfl rfl True.intro rfl rfl rfl rfl rfl rfl rfl ?_) | refine AOps.e (EStep.appendU (l := 5) (es := []) (m := 1) (es3 := [c].map encCt) tabOk rfl rfl rfl (by decide) (.inr ⟨rfl, rfl⟩) (Rd.w rfl True.intro) rfl (Rd.w rfl True.intro) (.sl rfl (one_encCt [c])) (Nat.succ_pos _) (LOk.of (tabOk.get rfl)) (LOk.of (tabOk.get rfl)) rfl rfl (by show (0 + 1) * 24 ≤ 140737488355328; omega) (by show 0 + 1 ≤ 9223372036854775807; omega) rfl rfl ?_) | refine AWP.ret ?_)
   exact ⟨.inr rfl, _, rfl, Ent.of rfl⟩
 · have h4 := TCall.val (first := []) (caps := []) (avs := [.agg (encF f)]) (copied_T f hf (by omega) hne (o0 := .var (encF f)) (o1 := .var (encCt c)) (o2 := .var zF) (fun o ho => by
    simp only [List.mem_cons, List.not_mem_nil, or_false] at ho
    rcases ho with rfl | rfl | rfl
    · exact okF f
    · exact fun m => rfl
    · exact fun m => rfl))
   have hll : (f.cuts.map encCt).length = f.cuts.length := by simp
   have hcell : frzA 5 3 1 ((f.cuts ++ [c]).map encCt) (.sla 5 3 0 (f.cuts.length + 1) 1) = .sl 3 ((f.cuts ++ [c]).map encCt) .no := by
    unfold frzA
    dsimp only
    rw [if_pos ⟨rfl, rfl, rfl, by simp, rfl⟩]
   generalize formOk f = x at *
   generalize cutOk f.bars c = y at *
   refine PCall.bodyS tabOk Tryz.func26 rfl rfl Tryz.ntmps26 rfl ?_
   repeat' (first | refine AOps.q rfl rfl rfl (fun hg => by first | exact std0 | exact PRun.callW (h1) rfl rfl nd rfl nds | exact PRun.callW (h2) rfl rfl nd rfl nds | exact PRun.buildW tabOk rfl rfl nds) (by exact rfl) ?_ | refine AWP.seq ?_ | refine AWP.regionK (fun K' hK => ?_) | (refine AOps.nil (hK _ _ ?_); clear hK K') | refine AOps.e (EStep.boxW rfl rfl rfl rfl rfl True.intro rfl rfl ?_) | refine AOps.e (EStep.allocW tabOk rfl rfl rfl rfl rfl rfl ?_) | refine AWP.block ?_)
   refine AWP.condW rfl True.intro (fun hc => absurd (hA2.symm.trans hc) (by decide)) (fun hc => ?_)
   repeat' (first | refine AOps.q rfl rfl rfl (fun hg => by first | exact std0 | exact PRun.callW (h3) rfl rfl nd rfl nds) (by exact rfl) ?_ | refine AWP.seq ?_ | refine AWP.regionK (fun K' hK => ?_) | (refine AOps.nil (hK _ _ ?_); clear hK K'))
   refine AWP.condW rfl True.intro (fun hc => absurd hc (by decide)) (fun hc => ?_)
   repeat' (first | refine AOps.q rfl rfl rfl (fun hg => by first | exact std0 | exact std1) (by exact rfl) ?_ | refine AWP.seq ?_ | refine AWP.regionK (fun K' hK => ?_) | (refine AOps.nil (hK _ _ ?_); clear hK K'))
   refine AWP.condW rfl True.intro (fun hc => absurd hc (by first | (simp; done) | (simp; omega))) (fun hc => ?_)
   repeat' (first | refine AOps.q rfl rfl rfl (fun hg => by exact std0) (by exact rfl) ?_ | refine AWP.seq ?_ | refine AWP.regionK (fun K' hK => ?_) | refine AOps.e (EStep.callT (h4) rfl rfl rfl rfl rfl nd rfl rfl nds ?_) | refine AWP.skip ?_)
   rintro r s ⟨rfl, rfl⟩
   repeat' (first | refine AOps.q rfl rfl rfl (fun hg => by first | exact std0 | exact PRun.buildSlW tabOk rfl rfl nds) (by exact rfl) ?_ | refine AWP.seq ?_ | refine AWP.regionK (fun K' hK => ?_) | (refine AOps.nil (hK _ _ ?_); clear hK K') | refine AOps.e (EStep.storeW tabOk rfl rfl rfl True.intro rfl rfl True.intro rfl rfl rfl rfl rfl rfl rfl ?_) | refine AOps.e (EStep.appendArr' (l := 5) (sz := 3) (m := f.cuts.length + 1) (es := f.cuts.map encCt) (es3 := (f.cuts ++ [c]).map encCt) tabOk rfl rfl rfl (by decide) (Rd.w rfl True.intro) (.inl ⟨by rw [hll], by simpa using hne⟩) rfl (Rd.w rfl True.intro) (.sl rfl (one_encCt [c])) (Nat.succ_pos _) (LOk.of (tabOk.get rfl)) (LOk.of (tabOk.get rfl)) rfl rfl (by rw [hll]; show (f.cuts.length + 1) * 24 ≤ 140737488355328; omega) (by rw [hll]; show f.cuts.length + 1 ≤ 9223372036854775807; omega) (by rw [hll]; rfl) (by rw [List.map_append]; rfl) ?_))
   refine AWP.freezeAV (l := 5) (sz := 3) (ver := 1) (es := (f.cuts ++ [c]).map encCt) rfl (purC _) ?_
   refine AWP.keep [(4, .ptr 2 0), (5, .int 0)] ⟨rfl, rfl, True.intro⟩ ?_
   show AWP _ _ _ _ _ [_, _, .var (encFc f (frzA 5 3 1 ((f.cuts ++ [c]).map encCt) (.sla 5 3 0 (f.cuts.length + 1) 1))), _, _, _]
   rw [hcell]
   exact AWP.ret ⟨.inr rfl, _, rfl, Ent.of rfl⟩
def openR (f : PForm) (c : PCut) : PForm × Int := if formOk f = false then (noF, 1) else if c ∉ f.cuts then (noF, 4) else (openCut f c, 0)
theorem Ent.agg1 {f : PForm} {u v : AV} (h : Ent u v) : Ent (.agg (encFc f u)) (.agg (encFc f v)) := Ent.agg rfl fun i a b ha hb => by
 match i, ha, hb with
 | 0, ha, hb => cases ha; cases hb; exact Ent.rfl' _
 | 1, ha, hb => cases ha; cases hb; exact Ent.rfl' _
 | 2, ha, hb => cases ha; cases hb; exact Ent.rfl' _
 | 3, ha, hb => cases ha; cases hb; exact Ent.rfl' _
 | 4, ha, hb => cases ha; cases hb; exact Ent.rfl' _
 | 5, ha, hb => cases ha; cases hb; exact Ent.rfl' _
 | 6, ha, hb => cases ha; cases hb; exact h
 | i + 7, ha, hb => cases ha
set_option maxHeartbeats 8000000 in
set_option maxRecDepth 20000 in
theorem open_spec (f : PForm) (hf : FIn f) (c : PCut) : PCall Tryz.prog 27 [.agg (encF f), .agg (encCt c)] (tupF (openR f c)) := by
 have h1 := valid_spec f hf
 have h2 := indexCt_spec f.cuts c hf.cuts
 by_cases hA : formOk f = false
 · have e : openR f c = (noF, 1) := if_pos hA
   rw [e]
   rw [hA] at h1
   refine PCall.bodyS tabOk Tryz.func27 rfl rfl Tryz.ntmps27 rfl ?_
   repeat' (first | refine AOps.q rfl rfl rfl (fun hg => by first | exact std0 | exact PRun.callW (h1) rfl rfl nd rfl nds) (by exact rfl) ?_ | refine AWP.seq ?_ | refine AWP.regionK (fun K' hK => ?_) | (refine AOps.nil (hK _ _ ?_); clear hK K') | refine AOps.e (EStep.boxW rfl rfl rfl rfl rfl True.intro rfl rfl ?_) | refine AOps.e (EStep.allocW tabOk rfl rfl rfl rfl rfl rfl ?_))
   refine AWP.condW rfl True.intro (fun hc => ?_) (fun hc => absurd hc (by decide))
   repeat' (first | refine AOps.q rfl rfl rfl (fun hg => by first | exact std0 | exact PRun.buildW tabOk rfl rfl nds) (by exact rfl) ?_ | refine AWP.seq ?_ | refine AWP.regionK (fun K' hK => ?_) | (refine AOps.nil (hK _ _ ?_); clear hK K') | refine AOps.e (EStep.storeW tabOk rfl rfl rfl True.intro rfl rfl True.intro rfl rfl rfl rfl rfl rfl rfl ?_) | refine AWP.ret ?_)
   exact ⟨.inr rfl, _, rfl, Ent.tup2 entNoF (Ent.rfl' _)⟩
 have hform : formOk f = true := by simpa using hA
 rw [hform] at h1
 have hlen := cuts_len hform
 by_cases hB : c ∉ f.cuts
 · have e : openR f c = (noF, 4) := by unfold openR; rw [if_neg hA, if_pos hB]
   rw [e]
   have hneg : findI (eqCt c) f.cuts < 0 := by
    have := findC_mem f.cuts c
    rw [decide_eq_false hB] at this
    simpa using this
   refine PCall.bodyS tabOk Tryz.func27 rfl rfl Tryz.ntmps27 rfl ?_
   repeat' (first | refine AOps.q rfl rfl rfl (fun hg => by first | exact std0 | exact PRun.callW (h1) rfl rfl nd rfl nds) (by exact rfl) ?_ | refine AWP.seq ?_ | refine AWP.regionK (fun K' hK => ?_) | (refine AOps.nil (hK _ _ ?_); clear hK K') | refine AOps.e (EStep.boxW rfl rfl rfl rfl rfl True.intro rfl rfl ?_) | refine AOps.e (EStep.allocW tabOk rfl rfl rfl rfl rfl rfl ?_))
   refine AWP.condW rfl True.intro (fun hc => absurd hc (by decide)) (fun hc => ?_)
   repeat' (first | refine AOps.q rfl rfl rfl (fun hg => by first | exact std0 | exact PRun.callW (h2) rfl rfl nd rfl nds) (by exact rfl) ?_ | refine AWP.seq ?_ | refine AWP.regionK (fun K' hK => ?_) | (refine AOps.nil (hK _ _ ?_); clear hK K') | refine AWP.skip ?_)
   refine AWP.condW rfl True.intro (fun hc => ?_) (fun hc => absurd hc (by first | (simp; done) | (simp; omega)))
   repeat' (first | refine AOps.q rfl rfl rfl (fun hg => by first | exact std0 | exact PRun.buildW tabOk rfl rfl nds) (by exact rfl) ?_ | refine AWP.seq ?_ | refine AWP.regionK (fun K' hK => ?_) | (refine AOps.nil (hK _ _ ?_); clear hK K') | refine AOps.e (EStep.storeW tabOk rfl rfl rfl True.intro rfl rfl True.intro rfl rfl rfl rfl rfl rfl rfl ?_) | refine AWP.ret ?_)
   exact ⟨.inr rfl, _, rfl, Ent.tup2 entNoF (Ent.rfl' _)⟩
 have e : openR f c = (openCut f c, 0) := by unfold openR; rw [if_neg hA, if_neg hB]
 rw [e]
 have hB' : c ∈ f.cuts := Classical.not_not.1 hB
 have hpos : 0 ≤ findI (eqCt c) f.cuts := by
  have := findC_mem f.cuts c
  rw [decide_eq_true hB'] at this
  simpa using this
 obtain ⟨i, hi, hil, hieq, hiall⟩ := findI_lt hpos
 rw [hi] at h2
 have he := erase_at hil hieq hiall
 have hne : f.cuts ≠ [] := by intro h; rw [h] at hil; simp at hil
 have hop : encF (openCut f c) = encFc f (.sl 3 ((f.cuts.eraseIdx i).map encCt) .no) := by
  unfold openCut; rw [he]; rfl
 have h4 := TCall.val (first := []) (caps := []) (avs := [.agg (encF f)]) (copied_T f hf (by omega) hne (o0 := .var (encF f)) (o1 := .var (encCt c)) (o2 := .var zF) (fun o ho => by
  simp only [List.mem_cons, List.not_mem_nil, or_false] at ho
  rcases ho with rfl | rfl | rfl
  · exact okF f
  · exact fun m => rfl
  · exact fun m => rfl))
 have hok : ([.var (encFc f (.sla 5 3 0 f.cuts.length 0)), .var (encCt c), .var zF, .var (encFc f (.sla 5 3 0 f.cuts.length 0)), .var (encFc f (.sla 5 3 0 f.cuts.length 0))] : Store).all (okObj 6) = true := by
  have e5 : okObj 6 (.var (encFc f (.sla 5 3 0 f.cuts.length 0))) = true := by simp [okObj, encFc, okRef, encRp, encEn]
  simp only [List.all_cons, List.all_nil, e5]; rfl
 have h5 := TCall.val (first := []) (caps := []) (avs := [.sla 5 3 0 f.cuts.length 0, .int i, .int ((i : Int) + 1)]) (delete_T (by omega) hil hok)
 have hdl : ((f.cuts.eraseIdx i).map encCt).length = f.cuts.length - 1 := by
  rw [List.length_map, List.length_eraseIdx, if_pos hil]
 refine PCall.bodyS tabOk Tryz.func27 rfl rfl Tryz.ntmps27 rfl ?_
 repeat' (first | refine AOps.q rfl rfl rfl (fun hg => by first | exact std0 | exact PRun.callW (h1) rfl rfl nd rfl nds) (by exact rfl) ?_ | refine AWP.seq ?_ | refine AWP.regionK (fun K' hK => ?_) | (refine AOps.nil (hK _ _ ?_); clear hK K') | refine AOps.e (EStep.boxW rfl rfl rfl rfl rfl True.intro rfl rfl ?_) | refine AOps.e (EStep.allocW tabOk rfl rfl rfl rfl rfl rfl ?_))
 refine AWP.condW rfl True.intro (fun hc => absurd hc (by decide)) (fun hc => ?_)
 repeat' (first | refine AOps.q rfl rfl rfl (fun hg => by first | exact std0 | exact PRun.callW (h2) rfl rfl nd rfl nds) (by exact rfl) ?_ | refine AWP.seq ?_ | refine AWP.regionK (fun K' hK => ?_) | (refine AOps.nil (hK _ _ ?_); clear hK K') | refine AWP.skip ?_)
 refine AWP.condW rfl True.intro (fun hc => absurd hc (by first | (simp; done) | (simp; omega))) (fun hc => ?_)
 repeat' (first | refine AOps.q rfl rfl rfl (fun hg => by exact std0) (by exact rfl) ?_ | refine AWP.seq ?_ | refine AWP.regionK (fun K' hK => ?_) | refine AOps.e (EStep.callT (h4) rfl rfl rfl rfl rfl nd rfl rfl nds ?_) | refine AWP.skip ?_)
 rintro r s ⟨rfl, rfl⟩
 repeat' (first | refine AOps.q rfl rfl rfl (fun hg => by exact std0) (by exact rfl) ?_ | refine AWP.seq ?_ | refine AWP.regionK (fun K' hK => ?_) | (refine AOps.nil (hK _ _ ?_); clear hK K') | refine AOps.e (EStep.storeW tabOk rfl rfl rfl True.intro rfl rfl True.intro rfl rfl rfl rfl rfl rfl rfl ?_) | refine AOps.e (EStep.callT (h5) rfl rfl rfl rfl rfl nd rfl rfl nds ?_))
 rintro r s ⟨rfl, rfl⟩
 rcases hq : f.cuts.length - 1 with _ | q
 · rw [hq] at hdl
   have hnil : f.cuts.eraseIdx i = [] := by simpa using hdl
   repeat' (first | refine AOps.q rfl rfl rfl (fun hg => by exact std0) (by exact rfl) ?_ | refine AWP.seq ?_ | refine AWP.regionK (fun K' hK => ?_) | (refine AOps.nil (hK _ _ ?_); clear hK K') | refine AOps.e (EStep.storeW tabOk rfl rfl rfl True.intro rfl rfl True.intro rfl rfl rfl rfl rfl rfl rfl ?_))
   refine AWP.keep [(4, .ptr 2 0), (5, .int 0)] ⟨rfl, rfl, True.intro⟩ ?_
   refine AWP.ret ⟨.inr rfl, _, rfl, ?_⟩
   show Ent (.tup [.agg (encFc f (.sl 3 [] .no)), .int 0]) (.tup [.agg (encF (openCut f c)), .int 0])
   rw [hop, hnil]
   exact Ent.rfl' _
 · rw [hq] at hdl
   have hcell : frzA 5 3 0 ((f.cuts.eraseIdx i).map encCt) (.sla 5 3 0 (q + 1) 0) = .sl 3 ((f.cuts.eraseIdx i).map encCt) .no := by
    unfold frzA
    dsimp only
    rw [if_pos ⟨rfl, rfl, rfl, hdl.symm, rfl⟩]
   repeat' (first | refine AOps.q rfl rfl rfl (fun hg => by exact std0) (by exact rfl) ?_ | refine AWP.seq ?_ | refine AWP.regionK (fun K' hK => ?_) | (refine AOps.nil (hK _ _ ?_); clear hK K') | refine AOps.e (EStep.storeW tabOk rfl rfl rfl True.intro rfl rfl True.intro rfl rfl rfl rfl rfl rfl rfl ?_))
   refine AWP.freezeAV (l := 5) (sz := 3) (ver := 0) (es := (f.cuts.eraseIdx i).map encCt) rfl (purC _) ?_
   refine AWP.keep [(4, .ptr 2 0), (5, .int 0)] ⟨rfl, rfl, True.intro⟩ ?_
   show AWP _ _ _ _ _ [_, _, .var (encFc f (frzA 5 3 0 ((f.cuts.eraseIdx i).map encCt) (.sla 5 3 0 (q + 1) 0))), _, _, _]
   rw [hcell]
   refine AWP.ret ⟨.inr rfl, _, rfl, ?_⟩
   show Ent (.tup [.agg (encFc f (.sl 3 ((f.cuts.eraseIdx i).map encCt) .no)), .int 0]) (.tup [.agg (encF (openCut f c)), .int 0])
   rw [hop]
   exact Ent.rfl' _
end Go.Proofs.YtdglbdfdkabjfaaGreatDoor.Pl
