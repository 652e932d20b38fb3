/- Contracts by content: the reference's durations, spans, notes of a part and bar. No statement is proved here. -/
import Derived.Test.YtnmdmmfdnnmdfaaDoorND
import Derived.Test.YtnmdmmfdnnmdfaaDoorNC
import Derived.Test.YtnmdmmfdnnmdfaaDoorSG
set_option linter.unusedVariables false
set_option linter.unusedSimpArgs false
namespace Go.Proofs.YtnmdmmfdnnmdfaaDoor.Nt
open Go.Ab
attribute [local irreducible] AWP AOps EStep AQ PStep PRun PCall TCall VCall

theorem of6_spec (n : Int) (h : 0 ≤ n ∧ n ≤ 1000000) : PCall Tryd.prog 103 [.int n] (.agg (encR (ratQ n))) := by
  have gg := gcd6_spec n 1680 ⟨⟨h.1, by omega⟩, by decide, by decide⟩
  have hg0 : 0 < Int.gcd n 1680 := Int.gcd_pos_of_ne_zero_right n (by decide)
  have er : ratQ n = ⟨n.tdiv (Int.gcd n 1680 : Nat), (1680 : Int).tdiv (Int.gcd n 1680 : Nat)⟩ := rfl
  rw [er]
  have q1 := tdiv_le n (Int.gcd n 1680 : Nat)
  have q2 := tdiv_le 1680 (Int.gcd n 1680 : Nat)
  generalize Int.gcd n 1680 = g at *
  refine PCall.bodyS tabOk Tryd.func103 rfl rfl Tryd.ntmps103 rfl ?_
  repeat' (first | refine AOps.q rfl rfl rfl (fun hg => by first | exact std0 | exact PRun.callW (gg) rfl rfl nd rfl nds | exact PRun.buildW tabOk rfl rfl nds | exact std1) (by exact rfl) ?_ | refine AWP.seq ?_ | refine AWP.regionK (fun K' hK => ?_) | (refine AOps.nil (hK _ _ ?_); clear hK K') | refine AOps.e (EStep.boxW rfl rfl rfl rfl rfl True.intro rfl rfl ?_) | refine AOps.e (EStep.storeW tabOk rfl rfl rfl True.intro rfl rfl True.intro rfl rfl rfl rfl rfl rfl rfl ?_) | refine AOps.e (EStep.allocW tabOk rfl rfl rfl rfl rfl rfl ?_) | (refine AWP.condW rfl True.intro (fun hc => ?_) (fun hc => ?_) <;> (first | (simp only [decide_eq_true_eq] at hc) | (simp only [decide_eq_false_iff_not, Int.not_lt, Int.not_le] at hc) | skip)) | refine AWP.block ?_ | refine AWP.exit ?_ | refine AWP.skip ?_ | refine AWP.ret ?_ | refine AWP.drawK2 (by decide +kernel) (by kernel_rfl) (by decide +kernel) rfl (fun K' hK => ?_) | refine AWP.drawL2 (by kernel_rfl) (by decide +kernel) rfl (fun K' hK => ?_) | (refine AQ.nil (hK _ ?_); clear hK K') | refine AQ.nil ?_ | refine AQ.q rfl rfl (fun hg => by first | exact std0 | exact PRun.callW (gg) rfl rfl nd rfl nds | exact PRun.buildW tabOk rfl rfl nds | exact std1) (by exact rfl) ?_)
  exact ⟨.inr rfl, _, rfl, Ent.of rfl⟩
/-- A span, in parts of a quarter; in quarters. -/
def encIv (x : Iv) : List AV := [.int x.1, .int x.2]
def encQ (x : Iv) : List AV := [.int (ratQ x.1).n, .int (ratQ x.1).d, .int (ratQ x.2).n, .int (ratQ x.2).d]
theorem one_encIv (l : List Iv) : ∀ x ∈ l.map encIv, x.all oneAV = true := fun x hx => by
  obtain ⟨c, _, rfl⟩ := List.mem_map.1 hx; rfl
theorem one_encQ (l : List Iv) : ∀ x ∈ l.map encQ, x.all oneAV = true := fun x hx => by
  obtain ⟨c, _, rfl⟩ := List.mem_map.1 hx; rfl
theorem pureIv (l : List Iv) : ∀ e ∈ l.map encIv, ∀ a ∈ e, ∀ M B x, VRel M B a x → VRel M [] a x := fun e he a ha M B x hx => by
  obtain ⟨n, _, rfl⟩ := List.mem_map.1 he
  simp only [encIv, List.mem_cons, List.not_mem_nil, or_false] at ha
  rcases ha with rfl | rfl <;> (rw [VRel.prim_eq hx]; exact .prim _)
/-- The slice that the reference joins its spans in. -/
def slotO (out : List Iv) : AV := match out with
  | [] => .sl 2 [] (.own 0)
  | _ :: _ => .sla 0 2 0 (out.map encIv).length out.length
theorem slotO_ne {out : List Iv} (h : out ≠ []) : slotO out = .sla 0 2 0 (out.map encIv).length out.length := by
  cases out with
  | nil => exact absurd rfl h
  | cons _ _ => rfl
theorem addR_last {out : List Iv} (h : out ≠ []) (x : Iv) : addR out x = if x.1 ≤ (out.getD (out.length - 1) default).2 then out.set (out.length - 1) ((out.getD (out.length - 1) default).1, max (out.getD (out.length - 1) default).2 x.2) else out ++ [x] := by
  obtain ⟨init, s, rfl⟩ : ∃ init s, out = init ++ [s] := ⟨out.dropLast, out.getLast h, (List.dropLast_concat_getLast h).symm⟩
  have e : (init ++ [s]).getD ((init ++ [s]).length - 1) default = s := by simp
  rw [addR_snoc, e]
  split
  · simp
  · rfl
theorem durOk_note {bars : List Bar} {l : List Note} (h : notesOk bars l = true) : ∀ n ∈ l, durOk n.start = true ∧ durOk n.len = true := fun n hn => by
  unfold notesOk at h
  simp only [Bool.and_eq_true, List.all_eq_true] at h
  have h1 := h.1.2 n hn
  unfold noteOk at h1
  split at h1
  · unfold nformed fits at h1
    simp only [Bool.and_eq_true] at h1
    have a := h1.1.1.1.1
    have b := h1.1.1.1.2
    unfold ticksR at a b
    constructor
    · by_cases h2 : durOk n.start = true
      · exact h2
      · rw [if_neg h2] at a; cases a
    · by_cases h2 : durOk n.len = true
      · exact h2
      · rw [if_neg h2] at b; cases b
  · cases h1
theorem ticksX_ok {r : Rat} (h : durOk r = true) : ticksX r = (ticksR r).1 := by unfold ticksX ticksR; rw [if_pos h, if_pos h]
theorem spansR_snoc (l : List Iv) (x : Iv) : spansR (l ++ [x]) = addR (spansR l) x := by unfold spansR; rw [List.foldl_append]; rfl
theorem addR_len (out : List Iv) (x : Iv) : (addR out x).length ≤ out.length + 1 := by
  by_cases h : out = []
  · subst h; simp [addR_nil]
  · rw [addR_last h]; split <;> simp
theorem spansR_len : ∀ (l : List Iv) (out : List Iv), (l.foldl addR out).length ≤ out.length + l.length
  | [], out => by simp
  | x :: r, out => by
    have := spansR_len r (addR out x)
    have := addR_len out x
    simp only [List.foldl_cons, List.length_cons]; omega
set_option maxHeartbeats 4000000 in
set_option maxRecDepth 20000 in
theorem spans7_spec (l : List Note) (hl : l.length ≤ 1000000) (hd : ∀ n ∈ l, durOk n.start = true ∧ durOk n.len = true) :
    PCall Tryd.prog 66 [.sl 12 (l.map encN) .no] (.sl 2 ((spansR (l.map iv)).map encIv) .no) := by
  refine PCall.body Tryd.func66 rfl rfl Tryd.ntmps66 rfl rfl ?_
  repeat' (first | refine AOps.q rfl rfl rfl (fun hg => by first | exact std0 | exact std1) (by exact rfl) ?_ | refine AWP.seq ?_ | refine AWP.regionK (fun K' hK => ?_) | (refine AOps.nil (hK _ _ ?_); clear hK K') | refine AOps.e (EStep.boxW rfl rfl rfl rfl rfl True.intro rfl rfl ?_) | refine AOps.e (EStep.storeW tabOk rfl rfl rfl True.intro rfl rfl True.intro rfl rfl rfl rfl rfl rfl rfl ?_) | refine AOps.e (EStep.allocW tabOk rfl rfl rfl rfl rfl rfl ?_) | (refine AWP.condW rfl True.intro (fun hc => ?_) (fun hc => ?_) <;> (first | (simp only [decide_eq_true_eq] at hc) | (simp only [decide_eq_false_iff_not, Int.not_lt, Int.not_le] at hc) | skip)) | refine AWP.block ?_ | refine AWP.exit ?_ | refine AWP.skip ?_ | refine AWP.ret ?_ | refine AWP.drawK2 (by decide +kernel) (by kernel_rfl) (by decide +kernel) rfl (fun K' hK => ?_) | refine AWP.drawL2 (by kernel_rfl) (by decide +kernel) rfl (fun K' hK => ?_) | (refine AQ.nil (hK _ ?_); clear hK K') | refine AQ.nil ?_ | refine AQ.q rfl rfl (fun hg => by first | exact std0 | exact std1) (by exact rfl) ?_)
  refine AWP.arrNil 2 (d := 3) rfl ?_
  refine AWP.loopW (ι := List Iv × Nat) (fun x => [(0, .sl 12 (l.map encN) .no), (3, slotO x.1), (4, .int x.2)]) (fun x => [.arr 2 x.1.length (x.1.map encIv)]) (fun x => x.2 ≤ l.length ∧ x.1 = spansR ((l.take x.2).map iv)) (fun x => l.length - x.2) ([], 0) ⟨Nat.zero_le _, rfl⟩ ⟨rfl, rfl, rfl, True.intro⟩ rfl ?_
  rintro ⟨out, k⟩ ⟨hk, ho⟩
  dsimp only at hk ho
  have hol : out.length ≤ l.length := by
    have := spansR_len ((l.take k).map iv) []
    rw [ho]; unfold spansR
    simp only [List.length_nil, List.length_map, List.length_take] at this ⊢
    omega
  by_cases hlt : k < l.length
  · obtain ⟨n, hn⟩ : ∃ n, l.getD k default = n := ⟨_, rfl⟩
    obtain ⟨d1, d2⟩ := hd n (by rw [← hn]; exact getD_mem hlt)
    have q1 := ticksR_in n.start
    have q2 := ticksR_in n.len
    have c1 := ticks6_spec n.start
    have c2 := ticks6_spec n.len
    rw [ticksX_ok d1] at c1
    rw [ticksX_ok d2] at c2
    have hnext : spansR ((l.take (k + 1)).map iv) = addR out (iv n) := by
      rw [take_snoc' hlt, List.map_append, ho, hn]; exact spansR_snoc _ _
    have i1 : (iv n).1 = (ticksR n.start).1 := rfl
    have i2 : (iv n).2 = (ticksR n.start).1 + (ticksR n.len).1 := rfl
    obtain ⟨a, ha⟩ : ∃ a, (ticksR n.start).1 = a := ⟨_, rfl⟩
    obtain ⟨d, hdd⟩ : ∃ d, (ticksR n.len).1 = d := ⟨_, rfl⟩
    have hiv : iv n = (a, a + d) := Prod.ext (by rw [i1, ha]) (by rw [i2, ha, hdd])
    rw [hiv] at hnext
    rw [ha] at c1 q1
    rw [hdd] at c2 q2
    clear i1 i2 ha hdd hiv ho
    rcases out with _ | ⟨y, r⟩
    · rw [addR_nil] at hnext
      repeat' (first | refine AOps.q rfl rfl rfl (fun hg => by first | exact PRun.eq (v := .iptr (encN (l.getD ((k : Nat) : Int).toNat default))) (PRun.indexMW tabOk rfl rfl nd rfl nd rfl rfl (by omega)) (congrArg (fun x => AV.iptr (encN x)) hn) | exact std0 | exact PRun.callW (c1) rfl rfl nd rfl nds | exact PRun.callW (c2) rfl rfl nd rfl nds | exact (Bool.noConfusion (show false = true from hg) : PRun _ _ _ _ (.b false)) | exact PRun.buildAW tabOk rfl rfl nds | exact PRun.buildSlW tabOk rfl rfl nds | exact std1) (by exact rfl) ?_ | refine AWP.seq ?_ | refine AWP.regionK (fun K' hK => ?_) | (refine AOps.nil (hK _ _ ?_); clear hK K') | refine AOps.e (EStep.boxW rfl rfl rfl rfl rfl True.intro rfl rfl ?_) | refine AOps.e (EStep.storeW tabOk rfl rfl rfl True.intro rfl rfl True.intro rfl rfl rfl rfl rfl rfl rfl ?_) | refine AOps.e (EStep.allocW tabOk rfl rfl rfl rfl rfl rfl ?_) | refine AOps.e (EStep.appendArr tabOk rfl rfl rfl (by decide) (Rd.w rfl True.intro) (.inr ⟨rfl, rfl, rfl⟩) rfl (Rd.w rfl True.intro) (.sl rfl (by intro x hx; rcases List.mem_singleton.1 hx with rfl; rfl)) (Nat.succ_pos _) (LOk.of (tabOk.get rfl)) (LOk.of (tabOk.get rfl)) rfl rfl (by simp only [List.length_map, List.length_append, List.length_cons, List.length_nil]; omega) (by simp only [List.length_map, List.length_append, List.length_cons, List.length_nil]; omega) ?_) | (refine AWP.condW rfl True.intro (fun hc => ?_) (fun hc => ?_) <;> (first | (simp only [decide_eq_true_eq] at hc) | (simp only [decide_eq_false_iff_not, Int.not_lt, Int.not_le] at hc) | skip)) | refine AWP.block ?_ | refine AWP.exit ?_ | refine AWP.skip ?_ | refine AWP.ret ?_ | refine AWP.drawK2 (by decide +kernel) (by kernel_rfl) (by decide +kernel) rfl (fun K' hK => ?_) | refine AWP.drawL2 (by kernel_rfl) (by decide +kernel) rfl (fun K' hK => ?_) | (refine AQ.nil (hK _ ?_); clear hK K') | refine AQ.nil ?_ | refine AQ.q rfl rfl (fun hg => by first | exact PRun.eq (v := .iptr (encN (l.getD ((k : Nat) : Int).toNat default))) (PRun.indexMW tabOk rfl rfl nd rfl nd rfl rfl (by omega)) (congrArg (fun x => AV.iptr (encN x)) hn) | exact std0 | exact PRun.callW (c1) rfl rfl nd rfl nds | exact PRun.callW (c2) rfl rfl nd rfl nds | exact (Bool.noConfusion (show false = true from hg) : PRun _ _ _ _ (.b false)) | exact PRun.buildAW tabOk rfl rfl nds | exact PRun.buildSlW tabOk rfl rfl nds | exact std1) (by exact rfl) ?_)
      all_goals (first | (exfalso; omega) | (exfalso; simp at hc; done) | (exfalso; simp at hc; omega) | skip)
      exact ⟨([(a, a + d)], k + 1), ⟨hlt, hnext.symm⟩, by show l.length - (k + 1) < l.length - k; omega, ⟨rfl, rfl, rfl, True.intro⟩, rfl⟩
    · have hne : y :: r ≠ [] := by simp
      have hml : ((y :: r).map encIv).length = (y :: r).length := by simp
      have hp1 : 0 < ((y :: r).map encIv).length := by simp
      have hib : (0 : Int) ≤ (((y :: r).map encIv).length : Int) - 1 ∧ (((y :: r).map encIv).length : Int) - 1 < (((y :: r).map encIv).length : Nat) := ⟨by omega, by omega⟩
      rw [addR_last hne] at hnext
      obtain ⟨s, hs⟩ : ∃ s, (y :: r).getD ((y :: r).length - 1) default = s := ⟨_, rfl⟩
      rw [hs] at hnext
      have hix : ((((y :: r).map encIv).length : Int) - 1).toNat = (y :: r).length - 1 := by rw [hml]; omega
      have hld : ∀ {o : Oper} {env : Env} {σ : Store} {t : TypeId} {z : Operand} {li : LI} {off : Nat}, o.op = .load t z → rdv env z = some (.eptr 0 2 ((((y :: r).map encIv).length : Int) - 1).toNat off (y :: r).length) → rdn env z → σ[0]? = some (.arr 2 (y :: r).length ((y :: r).map encIv)) → tab.get t = some li → takeF li off (encIv s) = some (.int s.2) → PRun Tryd.prog o env σ (.int s.2) := fun a1 a2 a3 a4 a5 a6 =>
        PRun.loadEM (f := encIv) (xs := y :: r) tabOk a1 a2 a3 a4 (by rw [hix]; simp) a5 (by rw [hix, hs]; exact a6)
      have hset : ((y :: r).map encIv).set ((((y :: r).map encIv).length : Int) - 1).toNat ((((y :: r).map encIv).getD ((((y :: r).map encIv).length : Int) - 1).toNat []).set 1 (.int (max s.2 (a + d)))) = ((y :: r).set ((y :: r).length - 1) (s.1, max s.2 (a + d))).map encIv := by
        rw [hix, List.map_set]
        congr 1
        have hlt2 : (y :: r).length - 1 < (y :: r).length := by simp
        have e : (List.map encIv (y :: r)).getD ((y :: r).length - 1) [] = encIv s := by
          rw [← hs]; simp only [List.getD_eq_getElem?_getD, List.getElem?_map, List.getElem?_eq_getElem hlt2]; rfl
        rw [e]; rfl
      by_cases hle : a ≤ s.2
      · rw [if_pos (show (a, a + d).1 ≤ s.2 from hle)] at hnext
        repeat' (first | refine AOps.q rfl rfl rfl (fun hg => by first | exact hld rfl rfl nd rfl rfl rfl | exact PRun.eq (v := .iptr (encN (l.getD ((k : Nat) : Int).toNat default))) (PRun.indexMW tabOk rfl rfl nd rfl nd rfl rfl (by omega)) (congrArg (fun x => AV.iptr (encN x)) hn) | exact std0 | exact PRun.callW (c1) rfl rfl nd rfl nds | exact PRun.callW (c2) rfl rfl nd rfl nds | exact PRun.lenA tabOk rfl rfl nd rfl | exact PRun.indexA0 tabOk rfl rfl nd rfl nd rfl (by decide) rfl hib | exact PRun.indexEA tabOk rfl rfl nd rfl nd rfl rfl ⟨by decide, by decide⟩ (by decide) | exact std1) (by exact rfl) ?_ | refine AWP.seq ?_ | refine AWP.regionK (fun K' hK => ?_) | (refine AOps.nil (hK _ _ ?_); clear hK K') | refine AOps.e (EStep.boxW rfl rfl rfl rfl rfl True.intro rfl rfl ?_) | refine AOps.e (EStep.storeW tabOk rfl rfl rfl True.intro rfl rfl True.intro rfl rfl rfl rfl rfl rfl rfl ?_) | refine AOps.e (EStep.allocW tabOk rfl rfl rfl rfl rfl rfl ?_) | (refine AWP.condW rfl True.intro (fun hc => ?_) (fun hc => ?_) <;> (first | (simp only [decide_eq_true_eq] at hc) | (simp only [decide_eq_false_iff_not, Int.not_lt, Int.not_le] at hc) | skip)) | refine AWP.block ?_ | refine AWP.exit ?_ | refine AWP.skip ?_ | refine AWP.ret ?_ | refine AWP.drawK2 (by decide +kernel) (by kernel_rfl) (by decide +kernel) rfl (fun K' hK => ?_) | refine AWP.drawL2 (by kernel_rfl) (by decide +kernel) rfl (fun K' hK => ?_) | (refine AQ.nil (hK _ ?_); clear hK K') | refine AQ.nil ?_ | refine AQ.q rfl rfl (fun hg => by first | exact hld rfl rfl nd rfl rfl rfl | exact PRun.eq (v := .iptr (encN (l.getD ((k : Nat) : Int).toNat default))) (PRun.indexMW tabOk rfl rfl nd rfl nd rfl rfl (by omega)) (congrArg (fun x => AV.iptr (encN x)) hn) | exact std0 | exact PRun.callW (c1) rfl rfl nd rfl nds | exact PRun.callW (c2) rfl rfl nd rfl nds | exact PRun.lenA tabOk rfl rfl nd rfl | exact PRun.indexA0 tabOk rfl rfl nd rfl nd rfl (by decide) rfl hib | exact PRun.indexEA tabOk rfl rfl nd rfl nd rfl rfl ⟨by decide, by decide⟩ (by decide) | exact std1) (by exact rfl) ?_)
        all_goals (first | (exfalso; omega) | (exfalso; simp at hc; omega) | skip)
        refine AWP.drawY (fun j => match j with | 0 => [.arr 2 (y :: r).length ((y :: r).map encIv)] | _ => [.arr 2 (y :: r).length (((y :: r).map encIv).set ((((y :: r).map encIv).length : Int) - 1).toNat ((((y :: r).map encIv).getD ((((y :: r).map encIv).length : Int) - 1).toNat []).set 1 (.int (max s.2 (a + d)))))]) rfl (by kernel_rfl) (by decide +kernel) rfl (by decide +kernel) (fun K' hK => ?_)
        repeat' (first
          | refine YQ.q (a := 0) (b := 0) rfl (by decide +kernel) (by decide +kernel) rfl rfl rfl (fun k h1 h2 hg => by (have hk : k = 0 := (by omega)); (rcases hk with rfl) <;> (first | exact hld rfl rfl nd rfl rfl rfl | exact std0 | exact PRun.lenA tabOk rfl rfl nd rfl | exact PRun.indexA0 tabOk rfl rfl nd rfl nd rfl (by decide) rfl hib | exact PRun.indexEA tabOk rfl rfl nd rfl nd rfl rfl ⟨by decide, by decide⟩ (by decide) | exact std1)) (by exact rfl) ?_
          | refine YQ.q (a := 0) (b := 1) rfl (by decide +kernel) (by decide +kernel) rfl rfl rfl (fun k h1 h2 hg => by (have hk : k = 0 ∨ k = 1 := (by omega)); (rcases hk with rfl | rfl) <;> (first | exact hld rfl rfl nd rfl rfl rfl | exact std0 | exact PRun.lenA tabOk rfl rfl nd rfl | exact PRun.indexA0 tabOk rfl rfl nd rfl nd rfl (by decide) rfl hib | exact PRun.indexEA tabOk rfl rfl nd rfl nd rfl rfl ⟨by decide, by decide⟩ (by decide) | exact std1)) (by exact rfl) ?_
          | refine YQ.q (a := 1) (b := 1) rfl (by decide +kernel) (by decide +kernel) rfl rfl rfl (fun k h1 h2 hg => by (have hk : k = 1 := (by omega)); (rcases hk with rfl) <;> (first | exact hld rfl rfl nd rfl rfl rfl | exact std0 | exact PRun.lenA tabOk rfl rfl nd rfl | exact PRun.indexA0 tabOk rfl rfl nd rfl nd rfl (by decide) rfl hib | exact PRun.indexEA tabOk rfl rfl nd rfl nd rfl rfl ⟨by decide, by decide⟩ (by decide) | exact std1)) (by exact rfl) ?_
          | refine YQ.q (a := 0) (b := 2) rfl (by decide +kernel) (by decide +kernel) rfl rfl rfl (fun k h1 h2 hg => by (have hk : k = 0 ∨ k = 1 ∨ k = 2 := (by omega)); (rcases hk with rfl | rfl | rfl) <;> (first | exact hld rfl rfl nd rfl rfl rfl | exact std0 | exact PRun.lenA tabOk rfl rfl nd rfl | exact PRun.indexA0 tabOk rfl rfl nd rfl nd rfl (by decide) rfl hib | exact PRun.indexEA tabOk rfl rfl nd rfl nd rfl rfl ⟨by decide, by decide⟩ (by decide) | exact std1)) (by exact rfl) ?_
          | refine YQ.q (a := 1) (b := 2) rfl (by decide +kernel) (by decide +kernel) rfl rfl rfl (fun k h1 h2 hg => by (have hk : k = 1 ∨ k = 2 := (by omega)); (rcases hk with rfl | rfl) <;> (first | exact hld rfl rfl nd rfl rfl rfl | exact std0 | exact PRun.lenA tabOk rfl rfl nd rfl | exact PRun.indexA0 tabOk rfl rfl nd rfl nd rfl (by decide) rfl hib | exact PRun.indexEA tabOk rfl rfl nd rfl nd rfl rfl ⟨by decide, by decide⟩ (by decide) | exact std1)) (by exact rfl) ?_
          | refine YQ.q (a := 2) (b := 2) rfl (by decide +kernel) (by decide +kernel) rfl rfl rfl (fun k h1 h2 hg => by (have hk : k = 2 := (by omega)); (rcases hk with rfl) <;> (first | exact hld rfl rfl nd rfl rfl rfl | exact std0 | exact PRun.lenA tabOk rfl rfl nd rfl | exact PRun.indexA0 tabOk rfl rfl nd rfl nd rfl (by decide) rfl hib | exact PRun.indexEA tabOk rfl rfl nd rfl nd rfl rfl ⟨by decide, by decide⟩ (by decide) | exact std1)) (by exact rfl) ?_)
        refine YQ.e (v := .any) (d := none) rfl rfl rfl ?_ ?_
        · intro env' he
          exact EStep.storeEO tabOk rfl rfl ((rdv_congr (he 54 (by decide +kernel))).trans rfl) (by rw [rdn_congr (he 54 (by decide +kernel))]; first | exact True.intro | exact rfl) rfl (by rw [hix]; simp) ((rdv_congr (he 52 (by decide +kernel))).trans rfl) (by rw [rdn_congr (he 52 (by decide +kernel))]; first | exact True.intro | exact rfl) rfl rfl rfl rfl (by decide) rfl ⟨rfl, rfl⟩
        refine YQ.nil (hK _ _ ?_)
        clear hK K'
        show AWP _ _ _ _ _ _
        refine AWP.keep [(0, .sl 12 (l.map encN) .no), (3, .sla 0 2 0 ((y :: r).map encIv).length (y :: r).length), (4, .int k)] ⟨rfl, rfl, rfl, True.intro⟩ ?_
        repeat' (first | refine AOps.q rfl rfl rfl (fun hg => by first | exact std0 | exact std1) (by exact rfl) ?_ | refine AWP.seq ?_ | refine AWP.regionK (fun K' hK => ?_) | (refine AOps.nil (hK _ _ ?_); clear hK K') | refine AOps.e (EStep.boxW rfl rfl rfl rfl rfl True.intro rfl rfl ?_) | refine AOps.e (EStep.storeW tabOk rfl rfl rfl True.intro rfl rfl True.intro rfl rfl rfl rfl rfl rfl rfl ?_) | refine AOps.e (EStep.allocW tabOk rfl rfl rfl rfl rfl rfl ?_) | (refine AWP.condW rfl True.intro (fun hc => ?_) (fun hc => ?_) <;> (first | (simp only [decide_eq_true_eq] at hc) | (simp only [decide_eq_false_iff_not, Int.not_lt, Int.not_le] at hc) | skip)) | refine AWP.block ?_ | refine AWP.exit ?_ | refine AWP.skip ?_ | refine AWP.ret ?_ | refine AWP.drawK2 (by decide +kernel) (by kernel_rfl) (by decide +kernel) rfl (fun K' hK => ?_) | refine AWP.drawL2 (by kernel_rfl) (by decide +kernel) rfl (fun K' hK => ?_) | (refine AQ.nil (hK _ ?_); clear hK K') | refine AQ.nil ?_ | refine AQ.q rfl rfl (fun hg => by first | exact std0 | exact std1) (by exact rfl) ?_)
        all_goals (first | (exfalso; omega) | (exfalso; simp at hc; omega) | skip)
        refine ⟨((y :: r).set ((y :: r).length - 1) (s.1, max s.2 (a + d)), k + 1), ⟨hlt, hnext.symm⟩, by show l.length - (k + 1) < l.length - k; omega, ⟨rfl, ?_, rfl, True.intro⟩, ?_⟩
        · show AV.sla 0 2 0 ((y :: r).map encIv).length (y :: r).length = slotO ((y :: r).set ((y :: r).length - 1) (s.1, max s.2 (a + d)))
          rw [slotO_ne (by simp)]; simp
        · show [AObj.arr 2 (y :: r).length (((y :: r).map encIv).set ((((y :: r).map encIv).length : Int) - 1).toNat ((((y :: r).map encIv).getD ((((y :: r).map encIv).length : Int) - 1).toNat []).set 1 (.int (max s.2 (a + d)))))] = [AObj.arr 2 ((y :: r).set ((y :: r).length - 1) (s.1, max s.2 (a + d))).length _]
          rw [hset]; simp
      · rw [if_neg (show ¬ (a, a + d).1 ≤ s.2 from hle)] at hnext
        repeat' (first | refine AOps.q rfl rfl rfl (fun hg => by first | exact hld rfl rfl nd rfl rfl rfl | exact PRun.eq (v := .iptr (encN (l.getD ((k : Nat) : Int).toNat default))) (PRun.indexMW tabOk rfl rfl nd rfl nd rfl rfl (by omega)) (congrArg (fun x => AV.iptr (encN x)) hn) | exact std0 | exact PRun.callW (c1) rfl rfl nd rfl nds | exact PRun.callW (c2) rfl rfl nd rfl nds | exact PRun.lenA tabOk rfl rfl nd rfl | exact PRun.indexA0 tabOk rfl rfl nd rfl nd rfl (by decide) rfl hib | exact PRun.indexEA tabOk rfl rfl nd rfl nd rfl rfl ⟨by decide, by decide⟩ (by decide) | exact PRun.buildAW tabOk rfl rfl nds | exact PRun.buildSlW tabOk rfl rfl nds | exact std1) (by exact rfl) ?_ | refine AWP.seq ?_ | refine AWP.regionK (fun K' hK => ?_) | (refine AOps.nil (hK _ _ ?_); clear hK K') | refine AOps.e (EStep.boxW rfl rfl rfl rfl rfl True.intro rfl rfl ?_) | refine AOps.e (EStep.storeW tabOk rfl rfl rfl True.intro rfl rfl True.intro rfl rfl rfl rfl rfl rfl rfl ?_) | refine AOps.e (EStep.allocW tabOk rfl rfl rfl rfl rfl rfl ?_) | refine AOps.e (EStep.appendArr tabOk rfl rfl rfl (by decide) (Rd.w rfl True.intro) (.inl ⟨rfl, by simp⟩) rfl (Rd.w rfl True.intro) (.sl rfl (by intro x hx; rcases List.mem_singleton.1 hx with rfl; rfl)) (Nat.succ_pos _) (LOk.of (tabOk.get rfl)) (LOk.of (tabOk.get rfl)) rfl rfl (by rw [hml]; simp only [List.length_cons, List.length_nil] at hol ⊢; omega) (by rw [hml]; simp only [List.length_cons, List.length_nil] at hol ⊢; omega) ?_) | (refine AWP.condW rfl True.intro (fun hc => ?_) (fun hc => ?_) <;> (first | (simp only [decide_eq_true_eq] at hc) | (simp only [decide_eq_false_iff_not, Int.not_lt, Int.not_le] at hc) | skip)) | refine AWP.block ?_ | refine AWP.exit ?_ | refine AWP.skip ?_ | refine AWP.ret ?_ | refine AWP.drawK2 (by decide +kernel) (by kernel_rfl) (by decide +kernel) rfl (fun K' hK => ?_) | refine AWP.drawL2 (by kernel_rfl) (by decide +kernel) rfl (fun K' hK => ?_) | (refine AQ.nil (hK _ ?_); clear hK K') | refine AQ.nil ?_ | refine AQ.q rfl rfl (fun hg => by first | exact hld rfl rfl nd rfl rfl rfl | exact PRun.eq (v := .iptr (encN (l.getD ((k : Nat) : Int).toNat default))) (PRun.indexMW tabOk rfl rfl nd rfl nd rfl rfl (by omega)) (congrArg (fun x => AV.iptr (encN x)) hn) | exact std0 | exact PRun.callW (c1) rfl rfl nd rfl nds | exact PRun.callW (c2) rfl rfl nd rfl nds | exact PRun.lenA tabOk rfl rfl nd rfl | exact PRun.indexA0 tabOk rfl rfl nd rfl nd rfl (by decide) rfl hib | exact PRun.indexEA tabOk rfl rfl nd rfl nd rfl rfl ⟨by decide, by decide⟩ (by decide) | exact PRun.buildAW tabOk rfl rfl nds | exact PRun.buildSlW tabOk rfl rfl nds | exact std1) (by exact rfl) ?_)
        all_goals (first | (exfalso; omega) | (exfalso; simp at hc; omega) | skip)
        refine ⟨((y :: r) ++ [(a, a + d)], k + 1), ⟨hlt, hnext.symm⟩, by show l.length - (k + 1) < l.length - k; omega, ⟨rfl, ?_, rfl, True.intro⟩, ?_⟩
        · show AV.sla 0 2 0 (((y :: r).map encIv).length + 1) ((y :: r).length + 1) = slotO ((y :: r) ++ [(a, a + d)])
          rw [slotO_ne (by simp)]; simp
        · show [AObj.arr 2 ((y :: r).length + 1) ((y :: r).map encIv ++ [encIv (a, a + d)])] = [AObj.arr 2 ((y :: r) ++ [(a, a + d)]).length (((y :: r) ++ [(a, a + d)]).map encIv)]
          simp
  · obtain rfl : k = l.length := by omega
    rw [List.take_length] at ho
    rcases out with _ | ⟨y, r⟩
    · repeat' (first | refine AOps.q rfl rfl rfl (fun hg => by first | exact std0 | exact std1) (by exact rfl) ?_ | refine AWP.seq ?_ | refine AWP.regionK (fun K' hK => ?_) | (refine AOps.nil (hK _ _ ?_); clear hK K') | refine AOps.e (EStep.boxW rfl rfl rfl rfl rfl True.intro rfl rfl ?_) | refine AOps.e (EStep.storeW tabOk rfl rfl rfl True.intro rfl rfl True.intro rfl rfl rfl rfl rfl rfl rfl ?_) | refine AOps.e (EStep.allocW tabOk rfl rfl rfl rfl rfl rfl ?_) | (refine AWP.condW rfl True.intro (fun hc => ?_) (fun hc => ?_) <;> (first | (simp only [decide_eq_true_eq] at hc) | (simp only [decide_eq_false_iff_not, Int.not_lt, Int.not_le] at hc) | skip)) | refine AWP.block ?_ | refine AWP.exit ?_ | refine AWP.skip ?_ | refine AWP.ret ?_ | refine AWP.drawK2 (by decide +kernel) (by kernel_rfl) (by decide +kernel) rfl (fun K' hK => ?_) | refine AWP.drawL2 (by kernel_rfl) (by decide +kernel) rfl (fun K' hK => ?_) | (refine AQ.nil (hK _ ?_); clear hK K') | refine AQ.nil ?_ | refine AQ.q rfl rfl (fun hg => by first | exact std0 | exact std1) (by exact rfl) ?_)
      all_goals (first | (exfalso; omega) | skip)
      refine ⟨.inr rfl, Ent.of ?_⟩
      rw [← ho]; rfl
    · have hml : ((y :: r).map encIv).length = (y :: r).length := by simp
      repeat' (first | refine AOps.q rfl rfl rfl (fun hg => by first | exact std0 | exact std1) (by exact rfl) ?_ | refine AWP.seq ?_ | refine AWP.regionK (fun K' hK => ?_) | (refine AOps.nil (hK _ _ ?_); clear hK K') | refine AOps.e (EStep.boxW rfl rfl rfl rfl rfl True.intro rfl rfl ?_) | refine AOps.e (EStep.storeW tabOk rfl rfl rfl True.intro rfl rfl True.intro rfl rfl rfl rfl rfl rfl rfl ?_) | refine AOps.e (EStep.allocW tabOk rfl rfl rfl rfl rfl rfl ?_) | (refine AWP.condW rfl True.intro (fun hc => ?_) (fun hc => ?_) <;> (first | (simp only [decide_eq_true_eq] at hc) | (simp only [decide_eq_false_iff_not, Int.not_lt, Int.not_le] at hc) | skip)) | refine AWP.block ?_ | refine AWP.exit ?_ | refine AWP.skip ?_ | refine AWP.drawK2 (by decide +kernel) (by kernel_rfl) (by decide +kernel) rfl (fun K' hK => ?_) | refine AWP.drawL2 (by kernel_rfl) (by decide +kernel) rfl (fun K' hK => ?_) | (refine AQ.nil (hK _ ?_); clear hK K') | refine AQ.nil ?_ | refine AQ.q rfl rfl (fun hg => by first | exact std0 | exact std1) (by exact rfl) ?_)
      all_goals (first | (exfalso; omega) | skip)
      refine AWP.freezeA (d := 2) (l := 0) (sz := 2) (ver := (y :: r).length) (es := (y :: r).map encIv) rfl rfl (pureIv _) ?_
      refine AWP.ret ⟨.inr rfl, ?_⟩
      rw [← ho]
      exact fun _ _ h => h
end Go.Proofs.YtnmdmmfdnnmdfaaDoor.Nt
