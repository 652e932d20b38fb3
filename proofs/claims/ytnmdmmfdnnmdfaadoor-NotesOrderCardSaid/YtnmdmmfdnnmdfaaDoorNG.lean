/- Contracts by content: the reference's Busy, Rests, SameSpans, Few. No statement is proved here. -/
import Derived.Test.YtnmdmmfdnnmdfaaDoorNF
set_option linter.unusedVariables false
set_option linter.unusedSimpArgs false
namespace Go.Proofs.YtnmdmmfdnnmdfaaDoor.Nt
open Go.Ab
attribute [local irreducible] AWP AOps EStep AQ PStep PRun PCall TCall VCall

theorem busy_small {bars : List Bar} {l : List Note} {p b : Int} : Small (spansP ((ofR bars l p b).1.map iv)) ∧ spansR ((ofR bars l p b).1.map iv) = spansP ((ofR bars l p b).1.map iv) ∧ ∀ n ∈ (ofR bars l p b).1, durOk n.start = true ∧ durOk n.len = true := by
  by_cases h : (ofR bars l p b).2 = 0
  · have hf := ofR_facts h
    obtain ⟨_, _, _, _, w1, w2⟩ := ofR_ok h
    refine ⟨fun x hx => ?_, hf.spans, hf.dur⟩
    have := hf.bound (by omega) x hx
    omega
  · rw [ofR_bad h]
    exact ⟨(fun x hx => by cases hx), rfl, (fun n hn => by cases hn)⟩
theorem busy7_spec (bars : List Bar) (l : List Note) (hb : bars.length ≤ 1000000000) (hl : l.length ≤ 100000) (p b : Int) :
    PCall Tryd.prog 25 [.sl 4 (bars.map encB) .no, .sl 12 (l.map encN) .no, .int p, .int b] (.tup [.sl 4 ((busyR bars l p b).1.map encQ) .no, .int (busyR bars l p b).2]) := by
  have h1 := of7_spec bars l hb (by omega) p b
  have hlen := ofR_len bars l p b
  obtain ⟨s1, s2, s3⟩ := busy_small (bars := bars) (l := l) (p := p) (b := b)
  have h2 := spans7_spec (ofR bars l p b).1 (by omega) s3
  rw [s2] at h2
  have hg := goP_len ((ofR bars l p b).1.map iv) 0 (-1)
  have h3 := rats_spec (spansP ((ofR bars l p b).1.map iv)) (by unfold spansP; simp only [List.length_map] at hg; omega) s1
  unfold busyR
  generalize spansP ((ofR bars l p b).1.map iv) = xs at *
  generalize ofR bars l p b = r at *
  refine PCall.body Tryd.func25 rfl rfl Tryd.ntmps25 rfl rfl ?_
  repeat' (first | refine AOps.q rfl rfl rfl (fun hg => by first | exact std0 | exact PRun.callW (h1) rfl rfl nd rfl nds | exact PRun.callW (h2) rfl rfl nd rfl nds | exact PRun.callW (h3) rfl rfl nd rfl nds | exact std1) (by exact rfl) ?_ | refine AWP.seq ?_ | refine AWP.regionK (fun K' hK => ?_) | (refine AOps.nil (hK _ _ ?_); clear hK K') | refine AOps.e (EStep.boxW rfl rfl rfl rfl rfl True.intro rfl rfl ?_) | refine AOps.e (EStep.storeW tabOk rfl rfl rfl True.intro rfl rfl True.intro rfl rfl rfl rfl rfl rfl rfl ?_) | refine AOps.e (EStep.allocW tabOk rfl rfl rfl rfl rfl rfl ?_) | (refine AWP.condW rfl True.intro (fun hc => ?_) (fun hc => ?_) <;> (first | (simp only [decide_eq_true_eq] at hc) | (simp only [decide_eq_false_iff_not, Int.not_lt, Int.not_le] at hc) | skip)) | refine AWP.block ?_ | refine AWP.exit ?_ | refine AWP.skip ?_ | refine AWP.ret ?_ | refine AWP.drawK2 (by decide +kernel) (by kernel_rfl) (by decide +kernel) rfl (fun K' hK => ?_) | refine AWP.drawL2 (by kernel_rfl) (by decide +kernel) rfl (fun K' hK => ?_) | (refine AQ.nil (hK _ ?_); clear hK K') | refine AQ.nil ?_ | refine AQ.q rfl rfl (fun hg => by first | exact std0 | exact PRun.callW (h1) rfl rfl nd rfl nds | exact PRun.callW (h2) rfl rfl nd rfl nds | exact PRun.callW (h3) rfl rfl nd rfl nds | exact std1) (by exact rfl) ?_)
  exact ⟨.inr rfl, Ent.of rfl⟩
set_option maxHeartbeats 4000000 in
set_option maxRecDepth 20000 in
theorem rests7_spec (bars : List Bar) (l : List Note) (hb : bars.length ≤ 1000000000) (hl : l.length ≤ 100000) (p b : Int) :
    PCall Tryd.prog 28 [.sl 4 (bars.map encB) .no, .sl 12 (l.map encN) .no, .int p, .int b] (.tup [.sl 4 ((restsR bars l p b).1.map encQ) .no, .int (restsR bars l p b).2]) := by
  have h1 := of7_spec bars l hb (by omega) p b
  have hlen := ofR_len bars l p b
  by_cases h0 : (ofR bars l p b).2 = 0
  · obtain ⟨s1, s2, s3⟩ := busy_small (bars := bars) (l := l) (p := p) (b := b)
    have h2 := spans7_spec (ofR bars l p b).1 (by omega) s3
    rw [s2] at h2
    have hf := ofR_facts h0
    obtain ⟨hn, _, ⟨j, j1, j2, j3, j4⟩, _, w1, w2⟩ := ofR_ok h0
    have hbd := hf.bound (by omega)
    have hcan := hf.canon.1
    have hba := r7bar_spec bars b (by omega)
    rw [j2] at hba
    obtain ⟨br, hbr⟩ : ∃ br, bars.getD j default = br := ⟨_, rfl⟩
    have hbm : br ∈ bars := by rw [← hbr]; exact getD_mem j3
    have hdur := (bar_top (notesOk_bars hn).1 hbm).1
    have ht := ticks6_spec br.len
    rw [ticksX_ok hdur] at ht
    have hW : (ticksR br.len).1 = barW bars b := by unfold barW; rw [j2, Int.toNat_natCast, hbr]
    rw [hW] at ht
    have er : restsR bars l p b = (gaps 0 (barW bars b) (spansP ((ofR bars l p b).1.map iv)), 0) := if_pos h0
    have hg := goP_len ((ofR bars l p b).1.map iv) 0 (-1)
    have hxl : (spansP ((ofR bars l p b).1.map iv)).length ≤ 100001 := by unfold spansP; simp only [List.length_map] at hg; omega
    obtain ⟨g1, g2, _, _⟩ := gaps_spec _ 0 (barW bars b) hcan (fun x hx => (hbd x hx).2.2) (by omega)
    have hgs : Small (gaps 0 (barW bars b) (spansP ((ofR bars l p b).1.map iv))) := fun x hx => by
      have := g1.low x hx
      have := g2 x hx
      omega
    have hgl := gaps_len (spansP ((ofR bars l p b).1.map iv)) 0 (barW bars b)
    have h3 := rats_spec _ (by omega) hgs
    have hfold := gaps_fold (spansP ((ofR bars l p b).1.map iv)) [] 0 (barW bars b)
    rw [List.nil_append] at hfold
    rw [er]
    generalize gaps 0 (barW bars b) (spansP ((ofR bars l p b).1.map iv)) = gs at *
    generalize barW bars b = W at *
    generalize spansP ((ofR bars l p b).1.map iv) = xs at *
    clear s1 s2 s3 hf hn hcan hg hlen er g1 g2 hgl hgs
    generalize (ofR bars l p b) = r at *
    have hfl : ∀ k, k ≤ xs.length → ((xs.take k).foldl gapStep ([], 0)).1.length ≤ 100001 := fun k hk => by
      have := gapStep_len (xs.take k) ([], 0)
      simp only [List.length_nil, List.length_take] at this; omega
    refine PCall.body Tryd.func28 rfl rfl Tryd.ntmps28 rfl rfl ?_
    repeat' (first | refine AOps.q rfl rfl rfl (fun hg => by first | exact PRun.eq (v := .iptr (encB (bars.getD ((j : Nat) : Int).toNat default))) (PRun.indexMW tabOk rfl rfl nd rfl nd rfl rfl (by omega)) (congrArg (fun x => AV.iptr (encB x)) hbr) | exact std0 | exact PRun.callW (h1) rfl rfl nd rfl nds | exact PRun.callW (h2) rfl rfl nd rfl nds | exact PRun.callW (hba) rfl rfl nd rfl nds | exact PRun.callW (ht) rfl rfl nd rfl nds | exact std1) (by exact rfl) ?_ | refine AWP.seq ?_ | refine AWP.regionK (fun K' hK => ?_) | (refine AOps.nil (hK _ _ ?_); clear hK K') | refine AOps.e (EStep.boxW rfl rfl rfl rfl rfl True.intro rfl rfl ?_) | refine AOps.e (EStep.storeW tabOk rfl rfl rfl True.intro rfl rfl True.intro rfl rfl rfl rfl rfl rfl rfl ?_) | refine AOps.e (EStep.allocW tabOk rfl rfl rfl rfl rfl rfl ?_) | (refine AWP.condW rfl True.intro (fun hc => ?_) (fun hc => ?_) <;> (first | (simp only [decide_eq_true_eq] at hc) | (simp only [decide_eq_false_iff_not, Int.not_lt, Int.not_le] at hc) | skip)) | refine AWP.block ?_ | refine AWP.exit ?_ | refine AWP.skip ?_ | refine AWP.ret ?_ | (refine AQ.nil (hK _ ?_); clear hK K') | refine AQ.nil ?_ | refine AQ.q rfl rfl (fun hg => by first | exact PRun.eq (v := .iptr (encB (bars.getD ((j : Nat) : Int).toNat default))) (PRun.indexMW tabOk rfl rfl nd rfl nd rfl rfl (by omega)) (congrArg (fun x => AV.iptr (encB x)) hbr) | exact std0 | exact PRun.callW (h1) rfl rfl nd rfl nds | exact PRun.callW (h2) rfl rfl nd rfl nds | exact PRun.callW (hba) rfl rfl nd rfl nds | exact PRun.callW (ht) rfl rfl nd rfl nds | exact std1) (by exact rfl) ?_)
    · exfalso; simp at hc; exact hc h0
    refine AWP.ownNil (d := 14) (sz := 2) rfl ?_
    refine AWP.loopW (ι := Nat) (fun k => [(12, .sl 2 (xs.map encIv) .no), (13, .int W), (14, .sl 2 (((xs.take k).foldl gapStep ([], 0)).1.map encIv) (.own 0)), (15, .int ((xs.take k).foldl gapStep ([], 0)).2), (16, .int k)]) (fun k => [.own 2 (((xs.take k).foldl gapStep ([], 0)).1.map encIv).length])
      (fun k => k ≤ xs.length) (fun k => xs.length - k) 0 (Nat.zero_le _) ⟨rfl, rfl, rfl, rfl, rfl, True.intro⟩ rfl ?_
    intro k hk
    have hfk := hfl k hk
    by_cases hlt : k < xs.length
    · obtain ⟨x, hx⟩ : ∃ x, xs.getD k default = x := ⟨_, rfl⟩
      have hsuc : (xs.take (k + 1)).foldl gapStep ([], 0) = gapStep ((xs.take k).foldl gapStep ([], 0)) x := by
        rw [take_snoc' hlt, List.foldl_append, hx]; rfl
      generalize (xs.take k).foldl gapStep ([], 0) = q at *
      obtain ⟨out, last⟩ := q
      dsimp only at hfk
      have hol : (out.map encIv).length ≤ 100001 := by simpa using hfk
      by_cases hlx : last < x.1
      · have hst : gapStep (out, last) x = (out ++ [(last, x.1)], x.2) := by unfold gapStep; rw [if_pos hlx]
        repeat' (first | refine AOps.q rfl rfl rfl (fun hg => by first | exact PRun.eq (v := .iptr (encIv (xs.getD ((k : Nat) : Int).toNat default))) (PRun.indexMW tabOk rfl rfl nd rfl nd rfl rfl (by omega)) (congrArg (fun x => AV.iptr (encIv x)) hx) | exact std0 | exact PRun.indexArr tabOk rfl rfl nd rfl nd rfl rfl ⟨by decide, by decide⟩ | exact PRun.buildAW tabOk rfl rfl nds | exact PRun.buildSlW tabOk rfl rfl nds | exact std1) (by exact rfl) ?_ | refine AWP.seq ?_ | refine AWP.regionK (fun K' hK => ?_) | (refine AOps.nil (hK _ _ ?_); clear hK K') | refine AOps.e (EStep.boxW rfl rfl rfl rfl rfl True.intro rfl rfl ?_) | refine AOps.e (EStep.storeW tabOk rfl rfl rfl True.intro rfl rfl True.intro rfl rfl rfl rfl rfl rfl rfl ?_) | refine AOps.e (EStep.allocW tabOk rfl rfl rfl rfl rfl rfl ?_) | refine AOps.e (EStep.appendOwn' tabOk rfl rfl rfl (by decide) (Rd.w rfl True.intro) rfl (Rd.w rfl True.intro) (.sl rfl (by intro x hx; rcases List.mem_singleton.1 hx with rfl; rfl)) (LOk.of (tabOk.get rfl)) (LOk.of (tabOk.get rfl)) rfl rfl (by simp only [List.length_cons, List.length_nil]; omega) (by simp only [List.length_cons, List.length_nil]; omega) ?_) | (refine AWP.condW rfl True.intro (fun hc => ?_) (fun hc => ?_) <;> (first | (simp only [decide_eq_true_eq] at hc) | (simp only [decide_eq_false_iff_not, Int.not_lt, Int.not_le] at hc) | skip)) | refine AWP.block ?_ | refine AWP.exit ?_ | refine AWP.skip ?_ | refine AWP.ret ?_ | refine AWP.drawK2 (by decide +kernel) (by kernel_rfl) (by decide +kernel) rfl (fun K' hK => ?_) | refine AWP.drawL2 (by kernel_rfl) (by decide +kernel) rfl (fun K' hK => ?_) | (refine AQ.nil (hK _ ?_); clear hK K') | refine AQ.nil ?_ | refine AQ.q rfl rfl (fun hg => by first | exact PRun.eq (v := .iptr (encIv (xs.getD ((k : Nat) : Int).toNat default))) (PRun.indexMW tabOk rfl rfl nd rfl nd rfl rfl (by omega)) (congrArg (fun x => AV.iptr (encIv x)) hx) | exact std0 | exact PRun.indexArr tabOk rfl rfl nd rfl nd rfl rfl ⟨by decide, by decide⟩ | exact PRun.buildAW tabOk rfl rfl nds | exact PRun.buildSlW tabOk rfl rfl nds | exact std1) (by exact rfl) ?_)
        all_goals (first | (exfalso; omega) | (exfalso; simp at hc; omega) | skip)
        refine ⟨k + 1, hlt, by omega, ⟨rfl, rfl, ?_, ?_, rfl, True.intro⟩, ?_⟩
        · rw [hsuc, hst]; show AV.sl 2 (out.map encIv ++ [encIv (last, x.1)]) (.own 0) = _; rw [List.map_append]; try rfl
        · rw [hsuc, hst]; try rfl
        · rw [hsuc, hst]; show [AObj.own 2 (out.map encIv ++ [encIv (last, x.1)]).length] = _; rw [List.map_append]; rfl
      · have hst : gapStep (out, last) x = (out, x.2) := by unfold gapStep; rw [if_neg hlx]
        repeat' (first | refine AOps.q rfl rfl rfl (fun hg => by first | exact PRun.eq (v := .iptr (encIv (xs.getD ((k : Nat) : Int).toNat default))) (PRun.indexMW tabOk rfl rfl nd rfl nd rfl rfl (by omega)) (congrArg (fun x => AV.iptr (encIv x)) hx) | exact std0 | exact PRun.indexArr tabOk rfl rfl nd rfl nd rfl rfl ⟨by decide, by decide⟩ | exact std1) (by exact rfl) ?_ | refine AWP.seq ?_ | refine AWP.regionK (fun K' hK => ?_) | (refine AOps.nil (hK _ _ ?_); clear hK K') | refine AOps.e (EStep.boxW rfl rfl rfl rfl rfl True.intro rfl rfl ?_) | refine AOps.e (EStep.storeW tabOk rfl rfl rfl True.intro rfl rfl True.intro rfl rfl rfl rfl rfl rfl rfl ?_) | refine AOps.e (EStep.allocW tabOk rfl rfl rfl rfl rfl rfl ?_) | (refine AWP.condW rfl True.intro (fun hc => ?_) (fun hc => ?_) <;> (first | (simp only [decide_eq_true_eq] at hc) | (simp only [decide_eq_false_iff_not, Int.not_lt, Int.not_le] at hc) | skip)) | refine AWP.block ?_ | refine AWP.exit ?_ | refine AWP.skip ?_ | refine AWP.ret ?_ | refine AWP.drawK2 (by decide +kernel) (by kernel_rfl) (by decide +kernel) rfl (fun K' hK => ?_) | refine AWP.drawL2 (by kernel_rfl) (by decide +kernel) rfl (fun K' hK => ?_) | (refine AQ.nil (hK _ ?_); clear hK K') | refine AQ.nil ?_ | refine AQ.q rfl rfl (fun hg => by first | exact PRun.eq (v := .iptr (encIv (xs.getD ((k : Nat) : Int).toNat default))) (PRun.indexMW tabOk rfl rfl nd rfl nd rfl rfl (by omega)) (congrArg (fun x => AV.iptr (encIv x)) hx) | exact std0 | exact PRun.indexArr tabOk rfl rfl nd rfl nd rfl rfl ⟨by decide, by decide⟩ | exact std1) (by exact rfl) ?_)
        all_goals (first | (exfalso; omega) | (exfalso; simp at hc; omega) | skip)
        refine ⟨k + 1, hlt, by omega, ⟨rfl, rfl, ?_, ?_, rfl, True.intro⟩, ?_⟩
        · rw [hsuc, hst]; try rfl
        · rw [hsuc, hst]; try rfl
        · rw [hsuc, hst]; try rfl
    · obtain rfl : k = xs.length := by omega
      rw [List.take_length] at hfk ⊢
      generalize xs.foldl gapStep ([], 0) = q at *
      obtain ⟨out, last⟩ := q
      dsimp only at hfk hfold
      have hol : (out.map encIv).length ≤ 100001 := by simpa using hfk
      by_cases hlx : last < W
      · rw [if_pos hlx] at hfold
        rw [← hfold, List.map_append] at h3
        rw [← hfold]
        have h4 : PCall Tryd.prog 65 [.sl 2 (out.map encIv ++ [encIv (last, W)]) .no] (.sl 4 ((out ++ [(last, W)]).map encQ) .no) := h3
        repeat' (first | refine AOps.q rfl rfl rfl (fun hg => by first | exact std0 | exact PRun.callW (h4) rfl rfl nd rfl nds | exact PRun.buildAW tabOk rfl rfl nds | exact PRun.buildSlW tabOk rfl rfl nds | exact std1) (by exact rfl) ?_ | refine AWP.seq ?_ | refine AWP.regionK (fun K' hK => ?_) | (refine AOps.nil (hK _ _ ?_); clear hK K') | refine AOps.e (EStep.boxW rfl rfl rfl rfl rfl True.intro rfl rfl ?_) | refine AOps.e (EStep.storeW tabOk rfl rfl rfl True.intro rfl rfl True.intro rfl rfl rfl rfl rfl rfl rfl ?_) | refine AOps.e (EStep.allocW tabOk rfl rfl rfl rfl rfl rfl ?_) | refine AOps.e (EStep.appendOwn' tabOk rfl rfl rfl (by decide) (Rd.w rfl True.intro) rfl (Rd.w rfl True.intro) (.sl rfl (by intro x hx; rcases List.mem_singleton.1 hx with rfl; rfl)) (LOk.of (tabOk.get rfl)) (LOk.of (tabOk.get rfl)) rfl rfl (by simp only [List.length_cons, List.length_nil]; omega) (by simp only [List.length_cons, List.length_nil]; omega) ?_) | (refine AWP.condW rfl True.intro (fun hc => ?_) (fun hc => ?_) <;> (first | (simp only [decide_eq_true_eq] at hc) | (simp only [decide_eq_false_iff_not, Int.not_lt, Int.not_le] at hc) | skip)) | refine AWP.block ?_ | refine AWP.exit ?_ | refine AWP.skip ?_ | refine AWP.ret ?_ | refine AWP.drawK2 (by decide +kernel) (by kernel_rfl) (by decide +kernel) rfl (fun K' hK => ?_) | refine AWP.drawL2 (by kernel_rfl) (by decide +kernel) rfl (fun K' hK => ?_) | (refine AQ.nil (hK _ ?_); clear hK K') | refine AQ.nil ?_ | refine AQ.q rfl rfl (fun hg => by first | exact std0 | exact PRun.callW (h4) rfl rfl nd rfl nds | exact PRun.buildAW tabOk rfl rfl nds | exact PRun.buildSlW tabOk rfl rfl nds | exact std1) (by exact rfl) ?_)
        all_goals (first | (exfalso; omega) | (exfalso; simp at hc; omega) | skip)
        exact ⟨.inr rfl, Ent.of rfl⟩
      · rw [if_neg hlx, List.append_nil] at hfold
        rw [← hfold] at h3 ⊢
        repeat' (first | refine AOps.q rfl rfl rfl (fun hg => by first | exact std0 | exact PRun.callW (h3) rfl rfl nd rfl nds | exact std1) (by exact rfl) ?_ | refine AWP.seq ?_ | refine AWP.regionK (fun K' hK => ?_) | (refine AOps.nil (hK _ _ ?_); clear hK K') | refine AOps.e (EStep.boxW rfl rfl rfl rfl rfl True.intro rfl rfl ?_) | refine AOps.e (EStep.storeW tabOk rfl rfl rfl True.intro rfl rfl True.intro rfl rfl rfl rfl rfl rfl rfl ?_) | refine AOps.e (EStep.allocW tabOk rfl rfl rfl rfl rfl rfl ?_) | (refine AWP.condW rfl True.intro (fun hc => ?_) (fun hc => ?_) <;> (first | (simp only [decide_eq_true_eq] at hc) | (simp only [decide_eq_false_iff_not, Int.not_lt, Int.not_le] at hc) | skip)) | refine AWP.block ?_ | refine AWP.exit ?_ | refine AWP.skip ?_ | refine AWP.ret ?_ | refine AWP.drawK2 (by decide +kernel) (by kernel_rfl) (by decide +kernel) rfl (fun K' hK => ?_) | refine AWP.drawL2 (by kernel_rfl) (by decide +kernel) rfl (fun K' hK => ?_) | (refine AQ.nil (hK _ ?_); clear hK K') | refine AQ.nil ?_ | refine AQ.q rfl rfl (fun hg => by first | exact std0 | exact PRun.callW (h3) rfl rfl nd rfl nds | exact std1) (by exact rfl) ?_)
        all_goals (first | (exfalso; omega) | (exfalso; simp at hc; omega) | skip)
        exact ⟨.inr rfl, Ent.of rfl⟩
  · have er : restsR bars l p b = ([], (ofR bars l p b).2) := if_neg h0
    rw [er]
    generalize ofR bars l p b = r at *
    refine PCall.body Tryd.func28 rfl rfl Tryd.ntmps28 rfl rfl ?_
    repeat' (first | refine AOps.q rfl rfl rfl (fun hg => by first | exact std0 | exact PRun.callW (h1) rfl rfl nd rfl nds | exact std1) (by exact rfl) ?_ | refine AWP.seq ?_ | refine AWP.regionK (fun K' hK => ?_) | (refine AOps.nil (hK _ _ ?_); clear hK K') | refine AOps.e (EStep.boxW rfl rfl rfl rfl rfl True.intro rfl rfl ?_) | refine AOps.e (EStep.storeW tabOk rfl rfl rfl True.intro rfl rfl True.intro rfl rfl rfl rfl rfl rfl rfl ?_) | refine AOps.e (EStep.allocW tabOk rfl rfl rfl rfl rfl rfl ?_) | (refine AWP.condW rfl True.intro (fun hc => ?_) (fun hc => ?_) <;> (first | (simp only [decide_eq_true_eq] at hc) | (simp only [decide_eq_false_iff_not, Int.not_lt, Int.not_le] at hc) | skip)) | refine AWP.block ?_ | refine AWP.exit ?_ | refine AWP.skip ?_ | refine AWP.ret ?_ | (refine AQ.nil (hK _ ?_); clear hK K') | refine AQ.nil ?_ | refine AQ.q rfl rfl (fun hg => by first | exact std0 | exact PRun.callW (h1) rfl rfl nd rfl nds | exact std1) (by exact rfl) ?_)
    · exact ⟨.inr rfl, Ent.tup2 Ent.nil (Ent.rfl' _)⟩
    all_goals (exfalso; simp at hc; exact h0 hc)
/-- Spans in quarters, as numbers. -/
def qOf (x : Iv) : Rat × Rat := (ratQ x.1, ratQ x.2)
theorem flQ : flatN Tryd.prog 65 = some [.int .i64, .int .i64, .int .i64, .int .i64] := by kernel_rfl
theorem few7_spec (bars : List Bar) (l : List Note) (hb : bars.length ≤ 9223372036854775807) (hl : l.length ≤ 9223372036854775807) :
    PCall Tryd.prog 16 [.sl 4 (bars.map encB) .no, .sl 12 (l.map encN) .no] (.b (decide ((bars.length : Int) ≤ 60) && decide ((l.length : Int) ≤ 60))) := by
  refine PCall.body Tryd.func16 rfl rfl Tryd.ntmps16 rfl rfl ?_
  repeat' (first | refine AOps.q rfl rfl rfl (fun hg => by first | exact std0 | exact std1) (by exact rfl) ?_ | refine AWP.seq ?_ | refine AWP.regionK (fun K' hK => ?_) | (refine AOps.nil (hK _ _ ?_); clear hK K') | refine AOps.e (EStep.boxW rfl rfl rfl rfl rfl True.intro rfl rfl ?_) | refine AOps.e (EStep.storeW tabOk rfl rfl rfl True.intro rfl rfl True.intro rfl rfl rfl rfl rfl rfl rfl ?_) | refine AOps.e (EStep.allocW tabOk rfl rfl rfl rfl rfl rfl ?_) | (refine AWP.condW rfl True.intro (fun hc => ?_) (fun hc => ?_) <;> (first | (simp only [decide_eq_true_eq] at hc) | (simp only [decide_eq_false_iff_not, Int.not_lt, Int.not_le] at hc) | skip)) | refine AWP.block ?_ | refine AWP.exit ?_ | refine AWP.skip ?_ | refine AWP.ret ?_ | refine AWP.drawK2 (by decide +kernel) (by kernel_rfl) (by decide +kernel) rfl (fun K' hK => ?_) | refine AWP.drawL2 (by kernel_rfl) (by decide +kernel) rfl (fun K' hK => ?_) | (refine AQ.nil (hK _ ?_); clear hK K') | refine AQ.nil ?_ | refine AQ.q rfl rfl (fun hg => by first | exact std0 | exact std1) (by exact rfl) ?_)
  exact ⟨.inr rfl, Ent.b rfl⟩
def eqQ (x y : Iv) : Bool := (ratQ x.1).n == (ratQ y.1).n && ((ratQ x.1).d == (ratQ y.1).d && ((ratQ x.2).n == (ratQ y.2).n && ((ratQ x.2).d == (ratQ y.2).d && true)))
set_option maxHeartbeats 1000000 in
theorem sameS_spec (a c : List Iv) (ha : a.length ≤ 1000000) (hc' : c.length ≤ 1000000) :
    PCall Tryd.prog 26 [.sl 4 (a.map encQ) .no, .sl 4 (c.map encQ) .no] (.b (decide (a.length = c.length) && (List.range a.length).all fun i => eqQ (a.getD i default) (c.getD i default))) := by
  refine PCall.body Tryd.func26 rfl rfl Tryd.ntmps26 rfl rfl ?_
  repeat' (first | refine AOps.q rfl rfl rfl (fun hg => by first | exact std0 | exact std1) (by exact rfl) ?_ | refine AWP.seq ?_ | refine AWP.regionK (fun K' hK => ?_) | (refine AOps.nil (hK _ _ ?_); clear hK K') | refine AOps.e (EStep.boxW rfl rfl rfl rfl rfl True.intro rfl rfl ?_) | refine AOps.e (EStep.storeW tabOk rfl rfl rfl True.intro rfl rfl True.intro rfl rfl rfl rfl rfl rfl rfl ?_) | refine AOps.e (EStep.allocW tabOk rfl rfl rfl rfl rfl rfl ?_) | (refine AWP.condW rfl True.intro (fun hc => ?_) (fun hc => ?_) <;> (first | (simp only [decide_eq_true_eq] at hc) | (simp only [decide_eq_false_iff_not, Int.not_lt, Int.not_le] at hc) | skip)) | refine AWP.block ?_ | refine AWP.exit ?_ | refine AWP.skip ?_ | refine AWP.ret ?_ | refine AWP.drawK2 (by decide +kernel) (by kernel_rfl) (by decide +kernel) rfl (fun K' hK => ?_) | refine AWP.drawL2 (by kernel_rfl) (by decide +kernel) rfl (fun K' hK => ?_) | (refine AQ.nil (hK _ ?_); clear hK K') | refine AQ.nil ?_ | refine AQ.q rfl rfl (fun hg => by first | exact std0 | exact std1) (by exact rfl) ?_)
  · refine ⟨.inr rfl, Ent.b (Eq.symm ?_)⟩
    rw [decide_eq_false (by simp at hc; omega)]; rfl
  have hle : a.length = c.length := by simp at hc; omega
  clear hc
  refine AWP.loopW (ι := Nat) (fun k => [(0, .sl 4 (a.map encQ) .no), (1, .sl 4 (c.map encQ) .no), (5, .int k)]) (fun _ => []) (fun k => k ≤ a.length ∧ ∀ i, i < k → eqQ (a.getD i default) (c.getD i default) = true) (fun k => a.length - k) 0 ⟨Nat.zero_le _, fun i h => absurd h (by omega)⟩ ⟨rfl, rfl, rfl, True.intro⟩ rfl ?_
  rintro k ⟨hk, hall⟩
  by_cases hlt : k < a.length
  · repeat' (first | refine AOps.q rfl rfl rfl (fun hg => by first | exact std0 | exact PRun.neN flQ rfl rfl nd rfl nd rfl | exact std1) (by exact rfl) ?_ | refine AWP.seq ?_ | refine AWP.regionK (fun K' hK => ?_) | (refine AOps.nil (hK _ _ ?_); clear hK K') | refine AOps.e (EStep.boxW rfl rfl rfl rfl rfl True.intro rfl rfl ?_) | refine AOps.e (EStep.storeW tabOk rfl rfl rfl True.intro rfl rfl True.intro rfl rfl rfl rfl rfl rfl rfl ?_) | refine AOps.e (EStep.allocW tabOk rfl rfl rfl rfl rfl rfl ?_) | (refine AWP.condW rfl True.intro (fun hc => ?_) (fun hc => ?_) <;> (first | (simp only [decide_eq_true_eq] at hc) | (simp only [decide_eq_false_iff_not, Int.not_lt, Int.not_le] at hc) | skip)) | refine AWP.block ?_ | refine AWP.exit ?_ | refine AWP.skip ?_ | refine AWP.ret ?_ | refine AWP.drawK2 (by decide +kernel) (by kernel_rfl) (by decide +kernel) rfl (fun K' hK => ?_) | refine AWP.drawL2 (by kernel_rfl) (by decide +kernel) rfl (fun K' hK => ?_) | (refine AQ.nil (hK _ ?_); clear hK K') | refine AQ.nil ?_ | refine AQ.q rfl rfl (fun hg => by first | exact std0 | exact PRun.neN flQ rfl rfl nd rfl nd rfl | exact std1) (by exact rfl) ?_)
    all_goals (first | (exfalso; omega) | skip)
    · refine ⟨.inr rfl, Ent.b (Eq.symm ?_)⟩
      have h : eqQ (a.getD k default) (c.getD k default) = false := by
        simp only [Int.toNat_natCast] at hc
        have h : (!eqQ (a.getD k default) (c.getD k default)) = true := hc
        simpa using h
      rw [decide_eq_true hle, Bool.true_and]
      refine Bool.eq_false_iff.2 fun h2 => ?_
      have := List.all_eq_true.1 h2 k (List.mem_range.2 hlt)
      exact absurd (h.symm.trans this) (by decide)
    · have h : eqQ (a.getD k default) (c.getD k default) = true := by
        simp only [Int.toNat_natCast] at hc
        have h : (!eqQ (a.getD k default) (c.getD k default)) = false := hc
        simpa using h
      exact ⟨k + 1, ⟨hlt, fun i hi => by
        rcases Nat.lt_or_ge i k with h1 | h1
        · exact hall i h1
        · have : i = k := by omega
          subst this; exact h⟩, by omega, ⟨rfl, rfl, rfl, True.intro⟩, rfl⟩
  · repeat' (first | refine AOps.q rfl rfl rfl (fun hg => by first | exact std0 | exact std1) (by exact rfl) ?_ | refine AWP.seq ?_ | refine AWP.regionK (fun K' hK => ?_) | (refine AOps.nil (hK _ _ ?_); clear hK K') | refine AOps.e (EStep.boxW rfl rfl rfl rfl rfl True.intro rfl rfl ?_) | refine AOps.e (EStep.storeW tabOk rfl rfl rfl True.intro rfl rfl True.intro rfl rfl rfl rfl rfl rfl rfl ?_) | refine AOps.e (EStep.allocW tabOk rfl rfl rfl rfl rfl rfl ?_) | (refine AWP.condW rfl True.intro (fun hc => ?_) (fun hc => ?_) <;> (first | (simp only [decide_eq_true_eq] at hc) | (simp only [decide_eq_false_iff_not, Int.not_lt, Int.not_le] at hc) | skip)) | refine AWP.block ?_ | refine AWP.exit ?_ | refine AWP.skip ?_ | refine AWP.ret ?_ | refine AWP.drawK2 (by decide +kernel) (by kernel_rfl) (by decide +kernel) rfl (fun K' hK => ?_) | refine AWP.drawL2 (by kernel_rfl) (by decide +kernel) rfl (fun K' hK => ?_) | (refine AQ.nil (hK _ ?_); clear hK K') | refine AQ.nil ?_ | refine AQ.q rfl rfl (fun hg => by first | exact std0 | exact std1) (by exact rfl) ?_)
    all_goals (first | (exfalso; omega) | skip)
    refine ⟨.inr rfl, Ent.b (Eq.symm ?_)⟩
    rw [decide_eq_true hle, Bool.true_and, List.all_eq_true]
    exact fun i hi => hall i (by have := List.mem_range.1 hi; omega)
end Go.Proofs.YtnmdmmfdnnmdfaaDoor.Nt
