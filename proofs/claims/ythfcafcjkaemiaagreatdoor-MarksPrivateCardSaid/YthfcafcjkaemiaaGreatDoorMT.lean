/- The law MarksPrivate by content. -/
import Derived.Test.YthfcafcjkaemiaaGreatDoorMO
set_option linter.unusedVariables false
set_option linter.unusedSimpArgs false
namespace Go.Proofs.YthfcafcjkaemiaaGreatDoor.Mk
open Go.Ab Go.Jo
attribute [local irreducible] AWP AOps EStep AQ PStep PRun PCall TCall VCall DStep TDies AWD DCall

theorem bestM_uniq {q : Jo.Mark → Bool} {l : List Jo.Mark} (hn : (l.map (·.id)).Nodup) {b : Jo.Mark} (hb : b ∈ l) (hq : q b = true) (hm : ∀ m ∈ l, q m = true → m = b ∨ cnt b m = true) : bestM q l = some b := by
  cases h : bestM q l with
  | none => have := bestM_none hn h b hb; rw [hq] at this; cases this
  | some w =>
    obtain ⟨w1, w2, w3⟩ := bestM_some hn h
    rcases w3 b hb hq with rfl | h1
    · rfl
    · rcases hm w w1 w2 with rfl | h2
      · rfl
      · have := cnt_asym b w
        rw [h1, h2] at this; cases this
theorem bestM_same {q : Jo.Mark → Bool} {l l' : List Jo.Mark} (hn : (l.map (·.id)).Nodup) (hn' : (l'.map (·.id)).Nodup) (h : ∀ m, q m = true → (m ∈ l ↔ m ∈ l')) : bestM q l' = bestM q l := by
  cases hb : bestM q l with
  | none =>
    cases hb' : bestM q l' with
    | none => rfl
    | some w =>
      obtain ⟨w1, w2, _⟩ := bestM_some hn' hb'
      have := bestM_none hn hb w ((h w w2).2 w1)
      rw [w2] at this; cases this
  | some b =>
    obtain ⟨b1, b2, b3⟩ := bestM_some hn hb
    exact bestM_uniq hn' ((h b b2).1 b1) b2 fun m hm hq => b3 m ((h m hq).2 hm) hq
/-- A mark that is of this version, and not of another player or another desk. -/
def keepM (r : Rdr) (v : Int) (m : Jo.Mark) : Bool := (!(m.layer == 1 && !eqR m.who r) && !(m.layer == 2 && (m.who.part != r.part || m.who.desk != r.desk))) && m.version == v
def rvM (l : List Jo.Mark) (k : Nat) : List Jo.Mark := (l.drop (l.length - k)).reverse
theorem rvM_succ {l : List Jo.Mark} {k : Nat} (h : k < l.length) : rvM l (k + 1) = rvM l k ++ [l.getD (l.length - 1 - k) default] := by
  unfold rvM
  rw [show l.length - (k + 1) = l.length - 1 - k by omega, List.drop_eq_getElem_cons (by omega : l.length - 1 - k < l.length), List.reverse_cons, getD_lt (by omega), show l.length - 1 - k + 1 = l.length - k by omega]
def ownM (r : Rdr) (v : Int) (l : List Jo.Mark) (k : Nat) : List Jo.Mark := (rvM l k).filter (keepM r v)
theorem ownM_succ {r : Rdr} {v : Int} {l : List Jo.Mark} {k : Nat} (h : k < l.length) {m : Jo.Mark} (hm : l.getD (l.length - 1 - k) default = m) : ownM r v l (k + 1) = if keepM r v m then ownM r v l k ++ [m] else ownM r v l k := by
  unfold ownM
  rw [rvM_succ h, hm, List.filter_append]
  split
  · rename_i h2; rw [List.filter_cons_of_pos h2]; rfl
  · rename_i h2; rw [List.filter_cons_of_neg h2]; simp
theorem ownM_zero (r : Rdr) (v : Int) (l : List Jo.Mark) : ownM r v l 0 = [] := by unfold ownM rvM; simp
theorem ownM_len (r : Rdr) (v : Int) (l : List Jo.Mark) (k : Nat) : (ownM r v l k).length ≤ l.length := by
  unfold ownM
  refine Nat.le_trans (List.length_filter_le _ _) ?_
  unfold rvM; simp
theorem ownM_all (r : Rdr) (v : Int) (l : List Jo.Mark) : ownM r v l l.length = l.reverse.filter (keepM r v) := by
  unfold ownM rvM; simp
theorem mem_own {r : Rdr} {v : Int} {l : List Jo.Mark} {m : Jo.Mark} : m ∈ ownM r v l l.length ↔ m ∈ l ∧ keepM r v m = true := by
  rw [ownM_all, List.mem_filter, List.mem_reverse]
theorem own_marksOk {r : Rdr} {v : Int} {l : List Jo.Mark} (h : marksOk l = true) : marksOk (ownM r v l l.length) = true := by
  have h1 := marksOk_nodup h
  have h2 : l.length ≤ 20000 := by
    unfold marksOk at h
    simp only [Bool.and_eq_true, decide_eq_true_eq] at h
    exact h.2
  unfold marksOk
  simp only [Bool.and_eq_true, decide_eq_true_eq, List.all_eq_true]
  refine ⟨⟨fun m hm => marksOk_mem h (mem_own.1 hm).1, ?_⟩, Nat.le_trans (ownM_len _ _ _ _) h2⟩
  rw [ownM_all]
  refine List.Sublist.nodup (List.Sublist.map _ List.filter_sublist) ?_
  rw [List.map_reverse]
  unfold List.Nodup at h1 ⊢
  rw [List.pairwise_reverse]
  exact h1.imp fun h => Ne.symm h
theorem keep_of {m : Jo.Mark} {v sec : Int} {r : Rdr} {n k : Int} (h : okFor v n k sec r m = true) : keepM r v m = true := by
  unfold okFor at h
  simp only [Bool.not_eq_true', Bool.or_eq_false_iff, bne_eq_false_iff_eq, Bool.not_eq_false'] at h
  obtain ⟨⟨⟨h1, _⟩, _⟩, h4⟩ := h
  unfold keepM
  rw [h1, eqR_eq]
  unfold forM at h4
  by_cases l1 : m.layer = 1
  · rw [if_pos l1] at h4
    rw [h4, l1]; simp
  · by_cases l2 : m.layer = 2
    · rw [if_neg l1, if_pos l2] at h4
      simp only [Bool.and_eq_true, beq_iff_eq] at h4
      rw [l2, h4.1, h4.2]; simp
    · simp [l1, l2]
theorem own_shownF {s : Score} {l : List Jo.Mark} {p : Part} {r : Rdr} (h : marksOk l = true) : shownF s (ownM r s.version l l.length) p r = shownF s l p r := by
  funext n k
  unfold shownF
  exact bestM_same (marksOk_nodup h) (marksOk_nodup (own_marksOk h)) fun m hq => ⟨fun hm => mem_own.2 ⟨hm, keep_of hq⟩, fun hm => (mem_own.1 hm).1⟩
set_option maxHeartbeats 16000000 in
set_option maxRecDepth 40000 in
theorem private_law (s : Score) (hz : s.Sized) (l : List Jo.Mark) (hl : l.length ≤ 9223372036854775807) (ht : TextsIn l) (r : Rdr) :
    PCall Tryz.prog 9 [.agg (encS s), .sl 10 (l.map encMk) .no, .agg (encRd r)] (.b true) := by
  have hh := mhead_spec
  have hu := usable_spec s hz l hl ht
  cases hus : usableR s l with
  | false =>
    rw [hus] at hu
    refine PCall.body Tryz.func9 rfl rfl Tryz.ntmps9 rfl rfl ?_
    repeat' (first | refine AOps.q rfl rfl rfl (fun hg => by first | exact std0 | exact PRun.callW (hh) rfl rfl nd rfl nds | exact PRun.callW (hu) rfl rfl nd rfl nds | exact std1) (by exact rfl) ?_ | refine AWP.seq ?_ | refine AWP.regionK (fun K' hK => ?_) | (refine AOps.nil (hK _ _ ?_); clear hK K') | refine AOps.e (EStep.boxW rfl rfl rfl rfl rfl True.intro rfl rfl ?_) | refine AOps.e (EStep.storeW tabOk rfl rfl rfl True.intro rfl rfl True.intro rfl rfl rfl rfl rfl rfl rfl ?_) | refine AOps.e (EStep.allocW tabOk rfl rfl rfl rfl rfl rfl ?_) | (refine AWP.condW rfl True.intro (fun hc => ?_) (fun hc => ?_) <;> (first | (simp only [decide_eq_true_eq] at hc) | (simp only [decide_eq_false_iff_not, Int.not_lt, Int.not_le] at hc) | skip)) | refine AWP.block ?_ | refine AWP.exit ?_ | refine AWP.skip ?_ | refine AWP.ret ?_ | (refine AQ.nil (hK _ ?_); clear hK K') | refine AQ.nil ?_ | refine AQ.q rfl rfl (fun hg => by first | exact std0 | exact PRun.callW (hh) rfl rfl nd rfl nds | exact PRun.callW (hu) rfl rfl nd rfl nds | exact std1) (by exact rfl) ?_)
    · exact ⟨.inr rfl, Ent.b rfl⟩
    all_goals (exfalso; simp at hc)
  | true =>
    rw [hus] at hu
    obtain ⟨u1, u2, u3, u4⟩ := usableR_split hus
    have hs := Score.few_small u1
    have hn := few_notes u1
    have hsh := shown_spec s hs (by omega) l (by omega) ht r
    cases hrd : readsI s r with
    | false =>
      have hr := reads_no s hs r hrd
      generalize shownR s l r = sr at *
      refine PCall.body Tryz.func9 rfl rfl Tryz.ntmps9 rfl rfl ?_
      repeat' (first | refine AOps.q rfl rfl rfl (fun hg => by first | exact std0 | exact PRun.callW (hh) rfl rfl nd rfl nds | exact PRun.callW (hu) rfl rfl nd rfl nds | exact PRun.callW (hr) rfl rfl nd rfl nds | exact PRun.callW (hsh) rfl rfl nd rfl nds | exact (Bool.noConfusion (show false = true from hg) : PRun _ _ _ _ (.b false)) | exact std1) (by exact rfl) ?_ | refine AWP.seq ?_ | refine AWP.regionK (fun K' hK => ?_) | (refine AOps.nil (hK _ _ ?_); clear hK K') | refine AOps.e (EStep.boxW rfl rfl rfl rfl rfl True.intro rfl rfl ?_) | refine AOps.e (EStep.storeW tabOk rfl rfl rfl True.intro rfl rfl True.intro rfl rfl rfl rfl rfl rfl rfl ?_) | refine AOps.e (EStep.allocW tabOk rfl rfl rfl rfl rfl rfl ?_) | (refine AWP.condW rfl True.intro (fun hc => ?_) (fun hc => ?_) <;> (first | (simp only [decide_eq_true_eq] at hc) | (simp only [decide_eq_false_iff_not, Int.not_lt, Int.not_le] at hc) | skip)) | refine AWP.block ?_ | refine AWP.exit ?_ | refine AWP.skip ?_ | refine AWP.ret ?_ | (refine AQ.nil (hK _ ?_); clear hK K') | refine AQ.nil ?_ | refine AQ.q rfl rfl (fun hg => by first | exact std0 | exact PRun.callW (hh) rfl rfl nd rfl nds | exact PRun.callW (hu) rfl rfl nd rfl nds | exact PRun.callW (hr) rfl rfl nd rfl nds | exact PRun.callW (hsh) rfl rfl nd rfl nds | exact (Bool.noConfusion (show false = true from hg) : PRun _ _ _ _ (.b false)) | exact std1) (by exact rfl) ?_)
      · exfalso; simp at hc
      · exact ⟨.inr rfl, Ent.b (by simp)⟩
      all_goals (exfalso; simp at hc)
    | true =>
      obtain ⟨hr1, k, e1, e2, e3, e4⟩ := reads_split hrd
      obtain ⟨p, hP⟩ : ∃ p, s.parts.getD k default = p := ⟨_, rfl⟩
      rw [hP] at e3 e4
      have hr := reads_yes s hs r hr1 e1 e2 hP e3
      rw [shownR_yes u3 u4 hr1 e1 hP e3] at hsh
      have hol := ownM_len r s.version l l.length
      have hso := shown_spec s hs (by omega) (ownM r s.version l l.length) (by omega) (fun m hm => ht m (mem_own.1 hm).1) r
      rw [shownR_yes u3 (own_marksOk u4) hr1 e1 hP e3, own_shownF u4] at hso
      have hpn := played_len s.notes p
      have hxl := shownL_len (shownF s l p r) (playedL s.notes p)
      have hsm := same19_spec (shownL (shownF s l p r) (playedL s.notes p)) (shownL (shownF s l p r) (playedL s.notes p)) (by omega) (by omega)
      rw [beq_self_eq_true] at hsm
      generalize shownL (shownF s l p r) (playedL s.notes p) = x at *
      clear hpn hxl
      refine PCall.body Tryz.func9 rfl rfl Tryz.ntmps9 rfl rfl ?_
      repeat' (first | refine AOps.q rfl rfl rfl (fun hg => by first | exact std0 | exact PRun.callW (hh) rfl rfl nd rfl nds | exact PRun.callW (hu) rfl rfl nd rfl nds | exact PRun.callW (hr) rfl rfl nd rfl nds | exact PRun.callW (hsh) rfl rfl nd rfl nds | exact std1) (by exact rfl) ?_ | refine AWP.seq ?_ | refine AWP.regionK (fun K' hK => ?_) | (refine AOps.nil (hK _ _ ?_); clear hK K') | refine AOps.e (EStep.boxW rfl rfl rfl rfl rfl True.intro rfl rfl ?_) | refine AOps.e (EStep.storeW tabOk rfl rfl rfl True.intro rfl rfl True.intro rfl rfl rfl rfl rfl rfl rfl ?_) | refine AOps.e (EStep.allocW tabOk rfl rfl rfl rfl rfl rfl ?_) | (refine AWP.condW rfl True.intro (fun hc => ?_) (fun hc => ?_) <;> (first | (simp only [decide_eq_true_eq] at hc) | (simp only [decide_eq_false_iff_not, Int.not_lt, Int.not_le] at hc) | skip)) | refine AWP.block ?_ | refine AWP.exit ?_ | refine AWP.skip ?_ | refine AWP.ret ?_ | refine AWP.drawK2 (by decide +kernel) (by kernel_rfl) (by decide +kernel) rfl (fun K' hK => ?_) | refine AWP.drawL2 (by kernel_rfl) (by decide +kernel) rfl (fun K' hK => ?_) | (refine AQ.nil (hK _ ?_); clear hK K') | refine AQ.nil ?_ | refine AQ.q rfl rfl (fun hg => by first | exact std0 | exact PRun.callW (hh) rfl rfl nd rfl nds | exact PRun.callW (hu) rfl rfl nd rfl nds | exact PRun.callW (hr) rfl rfl nd rfl nds | exact PRun.callW (hsh) rfl rfl nd rfl nds | exact std1) (by exact rfl) ?_)
      · exfalso; simp at hc
      · exfalso; simp at hc
      clear hh hu hr hsh
      refine AWP.ownNil (d := 12) (sz := 10) rfl ?_
      repeat' (first | refine AOps.q rfl rfl rfl (fun hg => by first | exact std0 | exact std1) (by exact rfl) ?_ | refine AWP.seq ?_ | refine AWP.regionK (fun K' hK => ?_) | (refine AOps.nil (hK _ _ ?_); clear hK K') | refine AOps.e (EStep.boxW rfl rfl rfl rfl rfl True.intro rfl rfl ?_) | refine AOps.e (EStep.storeW tabOk rfl rfl rfl True.intro rfl rfl True.intro rfl rfl rfl rfl rfl rfl rfl ?_) | refine AOps.e (EStep.allocW tabOk rfl rfl rfl rfl rfl rfl ?_) | (refine AWP.condW rfl True.intro (fun hc => ?_) (fun hc => ?_) <;> (first | (simp only [decide_eq_true_eq] at hc) | (simp only [decide_eq_false_iff_not, Int.not_lt, Int.not_le] at hc) | skip)) | refine AWP.block ?_ | refine AWP.exit ?_ | refine AWP.skip ?_ | refine AWP.ret ?_ | refine AWP.drawK2 (by decide +kernel) (by kernel_rfl) (by decide +kernel) rfl (fun K' hK => ?_) | refine AWP.drawL2 (by kernel_rfl) (by decide +kernel) rfl (fun K' hK => ?_) | (refine AQ.nil (hK _ ?_); clear hK K') | refine AQ.nil ?_ | refine AQ.q rfl rfl (fun hg => by first | exact std0 | exact std1) (by exact rfl) ?_)
      refine AWP.loopD (ι := Nat) (fun j => [(1, .sl 10 (l.map encMk) .no), (3, .ptr 0 0), (5, .ptr 1 0), (7, .b true), (10, .sl 10 (x.map encMk) .no), (12, .sl 10 ((ownM r s.version l j).map encMk) (.own 3)), (49, .sl 10 (l.map encMk) .no), (50, .int l.length), (51, .int j)])
        (fun j => [.var (encS s), .var (encRd r), .var (encP p), .own 10 ((ownM r s.version l j).map encMk).length])
        (fun j => j ≤ l.length) (fun j => l.length - j) 4 (fun _ => rfl) 0 (Nat.zero_le _) ⟨rfl, rfl, rfl, rfl, rfl, (by show AV.sl 10 [] (.own 3) = AV.sl 10 (List.map encMk (ownM r s.version l 0)) (.own 3); rw [ownM_zero]; rfl), rfl, rfl, rfl, True.intro⟩ (by show [_, _, _, AObj.own 10 0] = [_, _, _, AObj.own 10 (List.map encMk (ownM r s.version l 0)).length]; rw [ownM_zero]; rfl) (fun _ _ => rfl) (fun _ _ => rfl) ?_
      intro j hj
      have holj := ownM_len r s.version l j
      by_cases hjl : j < l.length
      · obtain ⟨m, hm⟩ : ∃ m, l.getD ((l.length : Int) - 1 - (j : Int)).toNat default = m := ⟨_, rfl⟩
        have hm2 : l.getD (l.length - 1 - j) default = m := by
          rw [← hm]; congr 1; omega
        have hsu := ownM_succ (r := r) (v := s.version) hjl hm2
        repeat' (first | refine AOps.q rfl rfl rfl (fun hg => by first | exact PRun.eq (v := .iptr (encMk (l.getD ((l.length : Int) - 1 - (j : Int)).toNat default))) (PRun.indexMW tabOk rfl rfl nd rfl nd rfl rfl (by omega)) (congrArg (fun x => AV.iptr (encMk x)) hm) | exact std0 | exact PRun.neN flR rfl rfl nd rfl nd rfl | exact PRun.buildSlW tabOk rfl rfl nds | exact std1) (by exact rfl) ?_ | refine AWP.seq ?_ | refine AWP.regionK (fun K' hK => ?_) | (refine AOps.nil (hK _ _ ?_); clear hK K') | refine AOps.e (EStep.boxW rfl rfl rfl rfl rfl True.intro rfl rfl ?_) | refine AOps.e (EStep.storeW tabOk rfl rfl rfl True.intro rfl rfl True.intro rfl rfl rfl rfl rfl rfl rfl ?_) | refine AOps.e (EStep.allocW tabOk rfl rfl rfl rfl rfl rfl ?_) | refine AOps.e (EStep.appendOwn' tabOk rfl rfl rfl (by decide) (Rd.w rfl True.intro) rfl (Rd.w rfl True.intro) (.sl rfl (by first | (intro x hx; rcases List.mem_singleton.1 hx with rfl; rfl) | exact one_encMk [m])) (LOk.of (tabOk.get rfl)) (LOk.of (tabOk.get rfl)) rfl rfl (by simp only [List.length_map, List.length_append, List.length_cons, List.length_nil, List.length_take, List.length_drop]; omega) (by simp only [List.length_map, List.length_append, List.length_cons, List.length_nil, List.length_take, List.length_drop]; omega) ?_) | (refine AWP.condW rfl True.intro (fun hc => ?_) (fun hc => ?_) <;> (first | (simp only [decide_eq_true_eq] at hc) | (simp only [decide_eq_false_iff_not, Int.not_lt, Int.not_le] at hc) | skip)) | refine AWP.block ?_ | refine AWP.exit ?_ | refine AWP.skip ?_ | refine AWP.ret ?_ | refine AWP.drawK2 (by decide +kernel) (by kernel_rfl) (by decide +kernel) rfl (fun K' hK => ?_) | refine AWP.drawL2 (by kernel_rfl) (by decide +kernel) rfl (fun K' hK => ?_) | (refine AQ.nil (hK _ ?_); clear hK K') | refine AQ.nil ?_ | refine AQ.q rfl rfl (fun hg => by first | exact PRun.eq (v := .iptr (encMk (l.getD ((l.length : Int) - 1 - (j : Int)).toNat default))) (PRun.indexMW tabOk rfl rfl nd rfl nd rfl rfl (by omega)) (congrArg (fun x => AV.iptr (encMk x)) hm) | exact std0 | exact PRun.neN flR rfl rfl nd rfl nd rfl | exact PRun.buildSlW tabOk rfl rfl nds | exact std1) (by exact rfl) ?_)
        all_goals (first | (exfalso; omega) | skip)
        · have hk : keepM r s.version m = true := hc
          rw [if_pos hk] at hsu
          refine ⟨j + 1, by omega, by omega, ⟨rfl, rfl, rfl, rfl, rfl, ?_, rfl, rfl, rfl, True.intro⟩, ?_⟩
          · rw [hsu, List.map_append]; rfl
          · rw [hsu, List.map_append]; rfl
        · have hk : keepM r s.version m = false := hc
          rw [if_neg (by rw [hk]; decide)] at hsu
          refine ⟨j + 1, by omega, by omega, ⟨rfl, rfl, rfl, rfl, rfl, ?_, rfl, rfl, rfl, True.intro⟩, ?_⟩
          · rw [hsu]; rfl
          · rw [hsu]; rfl
      obtain rfl : j = l.length := by omega
      repeat' (first | refine AOps.q rfl rfl rfl (fun hg => by first | exact std0 | exact PRun.callW (hso) rfl rfl nd rfl nds | exact PRun.callW (hsm) rfl rfl nd rfl nds | exact std1) (by exact rfl) ?_ | refine AWP.seq ?_ | refine AWP.regionK (fun K' hK => ?_) | (refine AOps.nil (hK _ _ ?_); clear hK K') | refine AOps.e (EStep.boxW rfl rfl rfl rfl rfl True.intro rfl rfl ?_) | refine AOps.e (EStep.storeW tabOk rfl rfl rfl True.intro rfl rfl True.intro rfl rfl rfl rfl rfl rfl rfl ?_) | refine AOps.e (EStep.allocW tabOk rfl rfl rfl rfl rfl rfl ?_) | (refine AWP.condW rfl True.intro (fun hc => ?_) (fun hc => ?_) <;> (first | (simp only [decide_eq_true_eq] at hc) | (simp only [decide_eq_false_iff_not, Int.not_lt, Int.not_le] at hc) | skip)) | refine AWP.block ?_ | refine AWP.exit ?_ | refine AWP.skip ?_ | refine AWP.ret ?_ | refine AWP.drawK2 (by decide +kernel) (by kernel_rfl) (by decide +kernel) rfl (fun K' hK => ?_) | refine AWP.drawL2 (by kernel_rfl) (by decide +kernel) rfl (fun K' hK => ?_) | (refine AQ.nil (hK _ ?_); clear hK K') | refine AQ.nil ?_ | refine AQ.q rfl rfl (fun hg => by first | exact std0 | exact PRun.callW (hso) rfl rfl nd rfl nds | exact PRun.callW (hsm) rfl rfl nd rfl nds | exact std1) (by exact rfl) ?_)
      all_goals (first | (exfalso; omega) | skip)
      exact ⟨.inr rfl, Ent.b rfl⟩
end Go.Proofs.YthfcafcjkaemiaaGreatDoor.Mk
