/- Contracts by content: the marks that a reader sees: the reference. No statement is proved here. -/
import Derived.Test.YthfcafcjkaemiaaGreatDoorMK
set_option linter.unusedVariables false
set_option linter.unusedSimpArgs false
namespace Go.Proofs.YthfcafcjkaemiaaGreatDoor.Mk
open Go.Ab Go.Jo
attribute [local irreducible] AWP AOps EStep AQ PStep PRun PCall TCall VCall DStep TDies AWD DCall

set_option maxHeartbeats 8000000 in
set_option maxRecDepth 20000 in
theorem shown19_spec (s : Score) (hs : s.Small) (hn : s.notes.length ≤ 1000000) (l : List Jo.Mark) (hl : l.length ≤ 1000000000) (ht : TextsIn l) (r : Rdr) :
    PCall Tryz.prog 40 [.agg (encS s), .sl 10 (l.map encMk) .no, .agg (encRd r)] (tupM (shownR s l r)) := by
  have hv := valid8_spec s hs
  have hm := marks19_spec l (by omega) ht
  have hr := rdr19_spec r
  have hp := part8_spec s hs r.part
  have hpl := plays8_spec s hs r.part
  obtain ⟨h1, h2, h3⟩ := hs
  by_cases hgood : ((scoreOk s && marksOk l) && isRdr r) = true
  · have hgood2 := hgood
    simp only [Bool.and_eq_true] at hgood2
    obtain ⟨⟨g1, g2⟩, g3⟩ := hgood2
    rw [g1] at hv
    rw [g2] at hm
    rw [g3] at hr
    by_cases hf : partI s r.part ≥ 0
    · obtain ⟨k, e1, e2, e3, e4⟩ := findI_lt hf
      have e1' : partI s r.part = k := e1
      rw [partR_yes g1 g3 e1'] at hp
      have er : playsR s r.part = (playedL s.notes (s.parts.getD k default), 0) := by unfold playsR; rw [if_pos g1, if_pos (show findI (fun x : Part => x.id == r.part) s.parts ≥ 0 from hf), e1]; rfl
      rw [er] at hpl
      have hpn := played_len s.notes (s.parts.getD k default)
      by_cases hdk : (s.parts.getD k default).desks < r.desk
      · have es : shownR s l r = ([], 22) := by
          unfold shownR; rw [if_pos hgood, if_pos hf, e1', if_pos (by exact hdk)]
        rw [es]
        obtain ⟨p, hP⟩ : ∃ p, s.parts.getD k default = p := ⟨_, rfl⟩
        rw [hP] at hdk
        refine PCall.body Tryz.func40 rfl rfl Tryz.ntmps40 rfl rfl ?_
        repeat' (first
          | refine AOps.q rfl rfl rfl (fun hg => by first | exact PRun.eq (v := .iptr (encP (s.parts.getD ((k : Nat) : Int).toNat default))) (PRun.indexMW tabOk rfl rfl nd rfl nd rfl rfl (by omega)) (congrArg (fun x => AV.iptr (encP x)) hP) | exact std0 | exact PRun.callW (hv) rfl rfl nd rfl nds | exact PRun.callW (hm) rfl rfl nd rfl nds | exact PRun.callW (hr) rfl rfl nd rfl nds | exact PRun.callW (hp) rfl rfl nd rfl nds | exact std1) (by exact rfl) ?_
          | refine AWP.seq ?_
          | refine AWP.regionK (fun K' hK => ?_)
          | (refine AOps.nil (hK _ _ ?_); clear hK K')
          | refine AOps.e (EStep.boxW rfl rfl rfl rfl rfl True.intro rfl rfl ?_)
          | refine AOps.e (EStep.storeW tabOk rfl rfl rfl True.intro rfl rfl True.intro rfl rfl rfl rfl rfl rfl rfl ?_)
          | refine AOps.e (EStep.allocW tabOk rfl rfl rfl rfl rfl rfl ?_)
          | (refine AWP.condW rfl True.intro (fun hc => ?_) (fun hc => ?_) <;> (first | (simp only [decide_eq_true_eq] at hc) | (simp only [decide_eq_false_iff_not, Int.not_lt, Int.not_le] at hc) | skip))
          | refine AWP.block ?_
          | refine AWP.exit ?_
          | refine AWP.skip ?_
          | refine AWP.ret ?_
          | refine AWP.drawK2 (by decide +kernel) (by kernel_rfl) (by decide +kernel) rfl (fun K' hK => ?_)
          | refine AWP.drawL2 (by kernel_rfl) (by decide +kernel) rfl (fun K' hK => ?_)
          | (refine AQ.nil (hK _ ?_); clear hK K')
          | refine AQ.nil ?_
          | refine AQ.q rfl rfl (fun hg => by first | exact PRun.eq (v := .iptr (encP (s.parts.getD ((k : Nat) : Int).toNat default))) (PRun.indexMW tabOk rfl rfl nd rfl nd rfl rfl (by omega)) (congrArg (fun x => AV.iptr (encP x)) hP) | exact std0 | exact PRun.callW (hv) rfl rfl nd rfl nds | exact PRun.callW (hm) rfl rfl nd rfl nds | exact PRun.callW (hr) rfl rfl nd rfl nds | exact PRun.callW (hp) rfl rfl nd rfl nds | exact std1) (by exact rfl) ?_)
        · exfalso; simp at hc
        · exact ⟨.inr rfl, Ent.tup2 Ent.nil (Ent.rfl' _)⟩
        · exfalso; simp at hc; omega
      · have es : shownR s l r = (shownL (shownF s l (s.parts.getD k default) r) (playedL s.notes (s.parts.getD k default)), 0) := by
          unfold shownR; rw [if_pos hgood, if_pos hf, e1', if_neg (by exact hdk)]; rfl
        rw [es]
        clear es er
        obtain ⟨p, hP⟩ : ∃ p, s.parts.getD k default = p := ⟨_, rfl⟩
        rw [hP] at hpl hpn hdk ⊢
        obtain ⟨ns, hns⟩ : ∃ ns, playedL s.notes p = ns := ⟨_, rfl⟩
        rw [hns] at hpl hpn ⊢
        refine PCall.body Tryz.func40 rfl rfl Tryz.ntmps40 rfl rfl ?_
        repeat' (first
          | refine AOps.q rfl rfl rfl (fun hg => by first | exact PRun.eq (v := .iptr (encP (s.parts.getD ((k : Nat) : Int).toNat default))) (PRun.indexMW tabOk rfl rfl nd rfl nd rfl rfl (by omega)) (congrArg (fun x => AV.iptr (encP x)) hP) | exact std0 | exact PRun.callW (hv) rfl rfl nd rfl nds | exact PRun.callW (hm) rfl rfl nd rfl nds | exact PRun.callW (hr) rfl rfl nd rfl nds | exact PRun.callW (hp) rfl rfl nd rfl nds | exact PRun.callW (hpl) rfl rfl nd rfl nds | exact std1) (by exact rfl) ?_
          | refine AWP.seq ?_
          | refine AWP.regionK (fun K' hK => ?_)
          | (refine AOps.nil (hK _ _ ?_); clear hK K')
          | refine AOps.e (EStep.boxW rfl rfl rfl rfl rfl True.intro rfl rfl ?_)
          | refine AOps.e (EStep.storeW tabOk rfl rfl rfl True.intro rfl rfl True.intro rfl rfl rfl rfl rfl rfl rfl ?_)
          | refine AOps.e (EStep.allocW tabOk rfl rfl rfl rfl rfl rfl ?_)
          | (refine AWP.condW rfl True.intro (fun hc => ?_) (fun hc => ?_) <;> (first | (simp only [decide_eq_true_eq] at hc) | (simp only [decide_eq_false_iff_not, Int.not_lt, Int.not_le] at hc) | skip))
          | refine AWP.block ?_
          | refine AWP.exit ?_
          | refine AWP.skip ?_
          | refine AWP.ret ?_
          | refine AWP.drawK2 (by decide +kernel) (by kernel_rfl) (by decide +kernel) rfl (fun K' hK => ?_)
          | refine AWP.drawL2 (by kernel_rfl) (by decide +kernel) rfl (fun K' hK => ?_)
          | (refine AQ.nil (hK _ ?_); clear hK K')
          | refine AQ.nil ?_
          | refine AQ.q rfl rfl (fun hg => by first | exact PRun.eq (v := .iptr (encP (s.parts.getD ((k : Nat) : Int).toNat default))) (PRun.indexMW tabOk rfl rfl nd rfl nd rfl rfl (by omega)) (congrArg (fun x => AV.iptr (encP x)) hP) | exact std0 | exact PRun.callW (hv) rfl rfl nd rfl nds | exact PRun.callW (hm) rfl rfl nd rfl nds | exact PRun.callW (hr) rfl rfl nd rfl nds | exact PRun.callW (hp) rfl rfl nd rfl nds | exact PRun.callW (hpl) rfl rfl nd rfl nds | exact std1) (by exact rfl) ?_)
        · exfalso; simp at hc
        · exfalso; simp at hc; omega
        clear hv hm hr hp hpl
        refine AWP.ownNil (d := 15) (sz := 10) rfl ?_
        repeat' (first
          | refine AOps.q rfl rfl rfl (fun hg => by first | exact std0 | exact std1) (by exact rfl) ?_
          | refine AWP.seq ?_
          | refine AWP.regionK (fun K' hK => ?_)
          | (refine AOps.nil (hK _ _ ?_); clear hK K')
          | refine AOps.e (EStep.boxW rfl rfl rfl rfl rfl True.intro rfl rfl ?_)
          | refine AOps.e (EStep.storeW tabOk rfl rfl rfl True.intro rfl rfl True.intro rfl rfl rfl rfl rfl rfl rfl ?_)
          | refine AOps.e (EStep.allocW tabOk rfl rfl rfl rfl rfl rfl ?_)
          | (refine AWP.condW rfl True.intro (fun hc => ?_) (fun hc => ?_) <;> (first | (simp only [decide_eq_true_eq] at hc) | (simp only [decide_eq_false_iff_not, Int.not_lt, Int.not_le] at hc) | skip))
          | refine AWP.block ?_
          | refine AWP.exit ?_
          | refine AWP.skip ?_
          | refine AWP.ret ?_
          | refine AWP.drawK2 (by decide +kernel) (by kernel_rfl) (by decide +kernel) rfl (fun K' hK => ?_)
          | refine AWP.drawL2 (by kernel_rfl) (by decide +kernel) rfl (fun K' hK => ?_)
          | (refine AQ.nil (hK _ ?_); clear hK K')
          | refine AQ.nil ?_
          | refine AQ.q rfl rfl (fun hg => by first | exact std0 | exact std1) (by exact rfl) ?_)
        obtain ⟨f, hff⟩ : ∃ f, shownF s l p r = f := ⟨_, rfl⟩
        rw [hff]
        refine AWP.loopD (ι := Nat) (fun j => [(1, .sl 10 (l.map encMk) .no), (3, .ptr 0 0), (5, .ptr 1 0), (10, .int k), (13, .sl 12 (ns.map encN) .no), (15, .sl 10 ((shownL f (ns.take j)).map encMk) (.own 2)), (16, .int j)])
          (fun j => [.var (encS s), .var (encRd r), .own 10 ((shownL f (ns.take j)).map encMk).length])
          (fun j => j ≤ ns.length) (fun j => ns.length - j) 3 (fun _ => rfl) 0 (Nat.zero_le _) ⟨rfl, rfl, rfl, rfl, rfl, rfl, rfl, True.intro⟩ rfl (fun _ _ => rfl) (fun _ _ => rfl) ?_
        intro j hj
        have hol := shownL_len f (ns.take j)
        rw [List.length_take] at hol
        by_cases hjl : j < ns.length
        · have hsn := shownL_snoc f hjl
          obtain ⟨n, hn1⟩ : ∃ n, ns.getD j default = n := ⟨_, rfl⟩
          rw [hn1] at hsn
          repeat' (first
            | refine AOps.q rfl rfl rfl (fun hg => by first | exact std0 | exact std1) (by exact rfl) ?_
            | refine AWP.seq ?_
            | refine AWP.regionK (fun K' hK => ?_)
            | (refine AOps.nil (hK _ _ ?_); clear hK K')
            | refine AOps.e (EStep.boxW rfl rfl rfl rfl rfl True.intro rfl rfl ?_)
            | refine AOps.e (EStep.storeW tabOk rfl rfl rfl True.intro rfl rfl True.intro rfl rfl rfl rfl rfl rfl rfl ?_)
            | refine AOps.e (EStep.allocW tabOk rfl rfl rfl rfl rfl rfl ?_)
            | (refine AWP.condW rfl True.intro (fun hc => ?_) (fun hc => ?_) <;> (first | (simp only [decide_eq_true_eq] at hc) | (simp only [decide_eq_false_iff_not, Int.not_lt, Int.not_le] at hc) | skip))
            | refine AWP.block ?_
            | refine AWP.exit ?_
            | refine AWP.skip ?_
            | refine AWP.ret ?_
            | refine AWP.drawK2 (by decide +kernel) (by kernel_rfl) (by decide +kernel) rfl (fun K' hK => ?_)
            | refine AWP.drawL2 (by kernel_rfl) (by decide +kernel) rfl (fun K' hK => ?_)
            | (refine AQ.nil (hK _ ?_); clear hK K')
            | refine AQ.nil ?_
            | refine AQ.q rfl rfl (fun hg => by first | exact std0 | exact std1) (by exact rfl) ?_)
          all_goals (first | (exfalso; omega) | skip)
          generalize shownL f (ns.take j) = out at *
          refine AWP.loopD (ι := Nat) (fun kd => [(1, .sl 10 (l.map encMk) .no), (3, .ptr 0 0), (5, .ptr 1 0), (10, .int k), (13, .sl 12 (ns.map encN) .no), (15, .sl 10 ((out ++ (kinds.take kd).filterMap (f n.id)).map encMk) (.own 2)), (16, .int j), (17, .int ((kd : Int) + 1))])
            (fun kd => [.var (encS s), .var (encRd r), .own 10 ((out ++ (kinds.take kd).filterMap (f n.id)).map encMk).length])
            (fun kd => kd ≤ 5) (fun kd => 5 - kd) 3 (fun _ => rfl) 0 (Nat.zero_le _) ⟨rfl, rfl, rfl, rfl, rfl, (by show AV.sl 10 (List.map encMk out) (.own 2) = AV.sl 10 (List.map encMk (out ++ [])) (.own 2); rw [List.append_nil]), rfl, rfl, True.intro⟩ (by show [_, _, AObj.own 10 (List.map encMk out).length] = [_, _, AObj.own 10 (List.map encMk (out ++ [])).length]; rw [List.append_nil]) (fun _ _ => rfl) (fun _ _ => rfl) ?_
          intro kd hkd
          have hol2 : (out ++ (kinds.take kd).filterMap (f n.id)).length ≤ 5 * min j ns.length + 5 := by
            rw [List.length_append]
            have h9 := filterMap_len (f n.id) (kinds.take kd)
            rw [List.length_take] at h9
            have : kinds.length = 5 := rfl
            omega
          by_cases hk5 : kd < 5
          · have hka := kinds_at hk5 (f n.id)
            have hfb : f n.id ((kd : Int) + 1) = if bestN (okFor s.version n.id ((kd : Int) + 1) p.section_ r) l l.length < 0 then none else some (l.getD (bestN (okFor s.version n.id ((kd : Int) + 1) p.section_ r) l l.length).toNat default) := by
              rw [← hff]; exact bestM_N _ _
            have hbin := bestN_in (okFor s.version n.id ((kd : Int) + 1) p.section_ r) l l.length
            have hbs := best19_spec l hl s.version n.id ((kd : Int) + 1) p.section_ r
            generalize bestN (okFor s.version n.id ((kd : Int) + 1) p.section_ r) l l.length = b at *
            obtain ⟨O, hO⟩ : ∃ O, out ++ (kinds.take kd).filterMap (f n.id) = O := ⟨_, rfl⟩
            have hO2 : out ++ (kinds.take (kd + 1)).filterMap (f n.id) = O ++ (match f n.id ((kd : Int) + 1) with | none => [] | some m => [m]) := by
              rw [hka, ← hO, List.append_assoc]; try rfl
            rw [hO] at hol2 ⊢
            by_cases hb : b < 0
            · rw [hfb, if_pos hb] at hO2
              repeat' (first
                | refine AOps.q rfl rfl rfl (fun hg => by first | exact PRun.eq (v := .iptr (encN (ns.getD ((j : Nat) : Int).toNat default))) (PRun.indexMW tabOk rfl rfl nd rfl nd rfl rfl (by omega)) (congrArg (fun x => AV.iptr (encN x)) hn1) | exact PRun.eq (v := .iptr (encP (s.parts.getD ((k : Nat) : Int).toNat default))) (PRun.indexMW tabOk rfl rfl nd rfl nd rfl rfl (by omega)) (congrArg (fun x => AV.iptr (encP x)) hP) | exact std0 | exact PRun.callW (hbs) rfl rfl nd rfl nds | exact std1) (by exact rfl) ?_
                | refine AWP.seq ?_
                | refine AWP.regionK (fun K' hK => ?_)
                | (refine AOps.nil (hK _ _ ?_); clear hK K')
                | refine AOps.e (EStep.boxW rfl rfl rfl rfl rfl True.intro rfl rfl ?_)
                | refine AOps.e (EStep.storeW tabOk rfl rfl rfl True.intro rfl rfl True.intro rfl rfl rfl rfl rfl rfl rfl ?_)
                | refine AOps.e (EStep.allocW tabOk rfl rfl rfl rfl rfl rfl ?_)
                | (refine AWP.condW rfl True.intro (fun hc => ?_) (fun hc => ?_) <;> (first | (simp only [decide_eq_true_eq] at hc) | (simp only [decide_eq_false_iff_not, Int.not_lt, Int.not_le] at hc) | skip))
                | refine AWP.block ?_
                | refine AWP.exit ?_
                | refine AWP.skip ?_
                | refine AWP.ret ?_
                | refine AWP.drawK2 (by decide +kernel) (by kernel_rfl) (by decide +kernel) rfl (fun K' hK => ?_)
                | refine AWP.drawL2 (by kernel_rfl) (by decide +kernel) rfl (fun K' hK => ?_)
                | (refine AQ.nil (hK _ ?_); clear hK K')
                | refine AQ.nil ?_
                | refine AQ.q rfl rfl (fun hg => by first | exact PRun.eq (v := .iptr (encN (ns.getD ((j : Nat) : Int).toNat default))) (PRun.indexMW tabOk rfl rfl nd rfl nd rfl rfl (by omega)) (congrArg (fun x => AV.iptr (encN x)) hn1) | exact PRun.eq (v := .iptr (encP (s.parts.getD ((k : Nat) : Int).toNat default))) (PRun.indexMW tabOk rfl rfl nd rfl nd rfl rfl (by omega)) (congrArg (fun x => AV.iptr (encP x)) hP) | exact std0 | exact PRun.callW (hbs) rfl rfl nd rfl nds | exact std1) (by exact rfl) ?_)
              all_goals (first | (exfalso; omega) | (exfalso; simp at hc; omega) | skip)
              refine ⟨kd + 1, by omega, by omega, ⟨rfl, rfl, rfl, rfl, rfl, ?_, rfl, ?_, True.intro⟩, ?_⟩
              · rw [hO2, List.append_nil]; rfl
              · show AV.int _ = AV.int _; congr 1
              · rw [hO2, List.append_nil]; rfl
            · rw [hfb, if_neg hb] at hO2
              obtain ⟨m, hm1⟩ : ∃ m, l.getD b.toNat default = m := ⟨_, rfl⟩
              rw [hm1] at hO2
              repeat' (first
                | refine AOps.q rfl rfl rfl (fun hg => by first | exact PRun.eq (v := .iptr (encMk (l.getD b.toNat default))) (PRun.indexMW tabOk rfl rfl nd rfl nd rfl rfl (by omega)) (congrArg (fun x => AV.iptr (encMk x)) hm1) | exact PRun.eq (v := .iptr (encN (ns.getD ((j : Nat) : Int).toNat default))) (PRun.indexMW tabOk rfl rfl nd rfl nd rfl rfl (by omega)) (congrArg (fun x => AV.iptr (encN x)) hn1) | exact PRun.eq (v := .iptr (encP (s.parts.getD ((k : Nat) : Int).toNat default))) (PRun.indexMW tabOk rfl rfl nd rfl nd rfl rfl (by omega)) (congrArg (fun x => AV.iptr (encP x)) hP) | exact std0 | exact PRun.callW (hbs) rfl rfl nd rfl nds | exact PRun.buildSlW tabOk rfl rfl nds | exact std1) (by exact rfl) ?_
                | refine AWP.seq ?_
                | refine AWP.regionK (fun K' hK => ?_)
                | (refine AOps.nil (hK _ _ ?_); clear hK K')
                | refine AOps.e (EStep.boxW rfl rfl rfl rfl rfl True.intro rfl rfl ?_)
                | refine AOps.e (EStep.storeW tabOk rfl rfl rfl True.intro rfl rfl True.intro rfl rfl rfl rfl rfl rfl rfl ?_)
                | refine AOps.e (EStep.allocW tabOk rfl rfl rfl rfl rfl rfl ?_)
                | refine AOps.e (EStep.appendOwn' tabOk rfl rfl rfl (by decide) (Rd.w rfl True.intro) rfl (Rd.w rfl True.intro) (.sl rfl (by first | (intro x hx; rcases List.mem_singleton.1 hx with rfl; rfl) | exact one_encMk [m])) (LOk.of (tabOk.get rfl)) (LOk.of (tabOk.get rfl)) rfl rfl (by simp only [List.length_map, List.length_append, List.length_cons, List.length_nil, List.length_take, List.length_drop]; omega) (by simp only [List.length_map, List.length_append, List.length_cons, List.length_nil, List.length_take, List.length_drop]; omega) ?_)
                | (refine AWP.condW rfl True.intro (fun hc => ?_) (fun hc => ?_) <;> (first | (simp only [decide_eq_true_eq] at hc) | (simp only [decide_eq_false_iff_not, Int.not_lt, Int.not_le] at hc) | skip))
                | refine AWP.block ?_
                | refine AWP.exit ?_
                | refine AWP.skip ?_
                | refine AWP.ret ?_
                | refine AWP.drawK2 (by decide +kernel) (by kernel_rfl) (by decide +kernel) rfl (fun K' hK => ?_)
                | refine AWP.drawL2 (by kernel_rfl) (by decide +kernel) rfl (fun K' hK => ?_)
                | (refine AQ.nil (hK _ ?_); clear hK K')
                | refine AQ.nil ?_
                | refine AQ.q rfl rfl (fun hg => by first | exact PRun.eq (v := .iptr (encMk (l.getD b.toNat default))) (PRun.indexMW tabOk rfl rfl nd rfl nd rfl rfl (by omega)) (congrArg (fun x => AV.iptr (encMk x)) hm1) | exact PRun.eq (v := .iptr (encN (ns.getD ((j : Nat) : Int).toNat default))) (PRun.indexMW tabOk rfl rfl nd rfl nd rfl rfl (by omega)) (congrArg (fun x => AV.iptr (encN x)) hn1) | exact PRun.eq (v := .iptr (encP (s.parts.getD ((k : Nat) : Int).toNat default))) (PRun.indexMW tabOk rfl rfl nd rfl nd rfl rfl (by omega)) (congrArg (fun x => AV.iptr (encP x)) hP) | exact std0 | exact PRun.callW (hbs) rfl rfl nd rfl nds | exact PRun.buildSlW tabOk rfl rfl nds | exact std1) (by exact rfl) ?_)
              all_goals (first | (exfalso; omega) | (exfalso; simp at hc; omega) | skip)
              refine ⟨kd + 1, by omega, by omega, ⟨rfl, rfl, rfl, rfl, rfl, ?_, rfl, ?_, True.intro⟩, ?_⟩
              · rw [hO2, List.map_append]; rfl
              · show AV.int _ = AV.int _; congr 1
              · rw [hO2, List.map_append]; rfl
          · obtain rfl : kd = 5 := by omega
            repeat' (first
              | refine AOps.q rfl rfl rfl (fun hg => by first | exact std0 | exact std1) (by exact rfl) ?_
              | refine AWP.seq ?_
              | refine AWP.regionK (fun K' hK => ?_)
              | (refine AOps.nil (hK _ _ ?_); clear hK K')
              | refine AOps.e (EStep.boxW rfl rfl rfl rfl rfl True.intro rfl rfl ?_)
              | refine AOps.e (EStep.storeW tabOk rfl rfl rfl True.intro rfl rfl True.intro rfl rfl rfl rfl rfl rfl rfl ?_)
              | refine AOps.e (EStep.allocW tabOk rfl rfl rfl rfl rfl rfl ?_)
              | (refine AWP.condW rfl True.intro (fun hc => ?_) (fun hc => ?_) <;> (first | (simp only [decide_eq_true_eq] at hc) | (simp only [decide_eq_false_iff_not, Int.not_lt, Int.not_le] at hc) | skip))
              | refine AWP.block ?_
              | refine AWP.exit ?_
              | refine AWP.skip ?_
              | refine AWP.ret ?_
              | refine AWP.drawK2 (by decide +kernel) (by kernel_rfl) (by decide +kernel) rfl (fun K' hK => ?_)
              | refine AWP.drawL2 (by kernel_rfl) (by decide +kernel) rfl (fun K' hK => ?_)
              | (refine AQ.nil (hK _ ?_); clear hK K')
              | refine AQ.nil ?_
              | refine AQ.q rfl rfl (fun hg => by first | exact std0 | exact std1) (by exact rfl) ?_)
            all_goals (first | (exfalso; omega) | skip)
            refine ⟨j + 1, by omega, by omega, ⟨rfl, rfl, rfl, rfl, rfl, ?_, rfl, True.intro⟩, ?_⟩
            · rw [hsn]; rfl
            · rw [hsn]; rfl
        · obtain rfl : j = ns.length := by omega
          repeat' (first
            | refine AOps.q rfl rfl rfl (fun hg => by first | exact std0 | exact std1) (by exact rfl) ?_
            | refine AWP.seq ?_
            | refine AWP.regionK (fun K' hK => ?_)
            | (refine AOps.nil (hK _ _ ?_); clear hK K')
            | refine AOps.e (EStep.boxW rfl rfl rfl rfl rfl True.intro rfl rfl ?_)
            | refine AOps.e (EStep.storeW tabOk rfl rfl rfl True.intro rfl rfl True.intro rfl rfl rfl rfl rfl rfl rfl ?_)
            | refine AOps.e (EStep.allocW tabOk rfl rfl rfl rfl rfl rfl ?_)
            | (refine AWP.condW rfl True.intro (fun hc => ?_) (fun hc => ?_) <;> (first | (simp only [decide_eq_true_eq] at hc) | (simp only [decide_eq_false_iff_not, Int.not_lt, Int.not_le] at hc) | skip))
            | refine AWP.block ?_
            | refine AWP.exit ?_
            | refine AWP.skip ?_
            | refine AWP.ret ?_
            | refine AWP.drawK2 (by decide +kernel) (by kernel_rfl) (by decide +kernel) rfl (fun K' hK => ?_)
            | refine AWP.drawL2 (by kernel_rfl) (by decide +kernel) rfl (fun K' hK => ?_)
            | (refine AQ.nil (hK _ ?_); clear hK K')
            | refine AQ.nil ?_
            | refine AQ.q rfl rfl (fun hg => by first | exact std0 | exact std1) (by exact rfl) ?_)
          all_goals (first | (exfalso; omega) | skip)
          refine ⟨.inr rfl, Ent.of ?_⟩
          rw [List.take_length]; rfl
    · have es : shownR s l r = ([], 22) := by unfold shownR; rw [if_pos hgood, if_neg hf]
      rw [es]
      rw [partR_no g1 g3 hf] at hp
      refine PCall.body Tryz.func40 rfl rfl Tryz.ntmps40 rfl rfl ?_
      repeat' (first
        | refine AOps.q rfl rfl rfl (fun hg => by first | exact std0 | exact PRun.callW (hv) rfl rfl nd rfl nds | exact PRun.callW (hm) rfl rfl nd rfl nds | exact PRun.callW (hr) rfl rfl nd rfl nds | exact PRun.callW (hp) rfl rfl nd rfl nds | exact std1) (by exact rfl) ?_
        | refine AWP.seq ?_
        | refine AWP.regionK (fun K' hK => ?_)
        | (refine AOps.nil (hK _ _ ?_); clear hK K')
        | refine AOps.e (EStep.boxW rfl rfl rfl rfl rfl True.intro rfl rfl ?_)
        | refine AOps.e (EStep.storeW tabOk rfl rfl rfl True.intro rfl rfl True.intro rfl rfl rfl rfl rfl rfl rfl ?_)
        | refine AOps.e (EStep.allocW tabOk rfl rfl rfl rfl rfl rfl ?_)
        | (refine AWP.condW rfl True.intro (fun hc => ?_) (fun hc => ?_) <;> (first | (simp only [decide_eq_true_eq] at hc) | (simp only [decide_eq_false_iff_not, Int.not_lt, Int.not_le] at hc) | skip))
        | refine AWP.block ?_
        | refine AWP.exit ?_
        | refine AWP.skip ?_
        | refine AWP.ret ?_
        | (refine AQ.nil (hK _ ?_); clear hK K')
        | refine AQ.nil ?_
        | refine AQ.q rfl rfl (fun hg => by first | exact std0 | exact PRun.callW (hv) rfl rfl nd rfl nds | exact PRun.callW (hm) rfl rfl nd rfl nds | exact PRun.callW (hr) rfl rfl nd rfl nds | exact PRun.callW (hp) rfl rfl nd rfl nds | exact std1) (by exact rfl) ?_)
      · exfalso; simp at hc
      refine AWP.drawK2 (by decide +kernel) (by kernel_rfl) (by decide +kernel) rfl (fun K' hK => ?_)
      repeat' (first
        | refine AOps.q rfl rfl rfl (fun hg => by first | exact std0 | exact (Bool.noConfusion (show false = true from hg) : PRun _ _ _ _ (.b false)) | exact std1) (by exact rfl) ?_
        | refine AWP.seq ?_
        | refine AWP.regionK (fun K' hK => ?_)
        | (refine AOps.nil (hK _ _ ?_); clear hK K')
        | refine AOps.e (EStep.boxW rfl rfl rfl rfl rfl True.intro rfl rfl ?_)
        | refine AOps.e (EStep.storeW tabOk rfl rfl rfl True.intro rfl rfl True.intro rfl rfl rfl rfl rfl rfl rfl ?_)
        | refine AOps.e (EStep.allocW tabOk rfl rfl rfl rfl rfl rfl ?_)
        | (refine AWP.condW rfl True.intro (fun hc => ?_) (fun hc => ?_) <;> (first | (simp only [decide_eq_true_eq] at hc) | (simp only [decide_eq_false_iff_not, Int.not_lt, Int.not_le] at hc) | skip))
        | refine AWP.block ?_
        | refine AWP.exit ?_
        | refine AWP.skip ?_
        | refine AWP.ret ?_
        | (refine AQ.nil (hK _ ?_); clear hK K')
        | refine AQ.nil ?_
        | refine AQ.q rfl rfl (fun hg => by first | exact std0 | exact (Bool.noConfusion (show false = true from hg) : PRun _ _ _ _ (.b false)) | exact std1) (by exact rfl) ?_)
      · exact ⟨.inr rfl, Ent.tup2 Ent.nil (Ent.rfl' _)⟩
      all_goals (exfalso; simp at hc)
  · have es : shownR s l r = ([], 1) := by unfold shownR; rw [if_neg hgood]
    rw [es]
    have hbad : ((!scoreOk s || !marksOk l) || !isRdr r) = true := by
      revert hgood; cases scoreOk s <;> cases marksOk l <;> cases isRdr r <;> simp
    refine PCall.body Tryz.func40 rfl rfl Tryz.ntmps40 rfl rfl ?_
    repeat' (first
      | refine AOps.q rfl rfl rfl (fun hg => by first | exact std0 | exact PRun.callW (hv) rfl rfl nd rfl nds | exact PRun.callW (hm) rfl rfl nd rfl nds | exact PRun.callW (hr) rfl rfl nd rfl nds | exact std1) (by exact rfl) ?_
      | refine AWP.seq ?_
      | refine AWP.regionK (fun K' hK => ?_)
      | (refine AOps.nil (hK _ _ ?_); clear hK K')
      | refine AOps.e (EStep.boxW rfl rfl rfl rfl rfl True.intro rfl rfl ?_)
      | refine AOps.e (EStep.storeW tabOk rfl rfl rfl True.intro rfl rfl True.intro rfl rfl rfl rfl rfl rfl rfl ?_)
      | refine AOps.e (EStep.allocW tabOk rfl rfl rfl rfl rfl rfl ?_)
      | (refine AWP.condW rfl True.intro (fun hc => ?_) (fun hc => ?_) <;> (first | (simp only [decide_eq_true_eq] at hc) | (simp only [decide_eq_false_iff_not, Int.not_lt, Int.not_le] at hc) | skip))
      | refine AWP.block ?_
      | refine AWP.exit ?_
      | refine AWP.skip ?_
      | refine AWP.ret ?_
      | (refine AQ.nil (hK _ ?_); clear hK K')
      | refine AQ.nil ?_
      | refine AQ.q rfl rfl (fun hg => by first | exact std0 | exact PRun.callW (hv) rfl rfl nd rfl nds | exact PRun.callW (hm) rfl rfl nd rfl nds | exact PRun.callW (hr) rfl rfl nd rfl nds | exact std1) (by exact rfl) ?_)
    · exact ⟨.inr rfl, Ent.tup2 Ent.nil (Ent.rfl' _)⟩
    all_goals (exfalso; first | (rw [hbad] at hc; cases hc) | (rename_i h9; rw [hbad] at h9; cases h9))
end Go.Proofs.YthfcafcjkaemiaaGreatDoor.Mk
