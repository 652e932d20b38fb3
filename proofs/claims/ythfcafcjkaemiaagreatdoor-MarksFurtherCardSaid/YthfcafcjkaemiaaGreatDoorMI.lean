/- Contracts by content: the marks that a reader sees: the program. No statement is proved here. -/
import Derived.Test.YthfcafcjkaemiaaGreatDoorMK
set_option linter.unusedVariables false
set_option linter.unusedSimpArgs false
namespace Go.Proofs.YthfcafcjkaemiaaGreatDoor.Mk
open Go.Ab Go.Jo
attribute [local irreducible] AWP AOps EStep AQ PStep PRun PCall TCall VCall DStep TDies AWD DCall

set_option maxHeartbeats 8000000 in
set_option maxRecDepth 20000 in
theorem shown_spec (s : Score) (hs : s.Small) (hn : s.notes.length ≤ 1000000) (l : List Jo.Mark) (hl : l.length ≤ 1000000000) (ht : TextsIn l) (r : Rdr) :
    PCall Tryz.prog 39 [.agg (encS s), .sl 10 (l.map encMk) .no, .agg (encRd r)] (tupM (shownR s l r)) := by
  have hv := svalid_spec s hs
  have hm := areMarks_spec l (by omega) ht
  have hr := mrdr_spec r
  have hp := sPart_spec s hs r.part
  have hpl := plays_spec s hs r.part
  obtain ⟨h1, h2, h3⟩ := hs
  by_cases hgood : ((scoreOk s && marksOk l) && isRdr r) = true
  · have hgood2 := hgood
    simp only [Bool.and_eq_true] at hgood2
    obtain ⟨⟨g1, g2⟩, g3⟩ := hgood2
    rw [g1] at hv
    rw [g2] at hm
    rw [g3] at hr
    by_cases hf : partI s r.part ≥ 0
    · obtain ⟨k, e1, e2, e3, e4⟩ := findI_lt hf
      have e1' : partI s r.part = k := e1
      rw [partR_yes g1 g3 e1'] at hp
      have er : playsR s r.part = (playedL s.notes (s.parts.getD k default), 0) := by unfold playsR; rw [if_pos g1, if_pos (show findI (fun x : Part => x.id == r.part) s.parts ≥ 0 from hf), e1]; rfl
      rw [er] at hpl
      have hpn := played_len s.notes (s.parts.getD k default)
      by_cases hdk : (s.parts.getD k default).desks < r.desk
      · have es : shownR s l r = ([], 22) := by
          unfold shownR; rw [if_pos hgood, if_pos hf, e1', if_pos (by exact hdk)]
        rw [es]
        obtain ⟨p, hP⟩ : ∃ p, s.parts.getD k default = p := ⟨_, rfl⟩
        rw [hP] at hdk
        refine PCall.body Tryz.func39 rfl rfl Tryz.ntmps39 rfl rfl ?_
        repeat' (first
          | refine AOps.q rfl rfl rfl (fun hg => by first | exact PRun.eq (v := .iptr (encP (s.parts.getD ((k : Nat) : Int).toNat default))) (PRun.indexMW tabOk rfl rfl nd rfl nd rfl rfl (by omega)) (congrArg (fun x => AV.iptr (encP x)) hP) | exact std0 | exact PRun.callW (hv) rfl rfl nd rfl nds | exact PRun.callW (hm) rfl rfl nd rfl nds | exact PRun.callW (hr) rfl rfl nd rfl nds | exact PRun.callW (hp) rfl rfl nd rfl nds | exact std1) (by exact rfl) ?_
          | refine AWP.seq ?_
          | refine AWP.regionK (fun K' hK => ?_)
          | (refine AOps.nil (hK _ _ ?_); clear hK K')
          | refine AOps.e (EStep.boxW rfl rfl rfl rfl rfl True.intro rfl rfl ?_)
          | refine AOps.e (EStep.storeW tabOk rfl rfl rfl True.intro rfl rfl True.intro rfl rfl rfl rfl rfl rfl rfl ?_)
          | refine AOps.e (EStep.allocW tabOk rfl rfl rfl rfl rfl rfl ?_)
          | (refine AWP.condW rfl True.intro (fun hc => ?_) (fun hc => ?_) <;> (first | (simp only [decide_eq_true_eq] at hc) | (simp only [decide_eq_false_iff_not, Int.not_lt, Int.not_le] at hc) | skip))
          | refine AWP.block ?_
          | refine AWP.exit ?_
          | refine AWP.skip ?_
          | refine AWP.ret ?_
          | refine AWP.drawK2 (by decide +kernel) (by kernel_rfl) (by decide +kernel) rfl (fun K' hK => ?_)
          | refine AWP.drawL2 (by kernel_rfl) (by decide +kernel) rfl (fun K' hK => ?_)
          | (refine AQ.nil (hK _ ?_); clear hK K')
          | refine AQ.nil ?_
          | refine AQ.q rfl rfl (fun hg => by first | exact PRun.eq (v := .iptr (encP (s.parts.getD ((k : Nat) : Int).toNat default))) (PRun.indexMW tabOk rfl rfl nd rfl nd rfl rfl (by omega)) (congrArg (fun x => AV.iptr (encP x)) hP) | exact std0 | exact PRun.callW (hv) rfl rfl nd rfl nds | exact PRun.callW (hm) rfl rfl nd rfl nds | exact PRun.callW (hr) rfl rfl nd rfl nds | exact PRun.callW (hp) rfl rfl nd rfl nds | exact std1) (by exact rfl) ?_)
        · exfalso; simp at hc
        · exact ⟨.inr rfl, Ent.tup2 Ent.nil (Ent.rfl' _)⟩
        · exfalso; simp at hc; omega
      · have es : shownR s l r = (shownL (shownF s l (s.parts.getD k default) r) (playedL s.notes (s.parts.getD k default)), 0) := by
          unfold shownR; rw [if_pos hgood, if_pos hf, e1', if_neg (by exact hdk)]; rfl
        rw [es]
        clear es er
        obtain ⟨p, hP⟩ : ∃ p, s.parts.getD k default = p := ⟨_, rfl⟩
        rw [hP] at hpl hpn hdk ⊢
        obtain ⟨ns, hns⟩ : ∃ ns, playedL s.notes p = ns := ⟨_, rfl⟩
        rw [hns] at hpl hpn ⊢
        refine PCall.body Tryz.func39 rfl rfl Tryz.ntmps39 rfl rfl ?_
        repeat' (first
          | refine AOps.q rfl rfl rfl (fun hg => by first | exact PRun.eq (v := .iptr (encP (s.parts.getD ((k : Nat) : Int).toNat default))) (PRun.indexMW tabOk rfl rfl nd rfl nd rfl rfl (by omega)) (congrArg (fun x => AV.iptr (encP x)) hP) | exact std0 | exact PRun.callW (hv) rfl rfl nd rfl nds | exact PRun.callW (hm) rfl rfl nd rfl nds | exact PRun.callW (hr) rfl rfl nd rfl nds | exact PRun.callW (hp) rfl rfl nd rfl nds | exact PRun.callW (hpl) rfl rfl nd rfl nds | exact PRun.callW (layers_spec) rfl rfl nd rfl nds | exact std1) (by exact rfl) ?_
          | refine AWP.seq ?_
          | refine AWP.regionK (fun K' hK => ?_)
          | (refine AOps.nil (hK _ _ ?_); clear hK K')
          | refine AOps.e (EStep.boxW rfl rfl rfl rfl rfl True.intro rfl rfl ?_)
          | refine AOps.e (EStep.storeW tabOk rfl rfl rfl True.intro rfl rfl True.intro rfl rfl rfl rfl rfl rfl rfl ?_)
          | refine AOps.e (EStep.allocW tabOk rfl rfl rfl rfl rfl rfl ?_)
          | refine AOps.e (EStep.makeMapW rfl rfl rfl rfl ?_)
          | (refine AWP.condW rfl True.intro (fun hc => ?_) (fun hc => ?_) <;> (first | (simp only [decide_eq_true_eq] at hc) | (simp only [decide_eq_false_iff_not, Int.not_lt, Int.not_le] at hc) | skip))
          | refine AWP.block ?_
          | refine AWP.exit ?_
          | refine AWP.skip ?_
          | refine AWP.ret ?_
          | refine AWP.drawK2 (by decide +kernel) (by kernel_rfl) (by decide +kernel) rfl (fun K' hK => ?_)
          | refine AWP.drawL2 (by kernel_rfl) (by decide +kernel) rfl (fun K' hK => ?_)
          | (refine AQ.nil (hK _ ?_); clear hK K')
          | refine AQ.nil ?_
          | refine AQ.q rfl rfl (fun hg => by first | exact PRun.eq (v := .iptr (encP (s.parts.getD ((k : Nat) : Int).toNat default))) (PRun.indexMW tabOk rfl rfl nd rfl nd rfl rfl (by omega)) (congrArg (fun x => AV.iptr (encP x)) hP) | exact std0 | exact PRun.callW (hv) rfl rfl nd rfl nds | exact PRun.callW (hm) rfl rfl nd rfl nds | exact PRun.callW (hr) rfl rfl nd rfl nds | exact PRun.callW (hp) rfl rfl nd rfl nds | exact PRun.callW (hpl) rfl rfl nd rfl nds | exact PRun.callW (layers_spec) rfl rfl nd rfl nds | exact std1) (by exact rfl) ?_)
        · exfalso; simp at hc
        · exfalso; simp at hc; omega
        · exfalso; simp at hc
        clear hv hm hr hp hpl
        refine AWP.loopD (ι := Nat) (fun j => [(1, .sl 10 (l.map encMk) .no), (3, .ptr 0 0), (5, .ptr 1 0), (8, .int k), (11, .sl 12 (ns.map encN) .no), (12, .map 2), (13, .imap (Go.Ab.encM ekI layF [(1, 1), (2, 2), (3, 3), (4, 4)])), (75, .sl 10 (l.map encMk) .no), (76, .int l.length), (77, .int j)])
          (fun j => [.var (encS s), .var (encRd r), .map (Go.Ab.encM ekP evM (bestAL s.version p.section_ r (l.take j)))])
          (fun j => j ≤ l.length) (fun j => l.length - j) 3 (fun _ => rfl) 0 (Nat.zero_le _) ⟨rfl, rfl, rfl, rfl, rfl, rfl, rfl, rfl, rfl, rfl, True.intro⟩ rfl (fun _ _ => rfl) (fun j _ => by simp only [List.all_cons, List.all_nil, Bool.and_true, Bool.and_eq_true]; exact ⟨rfl, rfl, okObj_mapM _ _⟩) ?_
        intro j hj
        by_cases hjl : j < l.length
        · have hmk := marksOk_at g2 hjl
          have hst := bestAL_snoc s.version p.section_ r (l.take j) (l.getD j default)
          rw [← take_snoc hjl] at hst
          obtain ⟨m, hm⟩ : ∃ m, l.getD j default = m := ⟨_, rfl⟩
          rw [hm] at hst hmk
          obtain ⟨al, hal⟩ : ∃ al, bestAL s.version p.section_ r (l.take j) = al := ⟨_, rfl⟩
          rw [hal] at hst ⊢
          have hcn := counts_spec m ((lk al (m.note, m.kind)).getD noMark)
          clear hpn
          rcases markOk_layer hmk with hly | hly | hly | hly
          · have hlk : lk [((1 : Int), (1 : Nat)), (2, 2), (3, 3), (4, 4)] m.layer = some 1 := by rw [hly]; rfl
            have hfo : forM m p.section_ r = (m.who == r) := by unfold forM; rw [hly]; rfl
            have v3 := mea1_spec m.who p.section_ r
            rw [← hfo] at v3
            clear hfo hmk
            repeat' (first
              | refine AOps.q rfl rfl rfl (fun hg => by first | exact PRun.lookupV (ek := ekI) (ev := layF) (zv := 0) hlk (keyLaw_int (LOk.of (tabOk.get rfl))) (LOk.of (tabOk.get rfl)) (LOk.of (tabOk.get rfl)) rfl rfl (Rd.w rfl nd) (Or.inl rfl) (Rd.w rfl nd) rfl | exact PRun.eq (v := .iptr (encP (s.parts.getD ((k : Nat) : Int).toNat default))) (PRun.indexMW tabOk rfl rfl nd rfl nd rfl rfl (by omega)) (congrArg (fun x => AV.iptr (encP x)) hP) | exact PRun.eq (v := .iptr (encMk (l.getD ((j : Nat) : Int).toNat default))) (PRun.indexMW tabOk rfl rfl nd rfl nd rfl rfl (by omega)) (congrArg (fun x => AV.iptr (encMk x)) hm) | exact std0 | exact PRun.callW (v3) rfl rfl nd rfl nds | exact PRun.buildAW tabOk rfl rfl nds | exact PRun.lookup (ek := ekP) (ev := evM) (zv := noMark) (key := (m.note, m.kind)) pairK (LOk.of (tabOk.get rfl)) (LOk.of (tabOk.get rfl)) rfl rfl (Rd.w rfl nd) (Or.inr ⟨_, rfl, rfl⟩) (Rd.w rfl nd) rfl | exact PRun.callW (hcn) rfl rfl nd rfl nds | exact std1) (by exact rfl) ?_
              | refine AWP.seq ?_
              | refine AWP.regionK (fun K' hK => ?_)
              | (refine AOps.nil (hK _ _ ?_); clear hK K')
              | refine AOps.e (EStep.boxW rfl rfl rfl rfl rfl True.intro rfl rfl ?_)
              | refine AOps.e (EStep.storeW tabOk rfl rfl rfl True.intro rfl rfl True.intro rfl rfl rfl rfl rfl rfl rfl ?_)
              | refine AOps.e (EStep.allocW tabOk rfl rfl rfl rfl rfl rfl ?_)
              | refine AOps.e (EStep.mapUpd (ek := ekP) (ev := evM) (key := (m.note, m.kind)) (v := m) pairK (LOk.of (tabOk.get rfl)) rfl rfl rfl (Rd.w rfl True.intro) rfl (Rd.w rfl True.intro) rfl (Rd.w rfl True.intro) ?_)
              | (refine AWP.condW rfl True.intro (fun hc => ?_) (fun hc => ?_) <;> (first | (simp only [decide_eq_true_eq] at hc) | (simp only [decide_eq_false_iff_not, Int.not_lt, Int.not_le] at hc) | skip))
              | refine AWP.block ?_
              | refine AWP.exit ?_
              | refine AWP.skip ?_
              | refine AWP.ret ?_
              | refine AWP.drawK2 (by decide +kernel) (by kernel_rfl) (by decide +kernel) rfl (fun K' hK => ?_)
              | refine AWP.drawL2 (by kernel_rfl) (by decide +kernel) rfl (fun K' hK => ?_)
              | (refine AQ.nil (hK _ ?_); clear hK K')
              | refine AQ.nil ?_
              | refine AQ.q rfl rfl (fun hg => by first | exact PRun.lookupV (ek := ekI) (ev := layF) (zv := 0) hlk (keyLaw_int (LOk.of (tabOk.get rfl))) (LOk.of (tabOk.get rfl)) (LOk.of (tabOk.get rfl)) rfl rfl (Rd.w rfl nd) (Or.inl rfl) (Rd.w rfl nd) rfl | exact PRun.eq (v := .iptr (encP (s.parts.getD ((k : Nat) : Int).toNat default))) (PRun.indexMW tabOk rfl rfl nd rfl nd rfl rfl (by omega)) (congrArg (fun x => AV.iptr (encP x)) hP) | exact PRun.eq (v := .iptr (encMk (l.getD ((j : Nat) : Int).toNat default))) (PRun.indexMW tabOk rfl rfl nd rfl nd rfl rfl (by omega)) (congrArg (fun x => AV.iptr (encMk x)) hm) | exact std0 | exact PRun.callW (v3) rfl rfl nd rfl nds | exact PRun.buildAW tabOk rfl rfl nds | exact PRun.lookup (ek := ekP) (ev := evM) (zv := noMark) (key := (m.note, m.kind)) pairK (LOk.of (tabOk.get rfl)) (LOk.of (tabOk.get rfl)) rfl rfl (Rd.w rfl nd) (Or.inr ⟨_, rfl, rfl⟩) (Rd.w rfl nd) rfl | exact PRun.callW (hcn) rfl rfl nd rfl nds | exact std1) (by exact rfl) ?_)
            all_goals (first | (exfalso; omega) | skip)
            · refine ⟨j + 1, by omega, by omega, ⟨rfl, rfl, rfl, rfl, rfl, rfl, rfl, rfl, rfl, rfl, True.intro⟩, ?_⟩
              rw [hst]; unfold stepAL; rw [if_pos (by exact hc)]; rfl
            · rename_i h1
              refine ⟨j + 1, by omega, by omega, ⟨rfl, rfl, rfl, rfl, rfl, rfl, rfl, rfl, rfl, rfl, True.intro⟩, ?_⟩
              rw [hst]; unfold stepAL; rw [if_neg (by rw [show (m.version != s.version || !forM m p.section_ r) = false from h1]; decide), if_pos (by exact hc)]; rfl
            · rename_i h1
              refine ⟨j + 1, by omega, by omega, ⟨rfl, rfl, rfl, rfl, rfl, rfl, rfl, rfl, rfl, rfl, True.intro⟩, ?_⟩
              rw [hst]; unfold stepAL; rw [if_neg (by rw [show (m.version != s.version || !forM m p.section_ r) = false from h1]; decide), if_neg (by rw [show (!(lk al (m.note, m.kind)).isSome || cnt m ((lk al (m.note, m.kind)).getD noMark)) = false from hc]; decide)]; rfl
          · have hlk : lk [((1 : Int), (1 : Nat)), (2, 2), (3, 3), (4, 4)] m.layer = some 2 := by rw [hly]; rfl
            have hfo : forM m p.section_ r = (m.who.part == r.part && m.who.desk == r.desk) := by unfold forM; rw [hly]; rfl
            have v3 := mea3_spec m.who p.section_ r
            rw [← hfo] at v3
            clear hfo hmk
            repeat' (first
              | refine AOps.q rfl rfl rfl (fun hg => by first | exact PRun.lookupV (ek := ekI) (ev := layF) (zv := 0) hlk (keyLaw_int (LOk.of (tabOk.get rfl))) (LOk.of (tabOk.get rfl)) (LOk.of (tabOk.get rfl)) rfl rfl (Rd.w rfl nd) (Or.inl rfl) (Rd.w rfl nd) rfl | exact PRun.eq (v := .iptr (encP (s.parts.getD ((k : Nat) : Int).toNat default))) (PRun.indexMW tabOk rfl rfl nd rfl nd rfl rfl (by omega)) (congrArg (fun x => AV.iptr (encP x)) hP) | exact PRun.eq (v := .iptr (encMk (l.getD ((j : Nat) : Int).toNat default))) (PRun.indexMW tabOk rfl rfl nd rfl nd rfl rfl (by omega)) (congrArg (fun x => AV.iptr (encMk x)) hm) | exact std0 | exact PRun.callW (v3) rfl rfl nd rfl nds | exact PRun.buildAW tabOk rfl rfl nds | exact PRun.lookup (ek := ekP) (ev := evM) (zv := noMark) (key := (m.note, m.kind)) pairK (LOk.of (tabOk.get rfl)) (LOk.of (tabOk.get rfl)) rfl rfl (Rd.w rfl nd) (Or.inr ⟨_, rfl, rfl⟩) (Rd.w rfl nd) rfl | exact PRun.callW (hcn) rfl rfl nd rfl nds | exact std1) (by exact rfl) ?_
              | refine AWP.seq ?_
              | refine AWP.regionK (fun K' hK => ?_)
              | (refine AOps.nil (hK _ _ ?_); clear hK K')
              | refine AOps.e (EStep.boxW rfl rfl rfl rfl rfl True.intro rfl rfl ?_)
              | refine AOps.e (EStep.storeW tabOk rfl rfl rfl True.intro rfl rfl True.intro rfl rfl rfl rfl rfl rfl rfl ?_)
              | refine AOps.e (EStep.allocW tabOk rfl rfl rfl rfl rfl rfl ?_)
              | refine AOps.e (EStep.mapUpd (ek := ekP) (ev := evM) (key := (m.note, m.kind)) (v := m) pairK (LOk.of (tabOk.get rfl)) rfl rfl rfl (Rd.w rfl True.intro) rfl (Rd.w rfl True.intro) rfl (Rd.w rfl True.intro) ?_)
              | (refine AWP.condW rfl True.intro (fun hc => ?_) (fun hc => ?_) <;> (first | (simp only [decide_eq_true_eq] at hc) | (simp only [decide_eq_false_iff_not, Int.not_lt, Int.not_le] at hc) | skip))
              | refine AWP.block ?_
              | refine AWP.exit ?_
              | refine AWP.skip ?_
              | refine AWP.ret ?_
              | refine AWP.drawK2 (by decide +kernel) (by kernel_rfl) (by decide +kernel) rfl (fun K' hK => ?_)
              | refine AWP.drawL2 (by kernel_rfl) (by decide +kernel) rfl (fun K' hK => ?_)
              | (refine AQ.nil (hK _ ?_); clear hK K')
              | refine AQ.nil ?_
              | refine AQ.q rfl rfl (fun hg => by first | exact PRun.lookupV (ek := ekI) (ev := layF) (zv := 0) hlk (keyLaw_int (LOk.of (tabOk.get rfl))) (LOk.of (tabOk.get rfl)) (LOk.of (tabOk.get rfl)) rfl rfl (Rd.w rfl nd) (Or.inl rfl) (Rd.w rfl nd) rfl | exact PRun.eq (v := .iptr (encP (s.parts.getD ((k : Nat) : Int).toNat default))) (PRun.indexMW tabOk rfl rfl nd rfl nd rfl rfl (by omega)) (congrArg (fun x => AV.iptr (encP x)) hP) | exact PRun.eq (v := .iptr (encMk (l.getD ((j : Nat) : Int).toNat default))) (PRun.indexMW tabOk rfl rfl nd rfl nd rfl rfl (by omega)) (congrArg (fun x => AV.iptr (encMk x)) hm) | exact std0 | exact PRun.callW (v3) rfl rfl nd rfl nds | exact PRun.buildAW tabOk rfl rfl nds | exact PRun.lookup (ek := ekP) (ev := evM) (zv := noMark) (key := (m.note, m.kind)) pairK (LOk.of (tabOk.get rfl)) (LOk.of (tabOk.get rfl)) rfl rfl (Rd.w rfl nd) (Or.inr ⟨_, rfl, rfl⟩) (Rd.w rfl nd) rfl | exact PRun.callW (hcn) rfl rfl nd rfl nds | exact std1) (by exact rfl) ?_)
            all_goals (first | (exfalso; omega) | skip)
            · refine ⟨j + 1, by omega, by omega, ⟨rfl, rfl, rfl, rfl, rfl, rfl, rfl, rfl, rfl, rfl, True.intro⟩, ?_⟩
              rw [hst]; unfold stepAL; rw [if_pos (by exact hc)]; rfl
            · rename_i h1
              refine ⟨j + 1, by omega, by omega, ⟨rfl, rfl, rfl, rfl, rfl, rfl, rfl, rfl, rfl, rfl, True.intro⟩, ?_⟩
              rw [hst]; unfold stepAL; rw [if_neg (by rw [show (m.version != s.version || !forM m p.section_ r) = false from h1]; decide), if_pos (by exact hc)]; rfl
            · rename_i h1
              refine ⟨j + 1, by omega, by omega, ⟨rfl, rfl, rfl, rfl, rfl, rfl, rfl, rfl, rfl, rfl, True.intro⟩, ?_⟩
              rw [hst]; unfold stepAL; rw [if_neg (by rw [show (m.version != s.version || !forM m p.section_ r) = false from h1]; decide), if_neg (by rw [show (!(lk al (m.note, m.kind)).isSome || cnt m ((lk al (m.note, m.kind)).getD noMark)) = false from hc]; decide)]; rfl
          · have hlk : lk [((1 : Int), (1 : Nat)), (2, 2), (3, 3), (4, 4)] m.layer = some 3 := by rw [hly]; rfl
            have hfo : forM m p.section_ r = (m.who.part == p.section_) := by unfold forM; rw [hly]; rfl
            have v3 := mea5_spec m.who p.section_ r
            rw [← hfo] at v3
            clear hfo hmk
            repeat' (first
              | refine AOps.q rfl rfl rfl (fun hg => by first | exact PRun.lookupV (ek := ekI) (ev := layF) (zv := 0) hlk (keyLaw_int (LOk.of (tabOk.get rfl))) (LOk.of (tabOk.get rfl)) (LOk.of (tabOk.get rfl)) rfl rfl (Rd.w rfl nd) (Or.inl rfl) (Rd.w rfl nd) rfl | exact PRun.eq (v := .iptr (encP (s.parts.getD ((k : Nat) : Int).toNat default))) (PRun.indexMW tabOk rfl rfl nd rfl nd rfl rfl (by omega)) (congrArg (fun x => AV.iptr (encP x)) hP) | exact PRun.eq (v := .iptr (encMk (l.getD ((j : Nat) : Int).toNat default))) (PRun.indexMW tabOk rfl rfl nd rfl nd rfl rfl (by omega)) (congrArg (fun x => AV.iptr (encMk x)) hm) | exact std0 | exact PRun.callW (v3) rfl rfl nd rfl nds | exact PRun.buildAW tabOk rfl rfl nds | exact PRun.lookup (ek := ekP) (ev := evM) (zv := noMark) (key := (m.note, m.kind)) pairK (LOk.of (tabOk.get rfl)) (LOk.of (tabOk.get rfl)) rfl rfl (Rd.w rfl nd) (Or.inr ⟨_, rfl, rfl⟩) (Rd.w rfl nd) rfl | exact PRun.callW (hcn) rfl rfl nd rfl nds | exact std1) (by exact rfl) ?_
              | refine AWP.seq ?_
              | refine AWP.regionK (fun K' hK => ?_)
              | (refine AOps.nil (hK _ _ ?_); clear hK K')
              | refine AOps.e (EStep.boxW rfl rfl rfl rfl rfl True.intro rfl rfl ?_)
              | refine AOps.e (EStep.storeW tabOk rfl rfl rfl True.intro rfl rfl True.intro rfl rfl rfl rfl rfl rfl rfl ?_)
              | refine AOps.e (EStep.allocW tabOk rfl rfl rfl rfl rfl rfl ?_)
              | refine AOps.e (EStep.mapUpd (ek := ekP) (ev := evM) (key := (m.note, m.kind)) (v := m) pairK (LOk.of (tabOk.get rfl)) rfl rfl rfl (Rd.w rfl True.intro) rfl (Rd.w rfl True.intro) rfl (Rd.w rfl True.intro) ?_)
              | (refine AWP.condW rfl True.intro (fun hc => ?_) (fun hc => ?_) <;> (first | (simp only [decide_eq_true_eq] at hc) | (simp only [decide_eq_false_iff_not, Int.not_lt, Int.not_le] at hc) | skip))
              | refine AWP.block ?_
              | refine AWP.exit ?_
              | refine AWP.skip ?_
              | refine AWP.ret ?_
              | refine AWP.drawK2 (by decide +kernel) (by kernel_rfl) (by decide +kernel) rfl (fun K' hK => ?_)
              | refine AWP.drawL2 (by kernel_rfl) (by decide +kernel) rfl (fun K' hK => ?_)
              | (refine AQ.nil (hK _ ?_); clear hK K')
              | refine AQ.nil ?_
              | refine AQ.q rfl rfl (fun hg => by first | exact PRun.lookupV (ek := ekI) (ev := layF) (zv := 0) hlk (keyLaw_int (LOk.of (tabOk.get rfl))) (LOk.of (tabOk.get rfl)) (LOk.of (tabOk.get rfl)) rfl rfl (Rd.w rfl nd) (Or.inl rfl) (Rd.w rfl nd) rfl | exact PRun.eq (v := .iptr (encP (s.parts.getD ((k : Nat) : Int).toNat default))) (PRun.indexMW tabOk rfl rfl nd rfl nd rfl rfl (by omega)) (congrArg (fun x => AV.iptr (encP x)) hP) | exact PRun.eq (v := .iptr (encMk (l.getD ((j : Nat) : Int).toNat default))) (PRun.indexMW tabOk rfl rfl nd rfl nd rfl rfl (by omega)) (congrArg (fun x => AV.iptr (encMk x)) hm) | exact std0 | exact PRun.callW (v3) rfl rfl nd rfl nds | exact PRun.buildAW tabOk rfl rfl nds | exact PRun.lookup (ek := ekP) (ev := evM) (zv := noMark) (key := (m.note, m.kind)) pairK (LOk.of (tabOk.get rfl)) (LOk.of (tabOk.get rfl)) rfl rfl (Rd.w rfl nd) (Or.inr ⟨_, rfl, rfl⟩) (Rd.w rfl nd) rfl | exact PRun.callW (hcn) rfl rfl nd rfl nds | exact std1) (by exact rfl) ?_)
            all_goals (first | (exfalso; omega) | skip)
            · refine ⟨j + 1, by omega, by omega, ⟨rfl, rfl, rfl, rfl, rfl, rfl, rfl, rfl, rfl, rfl, True.intro⟩, ?_⟩
              rw [hst]; unfold stepAL; rw [if_pos (by exact hc)]; rfl
            · rename_i h1
              refine ⟨j + 1, by omega, by omega, ⟨rfl, rfl, rfl, rfl, rfl, rfl, rfl, rfl, rfl, rfl, True.intro⟩, ?_⟩
              rw [hst]; unfold stepAL; rw [if_neg (by rw [show (m.version != s.version || !forM m p.section_ r) = false from h1]; decide), if_pos (by exact hc)]; rfl
            · rename_i h1
              refine ⟨j + 1, by omega, by omega, ⟨rfl, rfl, rfl, rfl, rfl, rfl, rfl, rfl, rfl, rfl, True.intro⟩, ?_⟩
              rw [hst]; unfold stepAL; rw [if_neg (by rw [show (m.version != s.version || !forM m p.section_ r) = false from h1]; decide), if_neg (by rw [show (!(lk al (m.note, m.kind)).isSome || cnt m ((lk al (m.note, m.kind)).getD noMark)) = false from hc]; decide)]; rfl
          · have hlk : lk [((1 : Int), (1 : Nat)), (2, 2), (3, 3), (4, 4)] m.layer = some 4 := by rw [hly]; rfl
            have hfo : forM m p.section_ r = (true) := by unfold forM; rw [hly]; rfl
            have v3 := mea7_spec m.who p.section_ r
            rw [← hfo] at v3
            clear hfo hmk
            repeat' (first
              | refine AOps.q rfl rfl rfl (fun hg => by first | exact PRun.lookupV (ek := ekI) (ev := layF) (zv := 0) hlk (keyLaw_int (LOk.of (tabOk.get rfl))) (LOk.of (tabOk.get rfl)) (LOk.of (tabOk.get rfl)) rfl rfl (Rd.w rfl nd) (Or.inl rfl) (Rd.w rfl nd) rfl | exact PRun.eq (v := .iptr (encP (s.parts.getD ((k : Nat) : Int).toNat default))) (PRun.indexMW tabOk rfl rfl nd rfl nd rfl rfl (by omega)) (congrArg (fun x => AV.iptr (encP x)) hP) | exact PRun.eq (v := .iptr (encMk (l.getD ((j : Nat) : Int).toNat default))) (PRun.indexMW tabOk rfl rfl nd rfl nd rfl rfl (by omega)) (congrArg (fun x => AV.iptr (encMk x)) hm) | exact std0 | exact PRun.callW (v3) rfl rfl nd rfl nds | exact PRun.buildAW tabOk rfl rfl nds | exact PRun.lookup (ek := ekP) (ev := evM) (zv := noMark) (key := (m.note, m.kind)) pairK (LOk.of (tabOk.get rfl)) (LOk.of (tabOk.get rfl)) rfl rfl (Rd.w rfl nd) (Or.inr ⟨_, rfl, rfl⟩) (Rd.w rfl nd) rfl | exact PRun.callW (hcn) rfl rfl nd rfl nds | exact std1) (by exact rfl) ?_
              | refine AWP.seq ?_
              | refine AWP.regionK (fun K' hK => ?_)
              | (refine AOps.nil (hK _ _ ?_); clear hK K')
              | refine AOps.e (EStep.boxW rfl rfl rfl rfl rfl True.intro rfl rfl ?_)
              | refine AOps.e (EStep.storeW tabOk rfl rfl rfl True.intro rfl rfl True.intro rfl rfl rfl rfl rfl rfl rfl ?_)
              | refine AOps.e (EStep.allocW tabOk rfl rfl rfl rfl rfl rfl ?_)
              | refine AOps.e (EStep.mapUpd (ek := ekP) (ev := evM) (key := (m.note, m.kind)) (v := m) pairK (LOk.of (tabOk.get rfl)) rfl rfl rfl (Rd.w rfl True.intro) rfl (Rd.w rfl True.intro) rfl (Rd.w rfl True.intro) ?_)
              | (refine AWP.condW rfl True.intro (fun hc => ?_) (fun hc => ?_) <;> (first | (simp only [decide_eq_true_eq] at hc) | (simp only [decide_eq_false_iff_not, Int.not_lt, Int.not_le] at hc) | skip))
              | refine AWP.block ?_
              | refine AWP.exit ?_
              | refine AWP.skip ?_
              | refine AWP.ret ?_
              | refine AWP.drawK2 (by decide +kernel) (by kernel_rfl) (by decide +kernel) rfl (fun K' hK => ?_)
              | refine AWP.drawL2 (by kernel_rfl) (by decide +kernel) rfl (fun K' hK => ?_)
              | (refine AQ.nil (hK _ ?_); clear hK K')
              | refine AQ.nil ?_
              | refine AQ.q rfl rfl (fun hg => by first | exact PRun.lookupV (ek := ekI) (ev := layF) (zv := 0) hlk (keyLaw_int (LOk.of (tabOk.get rfl))) (LOk.of (tabOk.get rfl)) (LOk.of (tabOk.get rfl)) rfl rfl (Rd.w rfl nd) (Or.inl rfl) (Rd.w rfl nd) rfl | exact PRun.eq (v := .iptr (encP (s.parts.getD ((k : Nat) : Int).toNat default))) (PRun.indexMW tabOk rfl rfl nd rfl nd rfl rfl (by omega)) (congrArg (fun x => AV.iptr (encP x)) hP) | exact PRun.eq (v := .iptr (encMk (l.getD ((j : Nat) : Int).toNat default))) (PRun.indexMW tabOk rfl rfl nd rfl nd rfl rfl (by omega)) (congrArg (fun x => AV.iptr (encMk x)) hm) | exact std0 | exact PRun.callW (v3) rfl rfl nd rfl nds | exact PRun.buildAW tabOk rfl rfl nds | exact PRun.lookup (ek := ekP) (ev := evM) (zv := noMark) (key := (m.note, m.kind)) pairK (LOk.of (tabOk.get rfl)) (LOk.of (tabOk.get rfl)) rfl rfl (Rd.w rfl nd) (Or.inr ⟨_, rfl, rfl⟩) (Rd.w rfl nd) rfl | exact PRun.callW (hcn) rfl rfl nd rfl nds | exact std1) (by exact rfl) ?_)
            all_goals (first | (exfalso; omega) | skip)
            · refine ⟨j + 1, by omega, by omega, ⟨rfl, rfl, rfl, rfl, rfl, rfl, rfl, rfl, rfl, rfl, True.intro⟩, ?_⟩
              rw [hst]; unfold stepAL; rw [if_pos (by exact hc)]; rfl
            · rename_i h1
              refine ⟨j + 1, by omega, by omega, ⟨rfl, rfl, rfl, rfl, rfl, rfl, rfl, rfl, rfl, rfl, True.intro⟩, ?_⟩
              rw [hst]; unfold stepAL; rw [if_neg (by rw [show (m.version != s.version || !forM m p.section_ r) = false from h1]; decide), if_pos (by exact hc)]; rfl
            · rename_i h1
              refine ⟨j + 1, by omega, by omega, ⟨rfl, rfl, rfl, rfl, rfl, rfl, rfl, rfl, rfl, rfl, True.intro⟩, ?_⟩
              rw [hst]; unfold stepAL; rw [if_neg (by rw [show (m.version != s.version || !forM m p.section_ r) = false from h1]; decide), if_neg (by rw [show (!(lk al (m.note, m.kind)).isSome || cnt m ((lk al (m.note, m.kind)).getD noMark)) = false from hc]; decide)]; rfl
        · obtain rfl : j = l.length := by omega
          rw [List.take_length]
          have hbest : ∀ n kd, lk (bestAL s.version p.section_ r l) (n, kd) = shownF s l p r n kd := fun n kd => lk_best _ _ _ _ _ _
          generalize bestAL s.version p.section_ r l = al at *
          generalize shownF s l p r = f at *
          repeat' (first
            | refine AOps.q rfl rfl rfl (fun hg => by first | exact std0 | exact std1) (by exact rfl) ?_
            | refine AWP.seq ?_
            | refine AWP.regionK (fun K' hK => ?_)
            | (refine AOps.nil (hK _ _ ?_); clear hK K')
            | refine AOps.e (EStep.boxW rfl rfl rfl rfl rfl True.intro rfl rfl ?_)
            | refine AOps.e (EStep.storeW tabOk rfl rfl rfl True.intro rfl rfl True.intro rfl rfl rfl rfl rfl rfl rfl ?_)
            | refine AOps.e (EStep.allocW tabOk rfl rfl rfl rfl rfl rfl ?_)
            | (refine AWP.condW rfl True.intro (fun hc => ?_) (fun hc => ?_) <;> (first | (simp only [decide_eq_true_eq] at hc) | (simp only [decide_eq_false_iff_not, Int.not_lt, Int.not_le] at hc) | skip))
            | refine AWP.block ?_
            | refine AWP.exit ?_
            | refine AWP.skip ?_
            | refine AWP.ret ?_
            | refine AWP.drawK2 (by decide +kernel) (by kernel_rfl) (by decide +kernel) rfl (fun K' hK => ?_)
            | refine AWP.drawL2 (by kernel_rfl) (by decide +kernel) rfl (fun K' hK => ?_)
            | (refine AQ.nil (hK _ ?_); clear hK K')
            | refine AQ.nil ?_
            | refine AQ.q rfl rfl (fun hg => by first | exact std0 | exact std1) (by exact rfl) ?_)
          all_goals (first | (exfalso; omega) | skip)
          refine AWP.ownNil (d := 19) (sz := 10) rfl ?_
          repeat' (first
            | refine AOps.q rfl rfl rfl (fun hg => by first | exact std0 | exact std1) (by exact rfl) ?_
            | refine AWP.seq ?_
            | refine AWP.regionK (fun K' hK => ?_)
            | (refine AOps.nil (hK _ _ ?_); clear hK K')
            | refine AOps.e (EStep.boxW rfl rfl rfl rfl rfl True.intro rfl rfl ?_)
            | refine AOps.e (EStep.storeW tabOk rfl rfl rfl True.intro rfl rfl True.intro rfl rfl rfl rfl rfl rfl rfl ?_)
            | refine AOps.e (EStep.allocW tabOk rfl rfl rfl rfl rfl rfl ?_)
            | (refine AWP.condW rfl True.intro (fun hc => ?_) (fun hc => ?_) <;> (first | (simp only [decide_eq_true_eq] at hc) | (simp only [decide_eq_false_iff_not, Int.not_lt, Int.not_le] at hc) | skip))
            | refine AWP.block ?_
            | refine AWP.exit ?_
            | refine AWP.skip ?_
            | refine AWP.ret ?_
            | refine AWP.drawK2 (by decide +kernel) (by kernel_rfl) (by decide +kernel) rfl (fun K' hK => ?_)
            | refine AWP.drawL2 (by kernel_rfl) (by decide +kernel) rfl (fun K' hK => ?_)
            | (refine AQ.nil (hK _ ?_); clear hK K')
            | refine AQ.nil ?_
            | refine AQ.q rfl rfl (fun hg => by first | exact std0 | exact std1) (by exact rfl) ?_)
          refine AWP.loopD (ι := Nat) (fun j => [(11, .sl 12 (ns.map encN) .no), (12, .map 2), (19, .sl 10 ((shownL f (ns.take j)).map encMk) (.own 3)), (126, .sl 12 (ns.map encN) .no), (127, .int ns.length), (128, .int j)])
            (fun j => [.var (encS s), .var (encRd r), .map (Go.Ab.encM ekP evM al), .own 10 ((shownL f (ns.take j)).map encMk).length])
            (fun j => j ≤ ns.length) (fun j => ns.length - j) 4 (fun _ => rfl) 0 (Nat.zero_le _) ⟨rfl, rfl, rfl, rfl, rfl, rfl, True.intro⟩ rfl (fun _ _ => rfl) (fun j _ => by simp only [List.all_cons, List.all_nil, Bool.and_true, Bool.and_eq_true]; exact ⟨rfl, rfl, okObj_mapM _ _, rfl⟩) ?_
          intro j hj
          have hol := shownL_len f (ns.take j)
          rw [List.length_take] at hol
          by_cases hjl : j < ns.length
          · have hsn := shownL_snoc f hjl
            obtain ⟨n, hn1⟩ : ∃ n, ns.getD j default = n := ⟨_, rfl⟩
            rw [hn1] at hsn
            repeat' (first
              | refine AOps.q rfl rfl rfl (fun hg => by first | exact PRun.eq (v := .iptr (encN (ns.getD ((j : Nat) : Int).toNat default))) (PRun.indexMW tabOk rfl rfl nd rfl nd rfl rfl (by omega)) (congrArg (fun x => AV.iptr (encN x)) hn1) | exact std0 | exact std1) (by exact rfl) ?_
              | refine AWP.seq ?_
              | refine AWP.regionK (fun K' hK => ?_)
              | (refine AOps.nil (hK _ _ ?_); clear hK K')
              | refine AOps.e (EStep.boxW rfl rfl rfl rfl rfl True.intro rfl rfl ?_)
              | refine AOps.e (EStep.storeW tabOk rfl rfl rfl True.intro rfl rfl True.intro rfl rfl rfl rfl rfl rfl rfl ?_)
              | refine AOps.e (EStep.allocW tabOk rfl rfl rfl rfl rfl rfl ?_)
              | (refine AWP.condW rfl True.intro (fun hc => ?_) (fun hc => ?_) <;> (first | (simp only [decide_eq_true_eq] at hc) | (simp only [decide_eq_false_iff_not, Int.not_lt, Int.not_le] at hc) | skip))
              | refine AWP.block ?_
              | refine AWP.exit ?_
              | refine AWP.skip ?_
              | refine AWP.ret ?_
              | refine AWP.drawK2 (by decide +kernel) (by kernel_rfl) (by decide +kernel) rfl (fun K' hK => ?_)
              | refine AWP.drawL2 (by kernel_rfl) (by decide +kernel) rfl (fun K' hK => ?_)
              | (refine AQ.nil (hK _ ?_); clear hK K')
              | refine AQ.nil ?_
              | refine AQ.q rfl rfl (fun hg => by first | exact PRun.eq (v := .iptr (encN (ns.getD ((j : Nat) : Int).toNat default))) (PRun.indexMW tabOk rfl rfl nd rfl nd rfl rfl (by omega)) (congrArg (fun x => AV.iptr (encN x)) hn1) | exact std0 | exact std1) (by exact rfl) ?_)
            all_goals (first | (exfalso; omega) | skip)
            generalize shownL f (ns.take j) = out at *
            refine AWP.loopD (ι := Nat) (fun kd => [(11, .sl 12 (ns.map encN) .no), (12, .map 2), (19, .sl 10 ((out ++ (kinds.take kd).filterMap (f n.id)).map encMk) (.own 3)), (21, .ptr 4 0), (22, .int ((kd : Int) + 1)), (126, .sl 12 (ns.map encN) .no), (127, .int ns.length), (128, .int j)])
              (fun kd => [.var (encS s), .var (encRd r), .map (Go.Ab.encM ekP evM al), .own 10 ((out ++ (kinds.take kd).filterMap (f n.id)).map encMk).length, .var (encN n)])
              (fun kd => kd ≤ 5) (fun kd => 5 - kd) 5 (fun _ => rfl) 0 (Nat.zero_le _) ⟨rfl, rfl, (by show AV.sl 10 (List.map encMk out) (.own 3) = AV.sl 10 (List.map encMk (out ++ [])) (.own 3); rw [List.append_nil]), rfl, rfl, rfl, rfl, rfl, True.intro⟩ (by show [_, _, _, AObj.own 10 (List.map encMk out).length, _] = [_, _, _, AObj.own 10 (List.map encMk (out ++ [])).length, _]; rw [List.append_nil]; rfl) (fun _ _ => rfl) (fun kd _ => by simp only [List.all_cons, List.all_nil, Bool.and_true, Bool.and_eq_true]; exact ⟨rfl, rfl, okObj_mapM _ _, rfl, rfl⟩) ?_
            intro kd hkd
            have hol2 : (out ++ (kinds.take kd).filterMap (f n.id)).length ≤ 5 * min j ns.length + 5 := by
              rw [List.length_append]
              have h9 := filterMap_len (f n.id) (kinds.take kd)
              rw [List.length_take] at h9
              have : kinds.length = 5 := rfl
              omega
            by_cases hk5 : kd < 5
            · have hka := kinds_at hk5 (f n.id)
              have hlk := hbest n.id ((kd : Int) + 1)
              obtain ⟨O, hO⟩ : ∃ O, out ++ (kinds.take kd).filterMap (f n.id) = O := ⟨_, rfl⟩
              have hO2 : out ++ (kinds.take (kd + 1)).filterMap (f n.id) = O ++ (match f n.id ((kd : Int) + 1) with | none => [] | some m => [m]) := by
                rw [hka, ← hO, List.append_assoc]; try rfl
              rw [hO] at hol2 ⊢
              cases hfm : f n.id ((kd : Int) + 1) with
              | none =>
                rw [hfm] at hlk hO2
                repeat' (first
                  | refine AOps.q rfl rfl rfl (fun hg => by first | exact std0 | exact PRun.buildAW tabOk rfl rfl nds | exact PRun.lookupV (ek := ekP) (ev := evM) (zv := noMark) (key := (n.id, (kd : Int) + 1)) hlk pairK (LOk.of (tabOk.get rfl)) (LOk.of (tabOk.get rfl)) rfl rfl (Rd.w rfl nd) (Or.inr ⟨_, rfl, rfl⟩) (Rd.w rfl nd) rfl | exact std1) (by exact rfl) ?_
                  | refine AWP.seq ?_
                  | refine AWP.regionK (fun K' hK => ?_)
                  | (refine AOps.nil (hK _ _ ?_); clear hK K')
                  | refine AOps.e (EStep.boxW rfl rfl rfl rfl rfl True.intro rfl rfl ?_)
                  | refine AOps.e (EStep.storeW tabOk rfl rfl rfl True.intro rfl rfl True.intro rfl rfl rfl rfl rfl rfl rfl ?_)
                  | refine AOps.e (EStep.allocW tabOk rfl rfl rfl rfl rfl rfl ?_)
                  | (refine AWP.condW rfl True.intro (fun hc => ?_) (fun hc => ?_) <;> (first | (simp only [decide_eq_true_eq] at hc) | (simp only [decide_eq_false_iff_not, Int.not_lt, Int.not_le] at hc) | skip))
                  | refine AWP.block ?_
                  | refine AWP.exit ?_
                  | refine AWP.skip ?_
                  | refine AWP.ret ?_
                  | refine AWP.drawK2 (by decide +kernel) (by kernel_rfl) (by decide +kernel) rfl (fun K' hK => ?_)
                  | refine AWP.drawL2 (by kernel_rfl) (by decide +kernel) rfl (fun K' hK => ?_)
                  | (refine AQ.nil (hK _ ?_); clear hK K')
                  | refine AQ.nil ?_
                  | refine AQ.q rfl rfl (fun hg => by first | exact std0 | exact PRun.buildAW tabOk rfl rfl nds | exact PRun.lookupV (ek := ekP) (ev := evM) (zv := noMark) (key := (n.id, (kd : Int) + 1)) hlk pairK (LOk.of (tabOk.get rfl)) (LOk.of (tabOk.get rfl)) rfl rfl (Rd.w rfl nd) (Or.inr ⟨_, rfl, rfl⟩) (Rd.w rfl nd) rfl | exact std1) (by exact rfl) ?_)
                all_goals (first | (exfalso; omega) | (exfalso; simp at hc; done) | skip)
                refine ⟨kd + 1, by omega, by omega, ⟨rfl, rfl, ?_, rfl, ?_, rfl, rfl, rfl, True.intro⟩, ?_⟩
                · rw [hO2, List.append_nil]; rfl
                · show AV.int _ = AV.int _; congr 1
                · rw [hO2, List.append_nil]; rfl
              | some m =>
                rw [hfm] at hlk hO2
                repeat' (first
                  | refine AOps.q rfl rfl rfl (fun hg => by first | exact std0 | exact PRun.buildAW tabOk rfl rfl nds | exact PRun.buildSlW tabOk rfl rfl nds | exact PRun.lookupV (ek := ekP) (ev := evM) (zv := noMark) (key := (n.id, (kd : Int) + 1)) hlk pairK (LOk.of (tabOk.get rfl)) (LOk.of (tabOk.get rfl)) rfl rfl (Rd.w rfl nd) (Or.inr ⟨_, rfl, rfl⟩) (Rd.w rfl nd) rfl | exact std1) (by exact rfl) ?_
                  | refine AWP.seq ?_
                  | refine AWP.regionK (fun K' hK => ?_)
                  | (refine AOps.nil (hK _ _ ?_); clear hK K')
                  | refine AOps.e (EStep.boxW rfl rfl rfl rfl rfl True.intro rfl rfl ?_)
                  | refine AOps.e (EStep.storeW tabOk rfl rfl rfl True.intro rfl rfl True.intro rfl rfl rfl rfl rfl rfl rfl ?_)
                  | refine AOps.e (EStep.allocW tabOk rfl rfl rfl rfl rfl rfl ?_)
                  | refine AOps.e (EStep.appendOwn' tabOk rfl rfl rfl (by decide) (Rd.w rfl True.intro) rfl (Rd.w rfl True.intro) (.sl rfl (by first | (intro x hx; rcases List.mem_singleton.1 hx with rfl; rfl) | exact one_encMk [m])) (LOk.of (tabOk.get rfl)) (LOk.of (tabOk.get rfl)) rfl rfl (by simp only [List.length_map, List.length_append, List.length_cons, List.length_nil, List.length_take, List.length_drop]; omega) (by simp only [List.length_map, List.length_append, List.length_cons, List.length_nil, List.length_take, List.length_drop]; omega) ?_)
                  | (refine AWP.condW rfl True.intro (fun hc => ?_) (fun hc => ?_) <;> (first | (simp only [decide_eq_true_eq] at hc) | (simp only [decide_eq_false_iff_not, Int.not_lt, Int.not_le] at hc) | skip))
                  | refine AWP.block ?_
                  | refine AWP.exit ?_
                  | refine AWP.skip ?_
                  | refine AWP.ret ?_
                  | refine AWP.drawK2 (by decide +kernel) (by kernel_rfl) (by decide +kernel) rfl (fun K' hK => ?_)
                  | refine AWP.drawL2 (by kernel_rfl) (by decide +kernel) rfl (fun K' hK => ?_)
                  | (refine AQ.nil (hK _ ?_); clear hK K')
                  | refine AQ.nil ?_
                  | refine AQ.q rfl rfl (fun hg => by first | exact std0 | exact PRun.buildAW tabOk rfl rfl nds | exact PRun.buildSlW tabOk rfl rfl nds | exact PRun.lookupV (ek := ekP) (ev := evM) (zv := noMark) (key := (n.id, (kd : Int) + 1)) hlk pairK (LOk.of (tabOk.get rfl)) (LOk.of (tabOk.get rfl)) rfl rfl (Rd.w rfl nd) (Or.inr ⟨_, rfl, rfl⟩) (Rd.w rfl nd) rfl | exact std1) (by exact rfl) ?_)
                all_goals (first | (exfalso; omega) | (exfalso; simp at hc; done) | skip)
                refine ⟨kd + 1, by omega, by omega, ⟨rfl, rfl, ?_, rfl, ?_, rfl, rfl, rfl, True.intro⟩, ?_⟩
                · rw [hO2, List.map_append]; rfl
                · show AV.int _ = AV.int _; congr 1
                · rw [hO2, List.map_append]; rfl
            · obtain rfl : kd = 5 := by omega
              repeat' (first
                | refine AOps.q rfl rfl rfl (fun hg => by first | exact std0 | exact std1) (by exact rfl) ?_
                | refine AWP.seq ?_
                | refine AWP.regionK (fun K' hK => ?_)
                | (refine AOps.nil (hK _ _ ?_); clear hK K')
                | refine AOps.e (EStep.boxW rfl rfl rfl rfl rfl True.intro rfl rfl ?_)
                | refine AOps.e (EStep.storeW tabOk rfl rfl rfl True.intro rfl rfl True.intro rfl rfl rfl rfl rfl rfl rfl ?_)
                | refine AOps.e (EStep.allocW tabOk rfl rfl rfl rfl rfl rfl ?_)
                | (refine AWP.condW rfl True.intro (fun hc => ?_) (fun hc => ?_) <;> (first | (simp only [decide_eq_true_eq] at hc) | (simp only [decide_eq_false_iff_not, Int.not_lt, Int.not_le] at hc) | skip))
                | refine AWP.block ?_
                | refine AWP.exit ?_
                | refine AWP.skip ?_
                | refine AWP.ret ?_
                | refine AWP.drawK2 (by decide +kernel) (by kernel_rfl) (by decide +kernel) rfl (fun K' hK => ?_)
                | refine AWP.drawL2 (by kernel_rfl) (by decide +kernel) rfl (fun K' hK => ?_)
                | (refine AQ.nil (hK _ ?_); clear hK K')
                | refine AQ.nil ?_
                | refine AQ.q rfl rfl (fun hg => by first | exact std0 | exact std1) (by exact rfl) ?_)
              all_goals (first | (exfalso; omega) | skip)
              refine ⟨j + 1, by omega, by omega, ⟨rfl, rfl, ?_, rfl, rfl, rfl, True.intro⟩, ?_⟩
              · rw [hsn]; rfl
              · rw [hsn]; rfl
          · obtain rfl : j = ns.length := by omega
            repeat' (first
              | refine AOps.q rfl rfl rfl (fun hg => by first | exact std0 | exact std1) (by exact rfl) ?_
              | refine AWP.seq ?_
              | refine AWP.regionK (fun K' hK => ?_)
              | (refine AOps.nil (hK _ _ ?_); clear hK K')
              | refine AOps.e (EStep.boxW rfl rfl rfl rfl rfl True.intro rfl rfl ?_)
              | refine AOps.e (EStep.storeW tabOk rfl rfl rfl True.intro rfl rfl True.intro rfl rfl rfl rfl rfl rfl rfl ?_)
              | refine AOps.e (EStep.allocW tabOk rfl rfl rfl rfl rfl rfl ?_)
              | (refine AWP.condW rfl True.intro (fun hc => ?_) (fun hc => ?_) <;> (first | (simp only [decide_eq_true_eq] at hc) | (simp only [decide_eq_false_iff_not, Int.not_lt, Int.not_le] at hc) | skip))
              | refine AWP.block ?_
              | refine AWP.exit ?_
              | refine AWP.skip ?_
              | refine AWP.ret ?_
              | refine AWP.drawK2 (by decide +kernel) (by kernel_rfl) (by decide +kernel) rfl (fun K' hK => ?_)
              | refine AWP.drawL2 (by kernel_rfl) (by decide +kernel) rfl (fun K' hK => ?_)
              | (refine AQ.nil (hK _ ?_); clear hK K')
              | refine AQ.nil ?_
              | refine AQ.q rfl rfl (fun hg => by first | exact std0 | exact std1) (by exact rfl) ?_)
            all_goals (first | (exfalso; omega) | skip)
            refine ⟨.inr rfl, Ent.of ?_⟩
            rw [List.take_length]; rfl
    · have es : shownR s l r = ([], 22) := by unfold shownR; rw [if_pos hgood, if_neg hf]
      rw [es]
      rw [partR_no g1 g3 hf] at hp
      refine PCall.body Tryz.func39 rfl rfl Tryz.ntmps39 rfl rfl ?_
      repeat' (first
        | refine AOps.q rfl rfl rfl (fun hg => by first | exact std0 | exact PRun.callW (hv) rfl rfl nd rfl nds | exact PRun.callW (hm) rfl rfl nd rfl nds | exact PRun.callW (hr) rfl rfl nd rfl nds | exact PRun.callW (hp) rfl rfl nd rfl nds | exact std1) (by exact rfl) ?_
        | refine AWP.seq ?_
        | refine AWP.regionK (fun K' hK => ?_)
        | (refine AOps.nil (hK _ _ ?_); clear hK K')
        | refine AOps.e (EStep.boxW rfl rfl rfl rfl rfl True.intro rfl rfl ?_)
        | refine AOps.e (EStep.storeW tabOk rfl rfl rfl True.intro rfl rfl True.intro rfl rfl rfl rfl rfl rfl rfl ?_)
        | refine AOps.e (EStep.allocW tabOk rfl rfl rfl rfl rfl rfl ?_)
        | (refine AWP.condW rfl True.intro (fun hc => ?_) (fun hc => ?_) <;> (first | (simp only [decide_eq_true_eq] at hc) | (simp only [decide_eq_false_iff_not, Int.not_lt, Int.not_le] at hc) | skip))
        | refine AWP.block ?_
        | refine AWP.exit ?_
        | refine AWP.skip ?_
        | refine AWP.ret ?_
        | (refine AQ.nil (hK _ ?_); clear hK K')
        | refine AQ.nil ?_
        | refine AQ.q rfl rfl (fun hg => by first | exact std0 | exact PRun.callW (hv) rfl rfl nd rfl nds | exact PRun.callW (hm) rfl rfl nd rfl nds | exact PRun.callW (hr) rfl rfl nd rfl nds | exact PRun.callW (hp) rfl rfl nd rfl nds | exact std1) (by exact rfl) ?_)
      · exfalso; simp at hc
      refine AWP.drawK2 (by decide +kernel) (by kernel_rfl) (by decide +kernel) rfl (fun K' hK => ?_)
      repeat' (first
        | refine AOps.q rfl rfl rfl (fun hg => by first | exact std0 | exact (Bool.noConfusion (show false = true from hg) : PRun _ _ _ _ (.b false)) | exact std1) (by exact rfl) ?_
        | refine AWP.seq ?_
        | refine AWP.regionK (fun K' hK => ?_)
        | (refine AOps.nil (hK _ _ ?_); clear hK K')
        | refine AOps.e (EStep.boxW rfl rfl rfl rfl rfl True.intro rfl rfl ?_)
        | refine AOps.e (EStep.storeW tabOk rfl rfl rfl True.intro rfl rfl True.intro rfl rfl rfl rfl rfl rfl rfl ?_)
        | refine AOps.e (EStep.allocW tabOk rfl rfl rfl rfl rfl rfl ?_)
        | (refine AWP.condW rfl True.intro (fun hc => ?_) (fun hc => ?_) <;> (first | (simp only [decide_eq_true_eq] at hc) | (simp only [decide_eq_false_iff_not, Int.not_lt, Int.not_le] at hc) | skip))
        | refine AWP.block ?_
        | refine AWP.exit ?_
        | refine AWP.skip ?_
        | refine AWP.ret ?_
        | (refine AQ.nil (hK _ ?_); clear hK K')
        | refine AQ.nil ?_
        | refine AQ.q rfl rfl (fun hg => by first | exact std0 | exact (Bool.noConfusion (show false = true from hg) : PRun _ _ _ _ (.b false)) | exact std1) (by exact rfl) ?_)
      · exact ⟨.inr rfl, Ent.tup2 Ent.nil (Ent.rfl' _)⟩
      all_goals (exfalso; simp at hc)
  · have es : shownR s l r = ([], 1) := by unfold shownR; rw [if_neg hgood]
    rw [es]
    have hbad : ((!scoreOk s || !marksOk l) || !isRdr r) = true := by
      revert hgood; cases scoreOk s <;> cases marksOk l <;> cases isRdr r <;> simp
    refine PCall.body Tryz.func39 rfl rfl Tryz.ntmps39 rfl rfl ?_
    repeat' (first
      | refine AOps.q rfl rfl rfl (fun hg => by first | exact std0 | exact PRun.callW (hv) rfl rfl nd rfl nds | exact PRun.callW (hm) rfl rfl nd rfl nds | exact PRun.callW (hr) rfl rfl nd rfl nds | exact std1) (by exact rfl) ?_
      | refine AWP.seq ?_
      | refine AWP.regionK (fun K' hK => ?_)
      | (refine AOps.nil (hK _ _ ?_); clear hK K')
      | refine AOps.e (EStep.boxW rfl rfl rfl rfl rfl True.intro rfl rfl ?_)
      | refine AOps.e (EStep.storeW tabOk rfl rfl rfl True.intro rfl rfl True.intro rfl rfl rfl rfl rfl rfl rfl ?_)
      | refine AOps.e (EStep.allocW tabOk rfl rfl rfl rfl rfl rfl ?_)
      | (refine AWP.condW rfl True.intro (fun hc => ?_) (fun hc => ?_) <;> (first | (simp only [decide_eq_true_eq] at hc) | (simp only [decide_eq_false_iff_not, Int.not_lt, Int.not_le] at hc) | skip))
      | refine AWP.block ?_
      | refine AWP.exit ?_
      | refine AWP.skip ?_
      | refine AWP.ret ?_
      | (refine AQ.nil (hK _ ?_); clear hK K')
      | refine AQ.nil ?_
      | refine AQ.q rfl rfl (fun hg => by first | exact std0 | exact PRun.callW (hv) rfl rfl nd rfl nds | exact PRun.callW (hm) rfl rfl nd rfl nds | exact PRun.callW (hr) rfl rfl nd rfl nds | exact std1) (by exact rfl) ?_)
    · exact ⟨.inr rfl, Ent.tup2 Ent.nil (Ent.rfl' _)⟩
    all_goals (exfalso; first | (rw [hbad] at hc; cases hc) | (rename_i h9; rw [hbad] at h9; cases h9))
end Go.Proofs.YthfcafcjkaemiaaGreatDoor.Mk
