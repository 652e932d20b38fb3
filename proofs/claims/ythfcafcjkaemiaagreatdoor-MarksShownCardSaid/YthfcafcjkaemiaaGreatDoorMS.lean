/- The law MarksShown by content. -/
import Derived.Test.YthfcafcjkaemiaaGreatDoorMO
set_option linter.unusedVariables false
set_option linter.unusedSimpArgs false
namespace Go.Proofs.YthfcafcjkaemiaaGreatDoor.Mk
open Go.Ab Go.Jo
attribute [local irreducible] AWP AOps EStep AQ PStep PRun PCall TCall VCall DStep TDies AWD DCall

theorem okObj_mapB (m : Nat) (al : List (Int × Bool)) : okObj m (.map (Go.Ab.encM ekI AV.b al)) = true := by
  simp [okObj, Go.Ab.encM, okRef]
set_option maxHeartbeats 16000000 in
set_option maxRecDepth 40000 in
theorem shown_law (s : Score) (hz : s.Sized) (l : List Jo.Mark) (hl : l.length ≤ 9223372036854775807) (ht : TextsIn l) (r : Rdr) :
    PCall Tryz.prog 8 [.agg (encS s), .sl 10 (l.map encMk) .no, .agg (encRd r)] (.b true) := by
  have hh := mhead_spec
  have hu := usable_spec s hz l hl ht
  cases hus : usableR s l with
  | false =>
    rw [hus] at hu
    refine PCall.body Tryz.func8 rfl rfl Tryz.ntmps8 rfl rfl ?_
    repeat' (first | refine AOps.q rfl rfl rfl (fun hg => by first | exact std0 | exact PRun.callW (hh) rfl rfl nd rfl nds | exact PRun.callW (hu) rfl rfl nd rfl nds | exact std1) (by exact rfl) ?_ | refine AWP.seq ?_ | refine AWP.regionK (fun K' hK => ?_) | (refine AOps.nil (hK _ _ ?_); clear hK K') | refine AOps.e (EStep.boxW rfl rfl rfl rfl rfl True.intro rfl rfl ?_) | refine AOps.e (EStep.storeW tabOk rfl rfl rfl True.intro rfl rfl True.intro rfl rfl rfl rfl rfl rfl rfl ?_) | refine AOps.e (EStep.allocW tabOk rfl rfl rfl rfl rfl rfl ?_) | (refine AWP.condW rfl True.intro (fun hc => ?_) (fun hc => ?_) <;> (first | (simp only [decide_eq_true_eq] at hc) | (simp only [decide_eq_false_iff_not, Int.not_lt, Int.not_le] at hc) | skip)) | refine AWP.block ?_ | refine AWP.exit ?_ | refine AWP.skip ?_ | refine AWP.ret ?_ | (refine AQ.nil (hK _ ?_); clear hK K') | refine AQ.nil ?_ | refine AQ.q rfl rfl (fun hg => by first | exact std0 | exact PRun.callW (hh) rfl rfl nd rfl nds | exact PRun.callW (hu) rfl rfl nd rfl nds | exact std1) (by exact rfl) ?_)
    · exact ⟨.inr rfl, Ent.b rfl⟩
    all_goals (exfalso; simp at hc)
  | true =>
    rw [hus] at hu
    obtain ⟨u1, u2, u3, u4⟩ := usableR_split hus
    have hs := Score.few_small u1
    have hn := few_notes u1
    have hsh := shown_spec s hs (by omega) l (by omega) ht r
    cases hrd : readsI s r with
    | false =>
      have hr := reads_no s hs r hrd
      rcases shownR_no (l := l) hrd with e | e
      · rw [e] at hsh
        refine PCall.body Tryz.func8 rfl rfl Tryz.ntmps8 rfl rfl ?_
        repeat' (first | refine AOps.q rfl rfl rfl (fun hg => by first | exact std0 | exact PRun.callW (hh) rfl rfl nd rfl nds | exact PRun.callW (hu) rfl rfl nd rfl nds | exact PRun.callW (hr) rfl rfl nd rfl nds | exact PRun.callW (hsh) rfl rfl nd rfl nds | exact std1) (by exact rfl) ?_ | refine AWP.seq ?_ | refine AWP.regionK (fun K' hK => ?_) | (refine AOps.nil (hK _ _ ?_); clear hK K') | refine AOps.e (EStep.boxW rfl rfl rfl rfl rfl True.intro rfl rfl ?_) | refine AOps.e (EStep.storeW tabOk rfl rfl rfl True.intro rfl rfl True.intro rfl rfl rfl rfl rfl rfl rfl ?_) | refine AOps.e (EStep.allocW tabOk rfl rfl rfl rfl rfl rfl ?_) | (refine AWP.condW rfl True.intro (fun hc => ?_) (fun hc => ?_) <;> (first | (simp only [decide_eq_true_eq] at hc) | (simp only [decide_eq_false_iff_not, Int.not_lt, Int.not_le] at hc) | skip)) | refine AWP.block ?_ | refine AWP.exit ?_ | refine AWP.skip ?_ | refine AWP.ret ?_ | (refine AQ.nil (hK _ ?_); clear hK K') | refine AQ.nil ?_ | refine AQ.q rfl rfl (fun hg => by first | exact std0 | exact PRun.callW (hh) rfl rfl nd rfl nds | exact PRun.callW (hu) rfl rfl nd rfl nds | exact PRun.callW (hr) rfl rfl nd rfl nds | exact PRun.callW (hsh) rfl rfl nd rfl nds | exact std1) (by exact rfl) ?_)
        · exfalso; simp at hc
        · exact ⟨.inr rfl, Ent.b (by decide)⟩
        all_goals (exfalso; simp at hc)
      · rw [e] at hsh
        refine PCall.body Tryz.func8 rfl rfl Tryz.ntmps8 rfl rfl ?_
        repeat' (first | refine AOps.q rfl rfl rfl (fun hg => by first | exact std0 | exact PRun.callW (hh) rfl rfl nd rfl nds | exact PRun.callW (hu) rfl rfl nd rfl nds | exact PRun.callW (hr) rfl rfl nd rfl nds | exact PRun.callW (hsh) rfl rfl nd rfl nds | exact std1) (by exact rfl) ?_ | refine AWP.seq ?_ | refine AWP.regionK (fun K' hK => ?_) | (refine AOps.nil (hK _ _ ?_); clear hK K') | refine AOps.e (EStep.boxW rfl rfl rfl rfl rfl True.intro rfl rfl ?_) | refine AOps.e (EStep.storeW tabOk rfl rfl rfl True.intro rfl rfl True.intro rfl rfl rfl rfl rfl rfl rfl ?_) | refine AOps.e (EStep.allocW tabOk rfl rfl rfl rfl rfl rfl ?_) | (refine AWP.condW rfl True.intro (fun hc => ?_) (fun hc => ?_) <;> (first | (simp only [decide_eq_true_eq] at hc) | (simp only [decide_eq_false_iff_not, Int.not_lt, Int.not_le] at hc) | skip)) | refine AWP.block ?_ | refine AWP.exit ?_ | refine AWP.skip ?_ | refine AWP.ret ?_ | (refine AQ.nil (hK _ ?_); clear hK K') | refine AQ.nil ?_ | refine AQ.q rfl rfl (fun hg => by first | exact std0 | exact PRun.callW (hh) rfl rfl nd rfl nds | exact PRun.callW (hu) rfl rfl nd rfl nds | exact PRun.callW (hr) rfl rfl nd rfl nds | exact PRun.callW (hsh) rfl rfl nd rfl nds | exact std1) (by exact rfl) ?_)
        · exfalso; simp at hc
        · exact ⟨.inr rfl, Ent.b (by decide)⟩
        all_goals (exfalso; simp at hc)
    | true =>
      obtain ⟨hr1, k, e1, e2, e3, e4⟩ := reads_split hrd
      obtain ⟨p, hP⟩ : ∃ p, s.parts.getD k default = p := ⟨_, rfl⟩
      rw [hP] at e3 e4
      have hr := reads_yes s hs r hr1 e1 e2 hP e3
      rw [shownR_yes u3 u4 hr1 e1 hP e3] at hsh
      have hpl := plays_spec s hs r.part
      rw [playsR_yes u3 e1 hP] at hpl
      have hln := marksOk_nodup u4
      have hnn := played_nodup (scoreOk_nodup u3) p
      have hpn := played_len s.notes p
      have hxl := shownL_len (shownF s l p r) (playedL s.notes p)
      have hxn := shown_nodup_key (fun n k m h => (shownF_some (s := s) (p := p) (r := r) hln h).2.1) (playedL s.notes p) hnn
      have hx : ∀ m ∈ shownL (shownF s l p r) (playedL s.notes p), m ∈ l ∧ m.note ∈ (playedL s.notes p).map (·.id) ∧ m.version = s.version ∧ forM m p.section_ r = true := fun m hm => by
        obtain ⟨n, hn, kd, hk, e⟩ := mem_shownL.1 hm
        obtain ⟨a1, a2, a3, a4⟩ := shownF_some hln e
        exact ⟨a1, by rw [a2.1]; exact List.mem_map.2 ⟨n, hn, rfl⟩, a3, a4⟩
      have hall : ∀ m ∈ l, forM m p.section_ r = true → m.note ∈ (playedL s.notes p).map (·.id) → m.version = s.version → ∃ b, b ∈ shownL (shownF s l p r) (playedL s.notes p) ∧ keyM b = keyM m ∧ (b = m ∨ cnt b m = true) := fun m hm h1 h2 h3 => by
        have hq := okFor_own h3 h1
        cases hb : shownF s l p r m.note m.kind with
        | none => have := bestM_none hln hb m hm; rw [hq] at this; cases this
        | some b =>
          obtain ⟨n, hn, en⟩ := List.mem_map.1 h2
          obtain ⟨b1, b2, b3⟩ := bestM_some hln hb
          obtain ⟨_, a2, _, _⟩ := shownF_some hln hb
          refine ⟨b, mem_shownL.2 ⟨n, hn, m.kind, markOk_kind (marksOk_mem u4 hm), ?_⟩, ?_, ?_⟩
          · have en' : n.id = m.note := en
            rw [en']; exact hb
          · show (b.note, b.kind) = (m.note, m.kind)
            rw [a2.1, a2.2]
          · rcases b3 m hm hq with h | h
            · exact .inl h.symm
            · exact .inr h
      generalize playedL s.notes p = ns at *
      generalize shownL (shownF s l p r) ns = x at *
      refine PCall.body Tryz.func8 rfl rfl Tryz.ntmps8 rfl rfl ?_
      repeat' (first | refine AOps.q rfl rfl rfl (fun hg => by first | exact std0 | exact PRun.callW (hh) rfl rfl nd rfl nds | exact PRun.callW (hu) rfl rfl nd rfl nds | exact PRun.callW (hr) rfl rfl nd rfl nds | exact PRun.callW (hsh) rfl rfl nd rfl nds | exact PRun.callW (hpl) rfl rfl nd rfl nds | exact std1) (by exact rfl) ?_ | refine AWP.seq ?_ | refine AWP.regionK (fun K' hK => ?_) | (refine AOps.nil (hK _ _ ?_); clear hK K') | refine AOps.e (EStep.boxW rfl rfl rfl rfl rfl True.intro rfl rfl ?_) | refine AOps.e (EStep.storeW tabOk rfl rfl rfl True.intro rfl rfl True.intro rfl rfl rfl rfl rfl rfl rfl ?_) | refine AOps.e (EStep.allocW tabOk rfl rfl rfl rfl rfl rfl ?_) | refine AOps.e (EStep.makeMapW rfl rfl rfl rfl ?_) | (refine AWP.condW rfl True.intro (fun hc => ?_) (fun hc => ?_) <;> (first | (simp only [decide_eq_true_eq] at hc) | (simp only [decide_eq_false_iff_not, Int.not_lt, Int.not_le] at hc) | skip)) | refine AWP.block ?_ | refine AWP.exit ?_ | refine AWP.skip ?_ | refine AWP.ret ?_ | refine AWP.drawK2 (by decide +kernel) (by kernel_rfl) (by decide +kernel) rfl (fun K' hK => ?_) | refine AWP.drawL2 (by kernel_rfl) (by decide +kernel) rfl (fun K' hK => ?_) | (refine AQ.nil (hK _ ?_); clear hK K') | refine AQ.nil ?_ | refine AQ.q rfl rfl (fun hg => by first | exact std0 | exact PRun.callW (hh) rfl rfl nd rfl nds | exact PRun.callW (hu) rfl rfl nd rfl nds | exact PRun.callW (hr) rfl rfl nd rfl nds | exact PRun.callW (hsh) rfl rfl nd rfl nds | exact PRun.callW (hpl) rfl rfl nd rfl nds | exact std1) (by exact rfl) ?_)
      · exfalso; simp at hc
      · exfalso; simp at hc
      · exfalso; simp at hc
      clear hh hu hr hsh hpl
      refine AWP.loopD (ι := Nat) (fun j => [(1, .sl 10 (l.map encMk) .no), (3, .ptr 0 0), (5, .ptr 1 0), (7, .b true), (8, .ptr 2 0), (10, .sl 10 (x.map encMk) .no), (14, .map 3), (82, .sl 12 (ns.map encN) .no), (83, .int ns.length), (84, .int j)])
        (fun j => [.var (encS s), .var (encRd r), .var (encP p), .map (Go.Ab.encM ekI AV.b (seenAL (·.id) (ns.take j)))])
        (fun j => j ≤ ns.length) (fun j => ns.length - j) 4 (fun _ => rfl) 0 (Nat.zero_le _) ⟨rfl, rfl, rfl, rfl, rfl, rfl, rfl, rfl, rfl, rfl, True.intro⟩ rfl (fun _ _ => rfl) (fun j _ => by simp only [List.all_cons, List.all_nil, Bool.and_true, Bool.and_eq_true]; exact ⟨rfl, rfl, rfl, okObj_mapB _ _⟩) ?_
      intro j hj
      by_cases hjl : j < ns.length
      · have hnew : (ns.getD j default).id ∉ (ns.take j).map (·.id) := by
          have h9 : ((ns.take (j + 1)).map (·.id)).Nodup := by
            rw [← List.take_append_drop (j + 1) ns, List.map_append] at hnn
            exact (List.nodup_append.1 hnn).1
          exact ((nodup_succ (fun n : Note => n.id) ns j hjl).1 h9).2
        have hsucc := seen_succ (fun n : Note => n.id) ns j hjl hnew
        repeat' (first | refine AOps.q rfl rfl rfl (fun hg => by first | exact std0 | exact std1) (by exact rfl) ?_ | refine AWP.seq ?_ | refine AWP.regionK (fun K' hK => ?_) | (refine AOps.nil (hK _ _ ?_); clear hK K') | refine AOps.e (EStep.boxW rfl rfl rfl rfl rfl True.intro rfl rfl ?_) | refine AOps.e (EStep.storeW tabOk rfl rfl rfl True.intro rfl rfl True.intro rfl rfl rfl rfl rfl rfl rfl ?_) | refine AOps.e (EStep.allocW tabOk rfl rfl rfl rfl rfl rfl ?_) | refine AOps.e (EStep.mapUpd (ek := ekI) (ev := AV.b) (v := true) (keyLaw_int (LOk.of (tabOk.get rfl))) (LOk.of (tabOk.get rfl)) rfl rfl rfl (Rd.w rfl True.intro) rfl (Rd.w rfl True.intro) rfl (Rd.w rfl True.intro) ?_) | (refine AWP.condW rfl True.intro (fun hc => ?_) (fun hc => ?_) <;> (first | (simp only [decide_eq_true_eq] at hc) | (simp only [decide_eq_false_iff_not, Int.not_lt, Int.not_le] at hc) | skip)) | refine AWP.block ?_ | refine AWP.exit ?_ | refine AWP.skip ?_ | refine AWP.ret ?_ | refine AWP.drawK2 (by decide +kernel) (by kernel_rfl) (by decide +kernel) rfl (fun K' hK => ?_) | refine AWP.drawL2 (by kernel_rfl) (by decide +kernel) rfl (fun K' hK => ?_) | (refine AQ.nil (hK _ ?_); clear hK K') | refine AQ.nil ?_ | refine AQ.q rfl rfl (fun hg => by first | exact std0 | exact std1) (by exact rfl) ?_)
        all_goals (first | (exfalso; omega) | skip)
        refine ⟨j + 1, by omega, by omega, ⟨rfl, rfl, rfl, rfl, rfl, rfl, rfl, rfl, rfl, rfl, True.intro⟩, ?_⟩
        rw [← hsucc]; rfl
      obtain rfl : j = ns.length := by omega
      rw [List.take_length]
      have hpa := fun id (h : id ∈ ns.map (fun n : Note => n.id)) => lk_seen_yes (fun n : Note => n.id) h
      have hpb := lk_seen (fun n : Note => n.id) ns
      generalize seenAL (fun n : Note => n.id) ns = pal at *
      repeat' (first | refine AOps.q rfl rfl rfl (fun hg => by first | exact std0 | exact std1) (by exact rfl) ?_ | refine AWP.seq ?_ | refine AWP.regionK (fun K' hK => ?_) | (refine AOps.nil (hK _ _ ?_); clear hK K') | refine AOps.e (EStep.boxW rfl rfl rfl rfl rfl True.intro rfl rfl ?_) | refine AOps.e (EStep.storeW tabOk rfl rfl rfl True.intro rfl rfl True.intro rfl rfl rfl rfl rfl rfl rfl ?_) | refine AOps.e (EStep.allocW tabOk rfl rfl rfl rfl rfl rfl ?_) | refine AOps.e (EStep.makeMapW rfl rfl rfl rfl ?_) | (refine AWP.condW rfl True.intro (fun hc => ?_) (fun hc => ?_) <;> (first | (simp only [decide_eq_true_eq] at hc) | (simp only [decide_eq_false_iff_not, Int.not_lt, Int.not_le] at hc) | skip)) | refine AWP.block ?_ | refine AWP.exit ?_ | refine AWP.skip ?_ | refine AWP.ret ?_ | refine AWP.drawK2 (by decide +kernel) (by kernel_rfl) (by decide +kernel) rfl (fun K' hK => ?_) | refine AWP.drawL2 (by kernel_rfl) (by decide +kernel) rfl (fun K' hK => ?_) | (refine AQ.nil (hK _ ?_); clear hK K') | refine AQ.nil ?_ | refine AQ.q rfl rfl (fun hg => by first | exact std0 | exact std1) (by exact rfl) ?_)
      all_goals (first | (exfalso; omega) | skip)
      refine AWP.loopD (ι := Nat) (fun j => [(1, .sl 10 (l.map encMk) .no), (3, .ptr 0 0), (5, .ptr 1 0), (7, .b true), (8, .ptr 2 0), (14, .map 3), (17, .map 4), (93, .sl 10 (x.map encMk) .no), (94, .int x.length), (95, .int j)])
        (fun j => [.var (encS s), .var (encRd r), .var (encP p), .map (Go.Ab.encM ekI AV.b pal), .map (Go.Ab.encM ekP evM (keyAL (x.take j)))])
        (fun j => j ≤ x.length) (fun j => x.length - j) 5 (fun _ => rfl) 0 (Nat.zero_le _) ⟨rfl, rfl, rfl, rfl, rfl, rfl, rfl, rfl, rfl, rfl, True.intro⟩ rfl (fun _ _ => rfl) (fun j _ => by simp only [List.all_cons, List.all_nil, Bool.and_true, Bool.and_eq_true]; exact ⟨rfl, rfl, rfl, okObj_mapB _ _, okObj_mapM _ _⟩) ?_
      intro j hj
      by_cases hjx : j < x.length
      · obtain ⟨g1, g2⟩ := keyAL_succ hxn hjx
        obtain ⟨a1, a2, a3, a4⟩ := hx (x.getD j default) (by rw [getD_lt hjx]; exact List.getElem_mem hjx)
        obtain ⟨m, hm⟩ : ∃ m, x.getD j default = m := ⟨_, rfl⟩
        rw [hm] at g1 g2 a1 a2 a3 a4
        have hlk := lk_keyAL_none g1
        have hlk2 := hpa _ a2
        have hme := meant_spec m p r (ht m a1)
        rw [meant_ok (marksOk_mem u4 a1) hr1 e4.symm, a4] at hme
        clear hall hx hpa hpb
        repeat' (first | refine AOps.q rfl rfl rfl (fun hg => by first | exact PRun.lookupV (ek := ekI) (ev := AV.b) (zv := false) hlk2 (keyLaw_int (LOk.of (tabOk.get rfl))) (LOk.of (tabOk.get rfl)) (LOk.of (tabOk.get rfl)) rfl rfl (Rd.w rfl nd) (Or.inr ⟨_, rfl, rfl⟩) (Rd.w rfl nd) rfl | exact PRun.lookupV (ek := ekP) (ev := evM) (zv := noMark) (key := (m.note, m.kind)) hlk pairK (LOk.of (tabOk.get rfl)) (LOk.of (tabOk.get rfl)) rfl rfl (Rd.w rfl nd) (Or.inr ⟨_, rfl, rfl⟩) (Rd.w rfl nd) rfl | exact PRun.eq (v := .iptr (encMk (x.getD ((j : Nat) : Int).toNat default))) (PRun.indexMW tabOk rfl rfl nd rfl nd rfl rfl (by omega)) (congrArg (fun x => AV.iptr (encMk x)) hm) | exact std0 | exact PRun.buildAW tabOk rfl rfl nds | exact PRun.callW (hme) rfl rfl nd rfl nds | exact std1) (by exact rfl) ?_ | refine AWP.seq ?_ | refine AWP.regionK (fun K' hK => ?_) | (refine AOps.nil (hK _ _ ?_); clear hK K') | refine AOps.e (EStep.boxW rfl rfl rfl rfl rfl True.intro rfl rfl ?_) | refine AOps.e (EStep.storeW tabOk rfl rfl rfl True.intro rfl rfl True.intro rfl rfl rfl rfl rfl rfl rfl ?_) | refine AOps.e (EStep.allocW tabOk rfl rfl rfl rfl rfl rfl ?_) | refine AOps.e (EStep.mapUpd (ek := ekP) (ev := evM) (key := (m.note, m.kind)) (v := m) pairK (LOk.of (tabOk.get rfl)) rfl rfl rfl (Rd.w rfl True.intro) rfl (Rd.w rfl True.intro) rfl (Rd.w rfl True.intro) ?_) | (refine AWP.condW rfl True.intro (fun hc => ?_) (fun hc => ?_) <;> (first | (simp only [decide_eq_true_eq] at hc) | (simp only [decide_eq_false_iff_not, Int.not_lt, Int.not_le] at hc) | skip)) | refine AWP.block ?_ | refine AWP.exit ?_ | refine AWP.skip ?_ | refine AWP.ret ?_ | refine AWP.drawK2 (by decide +kernel) (by kernel_rfl) (by decide +kernel) rfl (fun K' hK => ?_) | refine AWP.drawL2 (by kernel_rfl) (by decide +kernel) rfl (fun K' hK => ?_) | (refine AQ.nil (hK _ ?_); clear hK K') | refine AQ.nil ?_ | refine AQ.q rfl rfl (fun hg => by first | exact PRun.lookupV (ek := ekI) (ev := AV.b) (zv := false) hlk2 (keyLaw_int (LOk.of (tabOk.get rfl))) (LOk.of (tabOk.get rfl)) (LOk.of (tabOk.get rfl)) rfl rfl (Rd.w rfl nd) (Or.inr ⟨_, rfl, rfl⟩) (Rd.w rfl nd) rfl | exact PRun.lookupV (ek := ekP) (ev := evM) (zv := noMark) (key := (m.note, m.kind)) hlk pairK (LOk.of (tabOk.get rfl)) (LOk.of (tabOk.get rfl)) rfl rfl (Rd.w rfl nd) (Or.inr ⟨_, rfl, rfl⟩) (Rd.w rfl nd) rfl | exact PRun.eq (v := .iptr (encMk (x.getD ((j : Nat) : Int).toNat default))) (PRun.indexMW tabOk rfl rfl nd rfl nd rfl rfl (by omega)) (congrArg (fun x => AV.iptr (encMk x)) hm) | exact std0 | exact PRun.buildAW tabOk rfl rfl nds | exact PRun.callW (hme) rfl rfl nd rfl nds | exact std1) (by exact rfl) ?_)
        all_goals (first | (exfalso; omega) | skip)
        · exfalso; revert hc; simp [a3]
        · refine ⟨j + 1, by omega, by omega, ⟨rfl, rfl, rfl, rfl, rfl, rfl, rfl, rfl, rfl, rfl, True.intro⟩, ?_⟩
          rw [← g2]; rfl
      obtain rfl : j = x.length := by omega
      rw [List.take_length]
      have hky := fun (b : Jo.Mark) (h : b ∈ x) => lk_keyAL hxn h
      generalize keyAL x = kal at *
      repeat' (first | refine AOps.q rfl rfl rfl (fun hg => by first | exact std0 | exact std1) (by exact rfl) ?_ | refine AWP.seq ?_ | refine AWP.regionK (fun K' hK => ?_) | (refine AOps.nil (hK _ _ ?_); clear hK K') | refine AOps.e (EStep.boxW rfl rfl rfl rfl rfl True.intro rfl rfl ?_) | refine AOps.e (EStep.storeW tabOk rfl rfl rfl True.intro rfl rfl True.intro rfl rfl rfl rfl rfl rfl rfl ?_) | refine AOps.e (EStep.allocW tabOk rfl rfl rfl rfl rfl rfl ?_) | (refine AWP.condW rfl True.intro (fun hc => ?_) (fun hc => ?_) <;> (first | (simp only [decide_eq_true_eq] at hc) | (simp only [decide_eq_false_iff_not, Int.not_lt, Int.not_le] at hc) | skip)) | refine AWP.block ?_ | refine AWP.exit ?_ | refine AWP.skip ?_ | refine AWP.ret ?_ | refine AWP.drawK2 (by decide +kernel) (by kernel_rfl) (by decide +kernel) rfl (fun K' hK => ?_) | refine AWP.drawL2 (by kernel_rfl) (by decide +kernel) rfl (fun K' hK => ?_) | (refine AQ.nil (hK _ ?_); clear hK K') | refine AQ.nil ?_ | refine AQ.q rfl rfl (fun hg => by first | exact std0 | exact std1) (by exact rfl) ?_)
      all_goals (first | (exfalso; omega) | skip)
      refine AWP.loopD (ι := Nat) (fun j => [(3, .ptr 0 0), (5, .ptr 1 0), (7, .b true), (8, .ptr 2 0), (14, .map 3), (17, .map 4), (144, .sl 10 (l.map encMk) .no), (145, .int l.length), (146, .int j)])
        (fun j => [.var (encS s), .var (encRd r), .var (encP p), .map (Go.Ab.encM ekI AV.b pal), .map (Go.Ab.encM ekP evM kal)])
        (fun j => j ≤ l.length) (fun j => l.length - j) 5 (fun _ => rfl) 0 (Nat.zero_le _) ⟨rfl, rfl, rfl, rfl, rfl, rfl, rfl, rfl, rfl, True.intro⟩ rfl (fun _ _ => rfl) (fun j _ => by simp only [List.all_cons, List.all_nil, Bool.and_true, Bool.and_eq_true]; exact ⟨rfl, rfl, rfl, okObj_mapB _ _, okObj_mapM _ _⟩) ?_
      intro j hj
      by_cases hjl : j < l.length
      · have hml : l.getD j default ∈ l := by rw [getD_lt hjl]; exact List.getElem_mem hjl
        obtain ⟨m, hm⟩ : ∃ m, l.getD j default = m := ⟨_, rfl⟩
        rw [hm] at hml
        have hme := meant_spec m p r (ht m hml)
        rw [meant_ok (marksOk_mem u4 hml) hr1 e4.symm] at hme
        have hpm := hpb m.note
        by_cases hyes : forM m p.section_ r = true ∧ m.note ∈ ns.map (fun n : Note => n.id) ∧ m.version = s.version
        · obtain ⟨y1, y2, y3⟩ := hyes
          obtain ⟨b, b1, b2, b3⟩ := hall m hml y1 y2 y3
          have hlk := hky b b1
          rw [b2] at hlk
          have hlk2 := hpa _ y2
          have hbl := (hx b b1).1
          have hbe := before_spec b m (ht b hbl) (ht m hml)
          rw [before_ok (marksOk_mem u4 hbl) (marksOk_mem u4 hml)] at hbe
          rw [y1] at hme
          have hfin : (b != m && !cnt b m) = false := by
            rcases b3 with rfl | h
            · simp
            · rw [h]; simp
          clear hall hx hpa hpb hky
          repeat' (first | refine AOps.q rfl rfl rfl (fun hg => by first | exact PRun.lookupV (ek := ekI) (ev := AV.b) (zv := false) hlk2 (keyLaw_int (LOk.of (tabOk.get rfl))) (LOk.of (tabOk.get rfl)) (LOk.of (tabOk.get rfl)) rfl rfl (Rd.w rfl nd) (Or.inr ⟨_, rfl, rfl⟩) (Rd.w rfl nd) rfl | exact PRun.lookupV (ek := ekP) (ev := evM) (zv := noMark) (key := (m.note, m.kind)) hlk pairK (LOk.of (tabOk.get rfl)) (LOk.of (tabOk.get rfl)) rfl rfl (Rd.w rfl nd) (Or.inr ⟨_, rfl, rfl⟩) (Rd.w rfl nd) rfl | exact PRun.eq (v := .iptr (encMk (l.getD ((j : Nat) : Int).toNat default))) (PRun.indexMW tabOk rfl rfl nd rfl nd rfl rfl (by omega)) (congrArg (fun x => AV.iptr (encMk x)) hm) | exact std0 | exact PRun.buildAW tabOk rfl rfl nds | exact PRun.callW (hme) rfl rfl nd rfl nds | exact PRun.callW (hbe) rfl rfl nd rfl nds | exact PRun.neN flM rfl rfl nd rfl nd rfl | exact std1) (by exact rfl) ?_ | refine AWP.seq ?_ | refine AWP.regionK (fun K' hK => ?_) | (refine AOps.nil (hK _ _ ?_); clear hK K') | refine AOps.e (EStep.boxW rfl rfl rfl rfl rfl True.intro rfl rfl ?_) | refine AOps.e (EStep.storeW tabOk rfl rfl rfl True.intro rfl rfl True.intro rfl rfl rfl rfl rfl rfl rfl ?_) | refine AOps.e (EStep.allocW tabOk rfl rfl rfl rfl rfl rfl ?_) | (refine AWP.condW rfl True.intro (fun hc => ?_) (fun hc => ?_) <;> (first | (simp only [decide_eq_true_eq] at hc) | (simp only [decide_eq_false_iff_not, Int.not_lt, Int.not_le] at hc) | skip)) | refine AWP.block ?_ | refine AWP.exit ?_ | refine AWP.skip ?_ | refine AWP.ret ?_ | refine AWP.drawK2 (by decide +kernel) (by kernel_rfl) (by decide +kernel) rfl (fun K' hK => ?_) | refine AWP.drawL2 (by kernel_rfl) (by decide +kernel) rfl (fun K' hK => ?_) | (refine AQ.nil (hK _ ?_); clear hK K') | refine AQ.nil ?_ | refine AQ.q rfl rfl (fun hg => by first | exact PRun.lookupV (ek := ekI) (ev := AV.b) (zv := false) hlk2 (keyLaw_int (LOk.of (tabOk.get rfl))) (LOk.of (tabOk.get rfl)) (LOk.of (tabOk.get rfl)) rfl rfl (Rd.w rfl nd) (Or.inr ⟨_, rfl, rfl⟩) (Rd.w rfl nd) rfl | exact PRun.lookupV (ek := ekP) (ev := evM) (zv := noMark) (key := (m.note, m.kind)) hlk pairK (LOk.of (tabOk.get rfl)) (LOk.of (tabOk.get rfl)) rfl rfl (Rd.w rfl nd) (Or.inr ⟨_, rfl, rfl⟩) (Rd.w rfl nd) rfl | exact PRun.eq (v := .iptr (encMk (l.getD ((j : Nat) : Int).toNat default))) (PRun.indexMW tabOk rfl rfl nd rfl nd rfl rfl (by omega)) (congrArg (fun x => AV.iptr (encMk x)) hm) | exact std0 | exact PRun.buildAW tabOk rfl rfl nds | exact PRun.callW (hme) rfl rfl nd rfl nds | exact PRun.callW (hbe) rfl rfl nd rfl nds | exact PRun.neN flM rfl rfl nd rfl nd rfl | exact std1) (by exact rfl) ?_)
          all_goals (first | (exfalso; omega) | skip)
          · exfalso; simp at hc
          · exfalso; revert hc; simp [y3]
          · exfalso
            have h9 : ((!true || (0 : Int) != 0) || (!eqM b m && !cnt b m)) = true := hc
            rw [eqM_eq] at h9
            have h8 : (!(b == m) && !cnt b m) = false := hfin
            rw [h8] at h9; cases h9
          · exact ⟨j + 1, by omega, by omega, ⟨rfl, rfl, rfl, rfl, rfl, rfl, rfl, rfl, rfl, True.intro⟩, rfl⟩
        · have hno : ((!forM m p.section_ r || !((lk pal m.note).getD false)) || m.version != s.version) = true := by
            rw [hpm]
            by_cases y1 : forM m p.section_ r = true
            · by_cases y2 : m.note ∈ ns.map (fun n : Note => n.id)
              · have y3 : ¬ m.version = s.version := fun y3 => hyes ⟨y1, y2, y3⟩
                simp [y3]
              · rw [decide_eq_false y2]; simp
            · simp [y1]
          clear hall hx hpa hpb hky
          repeat' (first | refine AOps.q rfl rfl rfl (fun hg => by first | exact PRun.lookup (ek := ekI) (ev := AV.b) (zv := false) (keyLaw_int (LOk.of (tabOk.get rfl))) (LOk.of (tabOk.get rfl)) (LOk.of (tabOk.get rfl)) rfl rfl (Rd.w rfl nd) (Or.inr ⟨_, rfl, rfl⟩) (Rd.w rfl nd) rfl | exact PRun.eq (v := .iptr (encMk (l.getD ((j : Nat) : Int).toNat default))) (PRun.indexMW tabOk rfl rfl nd rfl nd rfl rfl (by omega)) (congrArg (fun x => AV.iptr (encMk x)) hm) | exact std0 | exact PRun.callW (hme) rfl rfl nd rfl nds | exact std1) (by exact rfl) ?_ | refine AWP.seq ?_ | refine AWP.regionK (fun K' hK => ?_) | (refine AOps.nil (hK _ _ ?_); clear hK K') | refine AOps.e (EStep.boxW rfl rfl rfl rfl rfl True.intro rfl rfl ?_) | refine AOps.e (EStep.storeW tabOk rfl rfl rfl True.intro rfl rfl True.intro rfl rfl rfl rfl rfl rfl rfl ?_) | refine AOps.e (EStep.allocW tabOk rfl rfl rfl rfl rfl rfl ?_) | (refine AWP.condW rfl True.intro (fun hc => ?_) (fun hc => ?_) <;> (first | (simp only [decide_eq_true_eq] at hc) | (simp only [decide_eq_false_iff_not, Int.not_lt, Int.not_le] at hc) | skip)) | refine AWP.block ?_ | refine AWP.exit ?_ | refine AWP.skip ?_ | refine AWP.ret ?_ | refine AWP.drawK2 (by decide +kernel) (by kernel_rfl) (by decide +kernel) rfl (fun K' hK => ?_) | refine AWP.drawL2 (by kernel_rfl) (by decide +kernel) rfl (fun K' hK => ?_) | (refine AQ.nil (hK _ ?_); clear hK K') | refine AQ.nil ?_ | refine AQ.q rfl rfl (fun hg => by first | exact PRun.lookup (ek := ekI) (ev := AV.b) (zv := false) (keyLaw_int (LOk.of (tabOk.get rfl))) (LOk.of (tabOk.get rfl)) (LOk.of (tabOk.get rfl)) rfl rfl (Rd.w rfl nd) (Or.inr ⟨_, rfl, rfl⟩) (Rd.w rfl nd) rfl | exact PRun.eq (v := .iptr (encMk (l.getD ((j : Nat) : Int).toNat default))) (PRun.indexMW tabOk rfl rfl nd rfl nd rfl rfl (by omega)) (congrArg (fun x => AV.iptr (encMk x)) hm) | exact std0 | exact PRun.callW (hme) rfl rfl nd rfl nds | exact std1) (by exact rfl) ?_)
          all_goals (first | (exfalso; omega) | skip)
          · exfalso; simp at hc
          · exact ⟨j + 1, by omega, by omega, ⟨rfl, rfl, rfl, rfl, rfl, rfl, rfl, rfl, rfl, True.intro⟩, rfl⟩
          all_goals (exfalso; rw [hno] at hc; cases hc)
      obtain rfl : j = l.length := by omega
      repeat' (first | refine AOps.q rfl rfl rfl (fun hg => by first | exact std0 | exact std1) (by exact rfl) ?_ | refine AWP.seq ?_ | refine AWP.regionK (fun K' hK => ?_) | (refine AOps.nil (hK _ _ ?_); clear hK K') | refine AOps.e (EStep.boxW rfl rfl rfl rfl rfl True.intro rfl rfl ?_) | refine AOps.e (EStep.storeW tabOk rfl rfl rfl True.intro rfl rfl True.intro rfl rfl rfl rfl rfl rfl rfl ?_) | refine AOps.e (EStep.allocW tabOk rfl rfl rfl rfl rfl rfl ?_) | (refine AWP.condW rfl True.intro (fun hc => ?_) (fun hc => ?_) <;> (first | (simp only [decide_eq_true_eq] at hc) | (simp only [decide_eq_false_iff_not, Int.not_lt, Int.not_le] at hc) | skip)) | refine AWP.block ?_ | refine AWP.exit ?_ | refine AWP.skip ?_ | refine AWP.ret ?_ | refine AWP.drawK2 (by decide +kernel) (by kernel_rfl) (by decide +kernel) rfl (fun K' hK => ?_) | refine AWP.drawL2 (by kernel_rfl) (by decide +kernel) rfl (fun K' hK => ?_) | (refine AQ.nil (hK _ ?_); clear hK K') | refine AQ.nil ?_ | refine AQ.q rfl rfl (fun hg => by first | exact std0 | exact std1) (by exact rfl) ?_)
      all_goals (first | (exfalso; omega) | skip)
      exact ⟨.inr rfl, Ent.b rfl⟩
end Go.Proofs.YthfcafcjkaemiaaGreatDoor.Mk
