/- The law ScorePlays by content. -/
import Derived.Test.YtjonnpjbibgjnaaGreatDoorSM
import Derived.Test.YtjonnpjbibgjnaaGreatDoorSU
set_option linter.unusedVariables false
set_option linter.unusedSimpArgs false
namespace Go.Proofs.YtjonnpjbibgjnaaGreatDoor
open Go.Ab
attribute [local irreducible] AWP AOps EStep AQ PStep PRun PCall TCall VCall

theorem plays_at {s : Score} (h : scoreOk s = true) {k : Nat} (hk : k < s.parts.length) : playsR s (s.parts.getD k default).id = (playedL s.notes (s.parts.getD k default), 0) := by
  obtain ⟨_, _, h3, _, _, _⟩ := score_facts h
  unfold playsR
  rw [if_pos h, findI_id (fun b : Part => b.id) (partsOk_nodup h3) hk, if_pos (Int.natCast_nonneg k), Int.toNat_natCast]
theorem part_oct {s : Score} (h : scoreOk s = true) : ∀ p ∈ s.parts, -2 ≤ p.octave ∧ p.octave ≤ 2 := fun p hp => by
  obtain ⟨_, _, h3, _, _, _⟩ := score_facts h
  have h7 := partsOk_all h3 p hp
  unfold partOk partBad partNums at h7
  simp only [Bool.and_eq_true, Bool.not_eq_true', Bool.or_eq_false_iff, Bool.not_eq_false'] at h7
  have := h7.1.1.1.1.1.2
  simp only [inB, Bool.and_eq_true, decide_eq_true_eq] at this
  omega
theorem higher_ok (p : Part) (n : Note) : soundR (playN p n).pitch - soundR n.pitch = 12 * p.octave := by
  unfold playN soundR; dsimp only; omega
set_option maxHeartbeats 16000000 in
set_option maxRecDepth 40000 in
theorem plays_law (s : Score) (hz : s.Sized) : PCall Tryz.prog 3 [.agg (encS s)] (.b true) := by
  have hh := head_spec
  have hf := few8_spec s hz
  by_cases hfew : s.few = true
  · have hs := Score.few_small hfew
    have hv := valid8_spec s hs
    rw [hfew] at hf
    by_cases hok : scoreOk s = true
    · rw [hok] at hv
      obtain ⟨_, _, h3, h4, _, _⟩ := score_facts hok
      have hm := many_all (partsOk_nodup h3) (score_own hok)
      obtain ⟨o1, o2⟩ := scoreOk_oct hok
      obtain ⟨s1, s2, s3⟩ := hs
      refine PCall.body Tryz.func3 rfl rfl Tryz.ntmps3 rfl rfl ?_
      repeat' (first
        | refine AOps.q rfl rfl rfl (fun hg => by first | exact std0 | exact PRun.callW (hh) rfl rfl nd rfl nds | exact PRun.callW (hf) rfl rfl nd rfl nds | exact PRun.callW (hv) rfl rfl nd rfl nds | exact std1) (by exact rfl) ?_
        | refine AWP.seq ?_
        | refine AWP.regionK (fun K' hK => ?_)
        | (refine AOps.nil (hK _ _ ?_); clear hK K')
        | refine AOps.e (EStep.boxW rfl rfl rfl rfl rfl True.intro rfl rfl ?_)
        | refine AOps.e (EStep.storeW tabOk rfl rfl rfl True.intro rfl rfl True.intro rfl rfl rfl rfl rfl rfl rfl ?_)
        | refine AOps.e (EStep.allocW tabOk rfl rfl rfl rfl rfl rfl ?_)
        | (refine AWP.condW rfl True.intro (fun hc => ?_) (fun hc => ?_) <;> (first | (simp only [decide_eq_true_eq] at hc) | (simp only [decide_eq_false_iff_not, Int.not_lt, Int.not_le] at hc) | skip))
        | refine AWP.block ?_
        | refine AWP.exit ?_
        | refine AWP.skip ?_
        | refine AWP.ret ?_
        | refine AWP.drawK2 (by decide +kernel) (by kernel_rfl) (by decide +kernel) rfl (fun K' hK => ?_)
        | refine AWP.drawL2 (by kernel_rfl) (by decide +kernel) rfl (fun K' hK => ?_)
        | (refine AQ.nil (hK _ ?_); clear hK K')
        | refine AQ.nil ?_
        | refine AQ.q rfl rfl (fun hg => by first | exact std0 | exact PRun.callW (hh) rfl rfl nd rfl nds | exact PRun.callW (hf) rfl rfl nd rfl nds | exact PRun.callW (hv) rfl rfl nd rfl nds | exact std1) (by exact rfl) ?_)
      · exfalso; simp at hc
      refine AWP.loopD (ι := Nat) (fun k => [(1, .ptr 0 0), (3, .b true), (4, .int (manyL s.notes (s.parts.take k))), (25, .sl 13 (s.parts.map encP) .no), (26, .int s.parts.length), (27, .int k)]) (fun _ => [.var (encS s)])
        (fun k => k ≤ s.parts.length ∧ manyL s.notes (s.parts.take k) ≤ k * 1000000000) (fun k => s.parts.length - k) 1 (fun _ => rfl) 0 ⟨Nat.zero_le _, by simp [manyL]⟩ ⟨rfl, rfl, rfl, rfl, rfl, rfl, True.intro⟩ rfl (fun _ _ => rfl) (fun _ _ => rfl) ?_
      rintro k ⟨hk, hmb⟩
      by_cases hlt : k < s.parts.length
      · have hmk := manyL_succ s.notes hlt
        have hpl := plays_spec s ⟨s1, s2, s3⟩ (s.parts.getD k default).id
        rw [plays_at hok hlt] at hpl
        have hpo := part_oct hok (s.parts.getD k default) (by rw [getD_lt hlt]; exact List.getElem_mem hlt)
        obtain ⟨p, hp⟩ : ∃ p, s.parts.getD k default = p := ⟨_, rfl⟩
        rw [hp] at hpl hmk hpo
        have hlen := played_len s.notes p
        have hsrc := source_spec p
        repeat' (first
          | refine AOps.q rfl rfl rfl (fun hg => by first | exact PRun.eq (v := .iptr (encP (s.parts.getD ((k : Nat) : Int).toNat default))) (PRun.indexMW tabOk rfl rfl nd rfl nd rfl rfl (by omega)) (congrArg (fun x => AV.iptr (encP x)) hp) | exact std0 | exact PRun.callW (hpl) rfl rfl nd rfl nds | exact std1) (by exact rfl) ?_
          | refine AWP.seq ?_
          | refine AWP.regionK (fun K' hK => ?_)
          | (refine AOps.nil (hK _ _ ?_); clear hK K')
          | refine AOps.e (EStep.boxW rfl rfl rfl rfl rfl True.intro rfl rfl ?_)
          | refine AOps.e (EStep.storeW tabOk rfl rfl rfl True.intro rfl rfl True.intro rfl rfl rfl rfl rfl rfl rfl ?_)
          | refine AOps.e (EStep.allocW tabOk rfl rfl rfl rfl rfl rfl ?_)
          | (refine AWP.condW rfl True.intro (fun hc => ?_) (fun hc => ?_) <;> (first | (simp only [decide_eq_true_eq] at hc) | (simp only [decide_eq_false_iff_not, Int.not_lt, Int.not_le] at hc) | skip))
          | refine AWP.block ?_
          | refine AWP.exit ?_
          | refine AWP.skip ?_
          | refine AWP.ret ?_
          | refine AWP.drawK2 (by decide +kernel) (by kernel_rfl) (by decide +kernel) rfl (fun K' hK => ?_)
          | refine AWP.drawL2 (by kernel_rfl) (by decide +kernel) rfl (fun K' hK => ?_)
          | (refine AQ.nil (hK _ ?_); clear hK K')
          | refine AQ.nil ?_
          | refine AQ.q rfl rfl (fun hg => by first | exact PRun.eq (v := .iptr (encP (s.parts.getD ((k : Nat) : Int).toNat default))) (PRun.indexMW tabOk rfl rfl nd rfl nd rfl rfl (by omega)) (congrArg (fun x => AV.iptr (encP x)) hp) | exact std0 | exact PRun.callW (hpl) rfl rfl nd rfl nds | exact std1) (by exact rfl) ?_)
        all_goals (first | (exfalso; omega) | skip)
        · exfalso; simp at hc
        refine AWP.loopD (ι := Nat) (fun j => [(1, .ptr 0 0), (3, .b true), (4, .int (manyL s.notes (s.parts.take k))), (6, .ptr 1 0), (7, .sl 12 ((playedL s.notes p).map encN) .no), (9, .int (playedL (s.notes.take j) p).length), (25, .sl 13 (s.parts.map encP) .no), (26, .int s.parts.length), (27, .int k), (41, .sl 12 (s.notes.map encN) .no), (42, .int s.notes.length), (43, .int j)]) (fun _ => [.var (encS s), .var (encP p)])
          (fun j => j ≤ s.notes.length) (fun j => s.notes.length - j) 2 (fun _ => rfl) 0 (Nat.zero_le _) ⟨rfl, rfl, rfl, rfl, rfl, rfl, rfl, rfl, rfl, rfl, rfl, rfl, True.intro⟩ rfl (fun _ _ => rfl) (fun _ _ => rfl) ?_
        intro j hj
        by_cases hjl : j < s.notes.length
        · have hno := o1 (s.notes.getD j default) (by rw [getD_lt hjl]; exact List.getElem_mem hjl)
          have hnp := (noteOk_form (all_mem (notesOk_all h4).2.2 hjl)).2
          cases hpart : ((s.notes.getD j default).part == srcOf p) with
          | false =>
            have hcnt := played_no hjl hpart
            repeat' (first
              | refine AOps.q rfl rfl rfl (fun hg => by first | exact std0 | exact PRun.callW (hsrc) rfl rfl nd rfl nds | exact std1) (by exact rfl) ?_
              | refine AWP.seq ?_
              | refine AWP.regionK (fun K' hK => ?_)
              | (refine AOps.nil (hK _ _ ?_); clear hK K')
              | refine AOps.e (EStep.boxW rfl rfl rfl rfl rfl True.intro rfl rfl ?_)
              | refine AOps.e (EStep.storeW tabOk rfl rfl rfl True.intro rfl rfl True.intro rfl rfl rfl rfl rfl rfl rfl ?_)
              | refine AOps.e (EStep.allocW tabOk rfl rfl rfl rfl rfl rfl ?_)
              | (refine AWP.condW rfl True.intro (fun hc => ?_) (fun hc => ?_) <;> (first | (simp only [decide_eq_true_eq] at hc) | (simp only [decide_eq_false_iff_not, Int.not_lt, Int.not_le] at hc) | skip))
              | refine AWP.block ?_
              | refine AWP.exit ?_
              | refine AWP.skip ?_
              | refine AWP.ret ?_
              | refine AWP.drawK2 (by decide +kernel) (by kernel_rfl) (by decide +kernel) rfl (fun K' hK => ?_)
              | refine AWP.drawL2 (by kernel_rfl) (by decide +kernel) rfl (fun K' hK => ?_)
              | (refine AQ.nil (hK _ ?_); clear hK K')
              | refine AQ.nil ?_
              | refine AQ.q rfl rfl (fun hg => by first | exact std0 | exact PRun.callW (hsrc) rfl rfl nd rfl nds | exact std1) (by exact rfl) ?_)
            all_goals (first | (exfalso; omega) | skip)
            · refine ⟨j + 1, by omega, by omega, ⟨rfl, rfl, rfl, rfl, rfl, ?_, rfl, rfl, rfl, rfl, rfl, rfl, True.intro⟩, rfl⟩
              rw [hcnt]; rfl
            all_goals
              exfalso
              first
                | (have h5 := bneF hc; rw [Int.toNat_natCast, hpart] at h5; cases h5)
                | (rename_i hc1; have h5 := bneF hc1; rw [Int.toNat_natCast, hpart] at h5; cases h5)
          | true =>
            obtain ⟨hget, hcnt⟩ := played_yes hjl hpart
            have hcl : (playedL (s.notes.take j) p).length < (playedL s.notes p).length := by
              rcases Nat.lt_or_ge (playedL (s.notes.take j) p).length (playedL s.notes p).length with h | h
              · exact h
              · rw [List.getElem?_eq_none h] at hget; cases hget
            obtain ⟨n, hn⟩ : ∃ n, s.notes.getD j default = n := ⟨_, rfl⟩
            have hX : (playedL s.notes p).getD (playedL (s.notes.take j) p).length default = playN p n := by
              rw [List.getD, hget, hn]; rfl
            rw [hn] at hno hnp hpart
            have q1 := sound_spec n.pitch (pitchIn_ok hnp)
            have hpi := pitchOk_iff.1 hnp
            have q2 := sound_spec (playN p n).pitch (by unfold pitchIn playN; dsimp only; omega)
            have hhi := higher_ok p n
            have hb1 : -100000 ≤ soundR n.pitch ∧ soundR n.pitch ≤ 100000 := by
              have := natR_in (s := n.pitch.step) (by omega)
              unfold soundR; omega
            generalize hsn : soundR n.pitch = sn at *
            generalize hsp : soundR (playN p n).pitch = sp at *
            generalize hcj : (playedL (s.notes.take j) p).length = cj at *
            clear hm o1 o2 hget hno
            repeat' (first
              | refine AOps.q rfl rfl rfl (fun hg => by first | exact PRun.eq (v := .iptr (encN ((playedL s.notes p).getD ((cj : Nat) : Int).toNat default))) (PRun.indexMW tabOk rfl rfl nd rfl nd rfl rfl (by omega)) (congrArg (fun x => AV.iptr (encN x)) hX) | exact PRun.eq (v := .iptr (encN (s.notes.getD ((j : Nat) : Int).toNat default))) (PRun.indexMW tabOk rfl rfl nd rfl nd rfl rfl (by omega)) (congrArg (fun x => AV.iptr (encN x)) hn) | exact std0 | exact PRun.callW (hsrc) rfl rfl nd rfl nds | exact PRun.callW (q1) rfl rfl nd rfl nds | exact PRun.callW (q2) rfl rfl nd rfl nds | exact PRun.eqN flN rfl rfl nd rfl nd rfl | exact std1) (by exact rfl) ?_
              | refine AWP.seq ?_
              | refine AWP.regionK (fun K' hK => ?_)
              | (refine AOps.nil (hK _ _ ?_); clear hK K')
              | refine AOps.e (EStep.boxW rfl rfl rfl rfl rfl True.intro rfl rfl ?_)
              | refine AOps.e (EStep.storeW tabOk rfl rfl rfl True.intro rfl rfl True.intro rfl rfl rfl rfl rfl rfl rfl ?_)
              | refine AOps.e (EStep.allocW tabOk rfl rfl rfl rfl rfl rfl ?_)
              | (refine AWP.condW rfl True.intro (fun hc => ?_) (fun hc => ?_) <;> (first | (simp only [decide_eq_true_eq] at hc) | (simp only [decide_eq_false_iff_not, Int.not_lt, Int.not_le] at hc) | skip))
              | refine AWP.block ?_
              | refine AWP.exit ?_
              | refine AWP.skip ?_
              | refine AWP.ret ?_
              | refine AWP.drawK2 (by decide +kernel) (by kernel_rfl) (by decide +kernel) rfl (fun K' hK => ?_)
              | refine AWP.drawL2 (by kernel_rfl) (by decide +kernel) rfl (fun K' hK => ?_)
              | (refine AQ.nil (hK _ ?_); clear hK K')
              | refine AQ.nil ?_
              | refine AQ.q rfl rfl (fun hg => by first | exact PRun.eq (v := .iptr (encN ((playedL s.notes p).getD ((cj : Nat) : Int).toNat default))) (PRun.indexMW tabOk rfl rfl nd rfl nd rfl rfl (by omega)) (congrArg (fun x => AV.iptr (encN x)) hX) | exact PRun.eq (v := .iptr (encN (s.notes.getD ((j : Nat) : Int).toNat default))) (PRun.indexMW tabOk rfl rfl nd rfl nd rfl rfl (by omega)) (congrArg (fun x => AV.iptr (encN x)) hn) | exact std0 | exact PRun.callW (hsrc) rfl rfl nd rfl nds | exact PRun.callW (q1) rfl rfl nd rfl nds | exact PRun.callW (q2) rfl rfl nd rfl nds | exact PRun.eqN flN rfl rfl nd rfl nd rfl | exact std1) (by exact rfl) ?_)
            all_goals (first | (exfalso; omega) | skip)
            · exfalso
              have h5 := bneT hc
              rw [hpart] at h5
              cases h5
            refine AWP.drawY (fun j => match j with | 0 => [.var (encS s), .var (encP p), .var (encN n), .var (encN (playN p n))] | 1 => [.var (encS s), .var (encP p), .var (encN n), .var (encN { playN p n with pitch := n.pitch })] | _ => [.var (encS s), .var (encP p), .var (encN n), .var (encN n)]) rfl (by kernel_rfl) (by decide +kernel) rfl (by decide +kernel) (fun K' hK => ?_)
            repeat' (first
              | refine YQ.q (a := 0) (b := 0) rfl (by decide +kernel) (by decide +kernel) rfl rfl rfl (fun k h1 h2 hg => by (have hk : k = 0 := (by omega)); (rcases hk with rfl) <;> (first | exact std0 | exact std1)) (by exact rfl) ?_
              | refine YQ.q (a := 0) (b := 1) rfl (by decide +kernel) (by decide +kernel) rfl rfl rfl (fun k h1 h2 hg => by (have hk : k = 0 ∨ k = 1 := (by omega)); (rcases hk with rfl | rfl) <;> (first | exact std0 | exact std1)) (by exact rfl) ?_
              | refine YQ.q (a := 1) (b := 1) rfl (by decide +kernel) (by decide +kernel) rfl rfl rfl (fun k h1 h2 hg => by (have hk : k = 1 := (by omega)); (rcases hk with rfl) <;> (first | exact std0 | exact std1)) (by exact rfl) ?_
              | refine YQ.q (a := 0) (b := 2) rfl (by decide +kernel) (by decide +kernel) rfl rfl rfl (fun k h1 h2 hg => by (have hk : k = 0 ∨ k = 1 ∨ k = 2 := (by omega)); (rcases hk with rfl | rfl | rfl) <;> (first | exact std0 | exact std1)) (by exact rfl) ?_
              | refine YQ.q (a := 1) (b := 2) rfl (by decide +kernel) (by decide +kernel) rfl rfl rfl (fun k h1 h2 hg => by (have hk : k = 1 ∨ k = 2 := (by omega)); (rcases hk with rfl | rfl) <;> (first | exact std0 | exact std1)) (by exact rfl) ?_
              | refine YQ.q (a := 2) (b := 2) rfl (by decide +kernel) (by decide +kernel) rfl rfl rfl (fun k h1 h2 hg => by (have hk : k = 2 := (by omega)); (rcases hk with rfl) <;> (first | exact std0 | exact std1)) (by exact rfl) ?_)
            refine YQ.e (v := .any) (d := none) rfl rfl rfl ?_ ?_
            · intro env' he
              exact EStep.storeW tabOk rfl rfl ((rdv_congr (he 104 (by decide +kernel))).trans rfl) (by rw [rdn_congr (he 104 (by decide +kernel))]; first | exact True.intro | exact rfl) rfl ((rdv_congr (he 101 (by decide +kernel))).trans rfl) (by rw [rdn_congr (he 101 (by decide +kernel))]; first | exact True.intro | exact rfl) rfl rfl rfl rfl rfl rfl rfl ⟨rfl, rfl⟩
            repeat' (first
              | refine YQ.q (a := 0) (b := 0) rfl (by decide +kernel) (by decide +kernel) rfl rfl rfl (fun k h1 h2 hg => by (have hk : k = 0 := (by omega)); (rcases hk with rfl) <;> (first | exact std0 | exact std1)) (by exact rfl) ?_
              | refine YQ.q (a := 0) (b := 1) rfl (by decide +kernel) (by decide +kernel) rfl rfl rfl (fun k h1 h2 hg => by (have hk : k = 0 ∨ k = 1 := (by omega)); (rcases hk with rfl | rfl) <;> (first | exact std0 | exact std1)) (by exact rfl) ?_
              | refine YQ.q (a := 1) (b := 1) rfl (by decide +kernel) (by decide +kernel) rfl rfl rfl (fun k h1 h2 hg => by (have hk : k = 1 := (by omega)); (rcases hk with rfl) <;> (first | exact std0 | exact std1)) (by exact rfl) ?_
              | refine YQ.q (a := 0) (b := 2) rfl (by decide +kernel) (by decide +kernel) rfl rfl rfl (fun k h1 h2 hg => by (have hk : k = 0 ∨ k = 1 ∨ k = 2 := (by omega)); (rcases hk with rfl | rfl | rfl) <;> (first | exact std0 | exact std1)) (by exact rfl) ?_
              | refine YQ.q (a := 1) (b := 2) rfl (by decide +kernel) (by decide +kernel) rfl rfl rfl (fun k h1 h2 hg => by (have hk : k = 1 ∨ k = 2 := (by omega)); (rcases hk with rfl | rfl) <;> (first | exact std0 | exact std1)) (by exact rfl) ?_
              | refine YQ.q (a := 2) (b := 2) rfl (by decide +kernel) (by decide +kernel) rfl rfl rfl (fun k h1 h2 hg => by (have hk : k = 2 := (by omega)); (rcases hk with rfl) <;> (first | exact std0 | exact std1)) (by exact rfl) ?_)
            refine YQ.e (v := .any) (d := none) rfl rfl rfl ?_ ?_
            · intro env' he
              exact EStep.storeW tabOk rfl rfl ((rdv_congr (he 105 (by decide +kernel))).trans rfl) (by rw [rdn_congr (he 105 (by decide +kernel))]; first | exact True.intro | exact rfl) rfl ((rdv_congr (he 103 (by decide +kernel))).trans rfl) (by rw [rdn_congr (he 103 (by decide +kernel))]; first | exact True.intro | exact rfl) rfl rfl rfl rfl rfl rfl rfl ⟨rfl, rfl⟩
            refine YQ.nil (hK _ _ ?_)
            clear hK K'
            show AWP _ _ _ _ _ _
            refine AWP.keep [(1, .ptr 0 0), (3, .b true), (4, .int (manyL s.notes (s.parts.take k))), (6, .ptr 1 0), (7, .sl 12 ((playedL s.notes p).map encN) .no), (9, .int cj), (11, .ptr 2 0), (12, .ptr 3 0), (25, .sl 13 (s.parts.map encP) .no), (26, .int s.parts.length), (27, .int k), (41, .sl 12 (s.notes.map encN) .no), (42, .int s.notes.length), (43, .int j)] ⟨rfl, (by show AV.b _ = AV.b true; congr 1; simp [playN, hhi]), rfl, rfl, rfl, rfl, rfl, rfl, rfl, rfl, rfl, rfl, rfl, rfl, True.intro⟩ ?_
            repeat' (first
              | refine AOps.q rfl rfl rfl (fun hg => by first | exact std0 | exact PRun.eqN flN rfl rfl nd rfl nd rfl | exact std1) (by exact rfl) ?_
              | refine AWP.seq ?_
              | refine AWP.regionK (fun K' hK => ?_)
              | (refine AOps.nil (hK _ _ ?_); clear hK K')
              | refine AOps.e (EStep.boxW rfl rfl rfl rfl rfl True.intro rfl rfl ?_)
              | refine AOps.e (EStep.storeW tabOk rfl rfl rfl True.intro rfl rfl True.intro rfl rfl rfl rfl rfl rfl rfl ?_)
              | refine AOps.e (EStep.allocW tabOk rfl rfl rfl rfl rfl rfl ?_)
              | (refine AWP.condW rfl True.intro (fun hc => ?_) (fun hc => ?_) <;> (first | (simp only [decide_eq_true_eq] at hc) | (simp only [decide_eq_false_iff_not, Int.not_lt, Int.not_le] at hc) | skip))
              | refine AWP.block ?_
              | refine AWP.exit ?_
              | refine AWP.skip ?_
              | refine AWP.ret ?_
              | refine AWP.drawK2 (by decide +kernel) (by kernel_rfl) (by decide +kernel) rfl (fun K' hK => ?_)
              | refine AWP.drawL2 (by kernel_rfl) (by decide +kernel) rfl (fun K' hK => ?_)
              | (refine AQ.nil (hK _ ?_); clear hK K')
              | refine AQ.nil ?_
              | refine AQ.q rfl rfl (fun hg => by first | exact std0 | exact PRun.eqN flN rfl rfl nd rfl nd rfl | exact std1) (by exact rfl) ?_)
            refine ⟨j + 1, by omega, by omega, ⟨rfl, ?_, rfl, rfl, rfl, ?_, rfl, rfl, rfl, rfl, rfl, rfl, True.intro⟩, rfl⟩
            · show AV.b (true && eqNo n n) = AV.b true
              rw [eqNo_eq]; simp
            · rw [hcnt]; rfl
        · obtain rfl : j = s.notes.length := by omega
          rw [List.take_length]
          repeat' (first
            | refine AOps.q rfl rfl rfl (fun hg => by first | exact std0 | exact std1) (by exact rfl) ?_
            | refine AWP.seq ?_
            | refine AWP.regionK (fun K' hK => ?_)
            | (refine AOps.nil (hK _ _ ?_); clear hK K')
            | refine AOps.e (EStep.boxW rfl rfl rfl rfl rfl True.intro rfl rfl ?_)
            | refine AOps.e (EStep.storeW tabOk rfl rfl rfl True.intro rfl rfl True.intro rfl rfl rfl rfl rfl rfl rfl ?_)
            | refine AOps.e (EStep.allocW tabOk rfl rfl rfl rfl rfl rfl ?_)
            | (refine AWP.condW rfl True.intro (fun hc => ?_) (fun hc => ?_) <;> (first | (simp only [decide_eq_true_eq] at hc) | (simp only [decide_eq_false_iff_not, Int.not_lt, Int.not_le] at hc) | skip))
            | refine AWP.block ?_
            | refine AWP.exit ?_
            | refine AWP.skip ?_
            | refine AWP.ret ?_
            | refine AWP.drawK2 (by decide +kernel) (by kernel_rfl) (by decide +kernel) rfl (fun K' hK => ?_)
            | refine AWP.drawL2 (by kernel_rfl) (by decide +kernel) rfl (fun K' hK => ?_)
            | (refine AQ.nil (hK _ ?_); clear hK K')
            | refine AQ.nil ?_
            | refine AQ.q rfl rfl (fun hg => by first | exact std0 | exact std1) (by exact rfl) ?_)
          all_goals (first | (exfalso; omega) | skip)
          · exfalso; simp at hc
          · have hbd : manyL s.notes (s.parts.take (k + 1)) ≤ (k + 1) * 1000000000 := by have h9 := hmk; rw [if_pos hc] at h9; omega
            refine ⟨k + 1, ⟨by omega, hbd⟩, by omega, ⟨rfl, rfl, ?_, rfl, rfl, rfl, True.intro⟩, rfl⟩
            rw [hmk, if_pos hc]; rfl
          · have hneg : ¬ (p.of_ == 0) = true := by rw [hc]; decide
            have hbd : manyL s.notes (s.parts.take (k + 1)) ≤ (k + 1) * 1000000000 := by have h9 := hmk; rw [if_neg hneg] at h9; omega
            refine ⟨k + 1, ⟨by omega, hbd⟩, by omega, ⟨rfl, rfl, ?_, rfl, rfl, rfl, True.intro⟩, rfl⟩
            rw [hmk, if_neg hneg]; rfl
      · obtain rfl : k = s.parts.length := by omega
        rw [List.take_length, hm]
        repeat' (first
          | refine AOps.q rfl rfl rfl (fun hg => by first | exact std0 | exact std1) (by exact rfl) ?_
          | refine AWP.seq ?_
          | refine AWP.regionK (fun K' hK => ?_)
          | (refine AOps.nil (hK _ _ ?_); clear hK K')
          | refine AOps.e (EStep.boxW rfl rfl rfl rfl rfl True.intro rfl rfl ?_)
          | refine AOps.e (EStep.storeW tabOk rfl rfl rfl True.intro rfl rfl True.intro rfl rfl rfl rfl rfl rfl rfl ?_)
          | refine AOps.e (EStep.allocW tabOk rfl rfl rfl rfl rfl rfl ?_)
          | (refine AWP.condW rfl True.intro (fun hc => ?_) (fun hc => ?_) <;> (first | (simp only [decide_eq_true_eq] at hc) | (simp only [decide_eq_false_iff_not, Int.not_lt, Int.not_le] at hc) | skip))
          | refine AWP.block ?_
          | refine AWP.exit ?_
          | refine AWP.skip ?_
          | refine AWP.ret ?_
          | refine AWP.drawK2 (by decide +kernel) (by kernel_rfl) (by decide +kernel) rfl (fun K' hK => ?_)
          | refine AWP.drawL2 (by kernel_rfl) (by decide +kernel) rfl (fun K' hK => ?_)
          | (refine AQ.nil (hK _ ?_); clear hK K')
          | refine AQ.nil ?_
          | refine AQ.q rfl rfl (fun hg => by first | exact std0 | exact std1) (by exact rfl) ?_)
        all_goals (first | (exfalso; omega) | skip)
        exact ⟨.inr rfl, Ent.b (by simp)⟩
    · have hok2 : scoreOk s = false := by simpa using hok
      rw [hok2] at hv
      have hs3 := hs.2.2
      refine PCall.body Tryz.func3 rfl rfl Tryz.ntmps3 rfl rfl ?_
      repeat' (first
        | refine AOps.q rfl rfl rfl (fun hg => by first | exact std0 | exact PRun.callW (hh) rfl rfl nd rfl nds | exact PRun.callW (hf) rfl rfl nd rfl nds | exact PRun.callW (hv) rfl rfl nd rfl nds | exact std1) (by exact rfl) ?_
        | refine AWP.seq ?_
        | refine AWP.regionK (fun K' hK => ?_)
        | (refine AOps.nil (hK _ _ ?_); clear hK K')
        | refine AOps.e (EStep.boxW rfl rfl rfl rfl rfl True.intro rfl rfl ?_)
        | refine AOps.e (EStep.storeW tabOk rfl rfl rfl True.intro rfl rfl True.intro rfl rfl rfl rfl rfl rfl rfl ?_)
        | refine AOps.e (EStep.allocW tabOk rfl rfl rfl rfl rfl rfl ?_)
        | (refine AWP.condW rfl True.intro (fun hc => ?_) (fun hc => ?_) <;> (first | (simp only [decide_eq_true_eq] at hc) | (simp only [decide_eq_false_iff_not, Int.not_lt, Int.not_le] at hc) | skip))
        | refine AWP.block ?_
        | refine AWP.exit ?_
        | refine AWP.skip ?_
        | refine AWP.ret ?_
        | (refine AQ.nil (hK _ ?_); clear hK K')
        | refine AQ.nil ?_
        | refine AQ.q rfl rfl (fun hg => by first | exact std0 | exact PRun.callW (hh) rfl rfl nd rfl nds | exact PRun.callW (hf) rfl rfl nd rfl nds | exact PRun.callW (hv) rfl rfl nd rfl nds | exact std1) (by exact rfl) ?_)
      · exact ⟨.inr rfl, Ent.b rfl⟩
      all_goals (exfalso; simp at hc)
  · have hfew2 : s.few = false := by simpa using hfew
    rw [hfew2] at hf
    refine PCall.body Tryz.func3 rfl rfl Tryz.ntmps3 rfl rfl ?_
    repeat' (first
      | refine AOps.q rfl rfl rfl (fun hg => by first | exact std0 | exact PRun.callW (hh) rfl rfl nd rfl nds | exact PRun.callW (hf) rfl rfl nd rfl nds | exact (Bool.noConfusion (show false = true from hg) : PRun _ _ _ _ (.b false)) | exact std1) (by exact rfl) ?_
      | refine AWP.seq ?_
      | refine AWP.regionK (fun K' hK => ?_)
      | (refine AOps.nil (hK _ _ ?_); clear hK K')
      | refine AOps.e (EStep.boxW rfl rfl rfl rfl rfl True.intro rfl rfl ?_)
      | refine AOps.e (EStep.storeW tabOk rfl rfl rfl True.intro rfl rfl True.intro rfl rfl rfl rfl rfl rfl rfl ?_)
      | refine AOps.e (EStep.allocW tabOk rfl rfl rfl rfl rfl rfl ?_)
      | (refine AWP.condW rfl True.intro (fun hc => ?_) (fun hc => ?_) <;> (first | (simp only [decide_eq_true_eq] at hc) | (simp only [decide_eq_false_iff_not, Int.not_lt, Int.not_le] at hc) | skip))
      | refine AWP.block ?_
      | refine AWP.exit ?_
      | refine AWP.skip ?_
      | refine AWP.ret ?_
      | (refine AQ.nil (hK _ ?_); clear hK K')
      | refine AQ.nil ?_
      | refine AQ.q rfl rfl (fun hg => by first | exact std0 | exact PRun.callW (hh) rfl rfl nd rfl nds | exact PRun.callW (hf) rfl rfl nd rfl nds | exact (Bool.noConfusion (show false = true from hg) : PRun _ _ _ _ (.b false)) | exact std1) (by exact rfl) ?_)
    · exact ⟨.inr rfl, Ent.b rfl⟩
    all_goals (exfalso; simp at hc)
end Go.Proofs.YtjonnpjbibgjnaaGreatDoor
