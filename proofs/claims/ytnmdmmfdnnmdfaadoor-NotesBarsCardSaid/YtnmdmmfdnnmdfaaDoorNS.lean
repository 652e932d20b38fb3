/- The law NotesBars by content: the walk. -/
import Derived.Test.YtnmdmmfdnnmdfaaDoorNR
set_option linter.unusedVariables false
set_option linter.unusedSimpArgs false
namespace Go.Proofs.YtnmdmmfdnnmdfaaDoor.Nt
open Go.Ab Go.Sort
attribute [local irreducible] AWP AOps EStep AQ PStep PRun PCall TCall VCall

theorem AF_len (bars : List Bar) (l : List Note) (k : Nat) (last : Int) : ((AF bars l k last).map encN).length ≤ l.length := by
  rw [List.length_map]
  unfold AF
  have := List.length_filter_le (condB (idxAL bars) k last) (sortN (idxAL bars) l)
  rw [sortN_len] at this; exact this
set_option maxHeartbeats 16000000 in
set_option maxRecDepth 40000 in
theorem bars_law (bars : List Bar) (hb : bars.length ≤ 9223372036854775807) (l : List Note) (hl : l.length ≤ 9223372036854775807) :
    PCall Tryd.prog 6 [.sl 4 (bars.map encB) .no, .sl 12 (l.map encN) .no] (.b true) := by
  have hh := head_spec
  have hu := usable7_spec bars l hb hl
  by_cases hg : ((decide ((bars.length : Int) ≤ 60) && decide ((l.length : Int) ≤ 60)) && notesOk bars l) = true
  · obtain ⟨hb60, hl60, hn⟩ := usable_iff hg
    rw [hg] at hu
    obtain ⟨hbo, hno⟩ := notesOk_bars hn
    have c1 := Sort_spec bars l (by omega) (by omega)
    rw [show sortR bars l = (sortN (idxAL bars) l, 0) from by unfold sortR; rw [if_pos hn]] at c1
    have hz := AF_zero hn
    have hall := AF_all hn
    have hsl := sortN_len (idxAL bars) l
    have cs := sameN_spec (sortN (idxAL bars) l) (sortN (idxAL bars) l) (by omega) (by omega)
    rw [beq_self_eq_true] at cs
    obtain ⟨S, hS⟩ : ∃ S, sortN (idxAL bars) l = S := ⟨_, rfl⟩
    rw [hS] at c1 cs hall
    dsimp only at c1
    refine PCall.body Tryd.func6 rfl rfl Tryd.ntmps6 rfl rfl ?_
    repeat' (first | refine AOps.q rfl rfl rfl (fun hg => by first | exact std0 | exact PRun.callW (hh) rfl rfl nd rfl nds | exact PRun.callW (hu) rfl rfl nd rfl nds | exact PRun.callW (c1) rfl rfl nd rfl nds | exact std1) (by exact rfl) ?_ | refine AWP.seq ?_ | refine AWP.regionK (fun K' hK => ?_) | (refine AOps.nil (hK _ _ ?_); clear hK K') | refine AOps.e (EStep.boxW rfl rfl rfl rfl rfl True.intro rfl rfl ?_) | refine AOps.e (EStep.storeW tabOk rfl rfl rfl True.intro rfl rfl True.intro rfl rfl rfl rfl rfl rfl rfl ?_) | refine AOps.e (EStep.allocW tabOk rfl rfl rfl rfl rfl rfl ?_) | (refine AWP.condW rfl True.intro (fun hc => ?_) (fun hc => ?_) <;> (first | (simp only [decide_eq_true_eq] at hc) | (simp only [decide_eq_false_iff_not, Int.not_lt, Int.not_le] at hc) | skip)) | refine AWP.block ?_ | refine AWP.exit ?_ | refine AWP.skip ?_ | refine AWP.ret ?_ | (refine AQ.nil (hK _ ?_); clear hK K') | refine AQ.nil ?_ | refine AQ.q rfl rfl (fun hg => by first | exact std0 | exact PRun.callW (hh) rfl rfl nd rfl nds | exact PRun.callW (hu) rfl rfl nd rfl nds | exact PRun.callW (c1) rfl rfl nd rfl nds | exact std1) (by exact rfl) ?_)
    all_goals (first | (exfalso; simp at hc; done) | (rename_i h0; exfalso; simp at h0; done) | skip)
    refine AWP.ownNil (d := 8) (sz := 12) rfl ?_
    refine AWP.loopD (ι := Nat) (fun k => [(0, .sl 4 (bars.map encB) .no), (1, .sl 12 (l.map encN) .no), (5, .b true), (6, .sl 12 (S.map encN) .no), (8, .sl 12 ((AF bars l k 0).map encN) (.own 0)), (33, .sl 4 (bars.map encB) .no), (34, .int bars.length), (35, .int k)]) (fun k => [.own 12 ((AF bars l k 0).map encN).length])
      (fun k => k ≤ bars.length) (fun k => bars.length - k) 1 (fun _ => rfl) 0 (Nat.zero_le _) ⟨rfl, rfl, rfl, rfl, (by rw [hz]; try rfl), rfl, rfl, rfl, True.intro⟩ (by rw [hz]; try rfl) (fun _ _ => rfl) (fun _ _ => rfl) ?_
    intro k hk
    by_cases hlt : k < bars.length
    · obtain ⟨b, hbk⟩ : ∃ b, bars.getD k default = b := ⟨_, rfl⟩
      have hbm : b ∈ bars := by rw [← hbk]; exact getD_mem hlt
      repeat' (first | refine AOps.q rfl rfl rfl (fun hg => by first | exact PRun.eq (v := .iptr (encB (bars.getD ((k : Nat) : Int).toNat default))) (PRun.indexMW tabOk rfl rfl nd rfl nd rfl rfl (by omega)) (congrArg (fun x => AV.iptr (encB x)) hbk) | exact std0 | exact std1) (by exact rfl) ?_ | refine AWP.seq ?_ | refine AWP.regionK (fun K' hK => ?_) | (refine AOps.nil (hK _ _ ?_); clear hK K') | refine AOps.e (EStep.boxW rfl rfl rfl rfl rfl True.intro rfl rfl ?_) | refine AOps.e (EStep.storeW tabOk rfl rfl rfl True.intro rfl rfl True.intro rfl rfl rfl rfl rfl rfl rfl ?_) | refine AOps.e (EStep.allocW tabOk rfl rfl rfl rfl rfl rfl ?_) | (refine AWP.condW rfl True.intro (fun hc => ?_) (fun hc => ?_) <;> (first | (simp only [decide_eq_true_eq] at hc) | (simp only [decide_eq_false_iff_not, Int.not_lt, Int.not_le] at hc) | skip)) | refine AWP.block ?_ | refine AWP.exit ?_ | refine AWP.skip ?_ | refine AWP.ret ?_ | (refine AQ.nil (hK _ ?_); clear hK K') | refine AQ.nil ?_ | refine AQ.q rfl rfl (fun hg => by first | exact PRun.eq (v := .iptr (encB (bars.getD ((k : Nat) : Int).toNat default))) (PRun.indexMW tabOk rfl rfl nd rfl nd rfl rfl (by omega)) (congrArg (fun x => AV.iptr (encB x)) hbk) | exact std0 | exact std1) (by exact rfl) ?_)
      all_goals (first | (exfalso; omega) | (exfalso; simp at hc; omega) | skip)
      refine AWP.loopD (ι := Int) (fun last => [(0, .sl 4 (bars.map encB) .no), (1, .sl 12 (l.map encN) .no), (5, .b true), (6, .sl 12 (S.map encN) .no), (8, .sl 12 ((AF bars l k last).map encN) (.own 0)), (10, .ptr 1 0), (11, .int last), (33, .sl 4 (bars.map encB) .no), (34, .int bars.length), (35, .int k)]) (fun last => [.own 12 ((AF bars l k last).map encN).length, .var (encB b)])
        (fun last => 0 ≤ last) (fun last => later l last) 2 (fun _ => rfl) 0 (Int.le_refl _) ⟨rfl, rfl, rfl, rfl, rfl, rfl, rfl, rfl, rfl, rfl, True.intro⟩ rfl (fun _ _ => rfl) (fun _ _ => rfl) ?_
      intro last hla
      repeat' (first | refine AOps.q rfl rfl rfl (fun hg => by first | exact std0 | exact std1) (by exact rfl) ?_ | refine AWP.seq ?_ | refine AWP.regionK (fun K' hK => ?_) | (refine AOps.nil (hK _ _ ?_); clear hK K') | refine AOps.e (EStep.boxW rfl rfl rfl rfl rfl True.intro rfl rfl ?_) | refine AOps.e (EStep.storeW tabOk rfl rfl rfl True.intro rfl rfl True.intro rfl rfl rfl rfl rfl rfl rfl ?_) | refine AOps.e (EStep.allocW tabOk rfl rfl rfl rfl rfl rfl ?_) | (refine AWP.condW rfl True.intro (fun hc => ?_) (fun hc => ?_) <;> (first | (simp only [decide_eq_true_eq] at hc) | (simp only [decide_eq_false_iff_not, Int.not_lt, Int.not_le] at hc) | skip)) | refine AWP.block ?_ | refine AWP.exit ?_ | refine AWP.skip ?_ | refine AWP.ret ?_ | (refine AQ.nil (hK _ ?_); clear hK K') | refine AQ.nil ?_ | refine AQ.q rfl rfl (fun hg => by first | exact std0 | exact std1) (by exact rfl) ?_)
      refine AWP.loopD (ι := Nat) (fun i => [(0, .sl 4 (bars.map encB) .no), (1, .sl 12 (l.map encN) .no), (5, .b true), (6, .sl 12 (S.map encN) .no), (8, .sl 12 ((AF bars l k last).map encN) (.own 0)), (10, .ptr 1 0), (11, .int last), (12, .int ((l.take i).foldl (nextS last) 0)), (33, .sl 4 (bars.map encB) .no), (34, .int bars.length), (35, .int k), (39, .sl 12 (l.map encN) .no), (40, .int l.length), (41, .int i)]) (fun _ => [.own 12 ((AF bars l k last).map encN).length, .var (encB b)])
        (fun i => i ≤ l.length) (fun i => l.length - i) 2 (fun _ => rfl) 0 (Nat.zero_le _) ⟨rfl, rfl, rfl, rfl, rfl, rfl, rfl, rfl, rfl, rfl, rfl, rfl, rfl, rfl, True.intro⟩ rfl (fun _ _ => rfl) (fun _ _ => rfl) ?_
      intro i hi
      by_cases hil : i < l.length
      · obtain ⟨n, hni⟩ : ∃ n, l.getD i default = n := ⟨_, rfl⟩
        have hsuc : (l.take (i + 1)).foldl (nextS last) 0 = nextS last ((l.take i).foldl (nextS last) 0) n := by
          rw [take_snoc' hil, List.foldl_append, hni]; rfl
        generalize (l.take i).foldl (nextS last) 0 = nx at *
        by_cases hcn : (decide (n.part > last) && (nx == 0 || decide (n.part < nx))) = true
        · have e1 : nextS last nx n = n.part := if_pos hcn
          rw [e1] at hsuc
          repeat' (first | refine AOps.q rfl rfl rfl (fun hg => by first | exact PRun.eq (v := .iptr (encN (l.getD ((i : Nat) : Int).toNat default))) (PRun.indexMW tabOk rfl rfl nd rfl nd rfl rfl (by omega)) (congrArg (fun x => AV.iptr (encN x)) hni) | exact std0 | exact std1) (by exact rfl) ?_ | refine AWP.seq ?_ | refine AWP.regionK (fun K' hK => ?_) | (refine AOps.nil (hK _ _ ?_); clear hK K') | refine AOps.e (EStep.boxW rfl rfl rfl rfl rfl True.intro rfl rfl ?_) | refine AOps.e (EStep.storeW tabOk rfl rfl rfl True.intro rfl rfl True.intro rfl rfl rfl rfl rfl rfl rfl ?_) | refine AOps.e (EStep.allocW tabOk rfl rfl rfl rfl rfl rfl ?_) | (refine AWP.condW rfl True.intro (fun hc => ?_) (fun hc => ?_) <;> (first | (simp only [decide_eq_true_eq] at hc) | (simp only [decide_eq_false_iff_not, Int.not_lt, Int.not_le] at hc) | skip)) | refine AWP.block ?_ | refine AWP.exit ?_ | refine AWP.skip ?_ | refine AWP.ret ?_ | refine AWP.drawK2 (by decide +kernel) (by kernel_rfl) (by decide +kernel) rfl (fun K' hK => ?_) | refine AWP.drawL2 (by kernel_rfl) (by decide +kernel) rfl (fun K' hK => ?_) | (refine AQ.nil (hK _ ?_); clear hK K') | refine AQ.nil ?_ | refine AQ.q rfl rfl (fun hg => by first | exact PRun.eq (v := .iptr (encN (l.getD ((i : Nat) : Int).toNat default))) (PRun.indexMW tabOk rfl rfl nd rfl nd rfl rfl (by omega)) (congrArg (fun x => AV.iptr (encN x)) hni) | exact std0 | exact std1) (by exact rfl) ?_)
          all_goals (first | (exfalso; omega) | (exact absurd (hcn.symm.trans hc) (by decide)) | (exfalso; simp at hc; omega) | (rename_i h0; exact absurd (hcn.symm.trans h0) (by decide)) | skip)
          refine ⟨i + 1, hil, by omega, ⟨rfl, rfl, rfl, rfl, rfl, rfl, rfl, ?_, rfl, rfl, rfl, rfl, rfl, rfl, True.intro⟩, rfl⟩
          rw [hsuc]; rfl
        · have e1 : nextS last nx n = nx := if_neg hcn
          have hcn2 : (decide (n.part > last) && (nx == 0 || decide (n.part < nx))) = false := by simpa using hcn
          rw [e1] at hsuc
          repeat' (first | refine AOps.q rfl rfl rfl (fun hg => by first | exact PRun.eq (v := .iptr (encN (l.getD ((i : Nat) : Int).toNat default))) (PRun.indexMW tabOk rfl rfl nd rfl nd rfl rfl (by omega)) (congrArg (fun x => AV.iptr (encN x)) hni) | exact std0 | exact std1) (by exact rfl) ?_ | refine AWP.seq ?_ | refine AWP.regionK (fun K' hK => ?_) | (refine AOps.nil (hK _ _ ?_); clear hK K') | refine AOps.e (EStep.boxW rfl rfl rfl rfl rfl True.intro rfl rfl ?_) | refine AOps.e (EStep.storeW tabOk rfl rfl rfl True.intro rfl rfl True.intro rfl rfl rfl rfl rfl rfl rfl ?_) | refine AOps.e (EStep.allocW tabOk rfl rfl rfl rfl rfl rfl ?_) | (refine AWP.condW rfl True.intro (fun hc => ?_) (fun hc => ?_) <;> (first | (simp only [decide_eq_true_eq] at hc) | (simp only [decide_eq_false_iff_not, Int.not_lt, Int.not_le] at hc) | skip)) | refine AWP.block ?_ | refine AWP.exit ?_ | refine AWP.skip ?_ | refine AWP.ret ?_ | refine AWP.drawK2 (by decide +kernel) (by kernel_rfl) (by decide +kernel) rfl (fun K' hK => ?_) | refine AWP.drawL2 (by kernel_rfl) (by decide +kernel) rfl (fun K' hK => ?_) | (refine AQ.nil (hK _ ?_); clear hK K') | refine AQ.nil ?_ | refine AQ.q rfl rfl (fun hg => by first | exact PRun.eq (v := .iptr (encN (l.getD ((i : Nat) : Int).toNat default))) (PRun.indexMW tabOk rfl rfl nd rfl nd rfl rfl (by omega)) (congrArg (fun x => AV.iptr (encN x)) hni) | exact std0 | exact std1) (by exact rfl) ?_)
          all_goals (first | (exfalso; omega) | (exact absurd (hcn2.symm.trans hc) (by decide)) | (exfalso; simp at hc; omega) | (rename_i h0; exact absurd (hcn2.symm.trans h0) (by decide)) | skip)
          refine ⟨i + 1, hil, by omega, ⟨rfl, rfl, rfl, rfl, rfl, rfl, rfl, ?_, rfl, rfl, rfl, rfl, rfl, rfl, True.intro⟩, rfl⟩
          rw [hsuc]; rfl
      · obtain rfl : i = l.length := by omega
        rw [List.take_length]
        have hin := next_in (l := l) hla (nx := 0) (.inl rfl)
        obtain ⟨n1, n2⟩ := next_spec (l := l) hla (nx := 0) (.inl rfl)
        generalize l.foldl (nextS last) 0 = N at *
        by_cases hN : N = 0
        · obtain ⟨_, hle⟩ := n1 hN
          have hA := AF_bar hn (k := k) hle
          subst hN
          repeat' (first | refine AOps.q rfl rfl rfl (fun hg => by first | exact std0 | exact std1) (by exact rfl) ?_ | refine AWP.seq ?_ | refine AWP.regionK (fun K' hK => ?_) | (refine AOps.nil (hK _ _ ?_); clear hK K') | refine AOps.e (EStep.boxW rfl rfl rfl rfl rfl True.intro rfl rfl ?_) | refine AOps.e (EStep.storeW tabOk rfl rfl rfl True.intro rfl rfl True.intro rfl rfl rfl rfl rfl rfl rfl ?_) | refine AOps.e (EStep.allocW tabOk rfl rfl rfl rfl rfl rfl ?_) | (refine AWP.condW rfl True.intro (fun hc => ?_) (fun hc => ?_) <;> (first | (simp only [decide_eq_true_eq] at hc) | (simp only [decide_eq_false_iff_not, Int.not_lt, Int.not_le] at hc) | skip)) | refine AWP.block ?_ | refine AWP.exit ?_ | refine AWP.skip ?_ | refine AWP.ret ?_ | (refine AQ.nil (hK _ ?_); clear hK K') | refine AQ.nil ?_ | refine AQ.q rfl rfl (fun hg => by first | exact std0 | exact std1) (by exact rfl) ?_)
          all_goals (first | (exfalso; omega) | (exfalso; simp at hc; done) | (exfalso; simp at hc; omega) | (rename_i h0; exfalso; simp at h0; done) | skip)
          refine ⟨k + 1, hlt, by omega, ⟨rfl, rfl, rfl, rfl, ?_, rfl, rfl, rfl, True.intro⟩, ?_⟩
          · rw [hA]; rfl
          · rw [hA]; rfl
        · have hlN : last < N := hin.resolve_left hN
          obtain ⟨b1, _, b3⟩ := n2 hN
          have hex : ∃ n ∈ l, n.part = N := b1.resolve_left hN
          have hNr : 1 ≤ N ∧ N ≤ 1000000 := by
            obtain ⟨n, hnm, rfl⟩ := hex
            exact (notesOk_in hn n hnm).2.1
          have hlat := later_lt hlN hex
          have hA := AF_part hn hlt hlN b3
          rw [hbk, hS] at hA
          have h0 := ofR_some hn hNr hbm
          obtain ⟨_, _, _, ho, _⟩ := ofR_ok h0
          have c2 := of_spec bars l (by omega) (by omega) N b.id
          rw [h0, ho, sort_filter hn, hS] at c2
          have hOl : (S.filter (isOf N b.id)).length ≤ 60 := by
            have := List.length_filter_le (isOf N b.id) S
            rw [← hS, hsl, hS] at this; omega
          have hOm : ∀ m ∈ S.filter (isOf N b.id), isOf N b.id m = true := fun m hm => (List.mem_filter.1 hm).2
          have hAl := AF_len bars l k last
          generalize S.filter (isOf N b.id) = O at *
          have hA2 : (AF bars l k N).map encN = (AF bars l k last).map encN ++ O.map encN := by rw [hA, List.map_append]
          clear n1 n2 hin b1 b3 hA ho h0
          generalize (AF bars l k last).map encN = LA at *
          repeat' (first | refine AOps.q rfl rfl rfl (fun hg => by first | exact std0 | exact PRun.callW (c2) rfl rfl nd rfl nds | exact std1) (by exact rfl) ?_ | refine AWP.seq ?_ | refine AWP.regionK (fun K' hK => ?_) | (refine AOps.nil (hK _ _ ?_); clear hK K') | refine AOps.e (EStep.boxW rfl rfl rfl rfl rfl True.intro rfl rfl ?_) | refine AOps.e (EStep.storeW tabOk rfl rfl rfl True.intro rfl rfl True.intro rfl rfl rfl rfl rfl rfl rfl ?_) | refine AOps.e (EStep.allocW tabOk rfl rfl rfl rfl rfl rfl ?_) | (refine AWP.condW rfl True.intro (fun hc => ?_) (fun hc => ?_) <;> (first | (simp only [decide_eq_true_eq] at hc) | (simp only [decide_eq_false_iff_not, Int.not_lt, Int.not_le] at hc) | skip)) | refine AWP.block ?_ | refine AWP.exit ?_ | refine AWP.skip ?_ | refine AWP.ret ?_ | (refine AQ.nil (hK _ ?_); clear hK K') | refine AQ.nil ?_ | refine AQ.q rfl rfl (fun hg => by first | exact std0 | exact PRun.callW (c2) rfl rfl nd rfl nds | exact std1) (by exact rfl) ?_)
          all_goals (first | (exfalso; omega) | (exfalso; simp at hc; done) | (exfalso; simp at hc; omega) | (rename_i h0; exfalso; simp at h0; omega) | skip)
          refine AWP.loopD (ι := Nat) (fun j => [(0, .sl 4 (bars.map encB) .no), (1, .sl 12 (l.map encN) .no), (5, .b true), (6, .sl 12 (S.map encN) .no), (8, .sl 12 LA (.own 0)), (10, .ptr 1 0), (12, .int N), (15, .sl 12 (O.map encN) .no), (33, .sl 4 (bars.map encB) .no), (34, .int bars.length), (35, .int k), (75, .sl 12 (O.map encN) .no), (76, .int O.length), (77, .int j)]) (fun _ => [.own 12 LA.length, .var (encB b)])
            (fun j => j ≤ O.length) (fun j => O.length - j) 2 (fun _ => rfl) 0 (Nat.zero_le _) ⟨rfl, rfl, rfl, rfl, rfl, rfl, rfl, rfl, rfl, rfl, rfl, rfl, rfl, rfl, True.intro⟩ rfl (fun _ _ => rfl) (fun _ _ => rfl) ?_
          intro j hj
          by_cases hjl : j < O.length
          · obtain ⟨m, hmj⟩ : ∃ m, O.getD j default = m := ⟨_, rfl⟩
            have hof := hOm m (by rw [← hmj]; exact getD_mem hjl)
            have m1 : m.part = N := by unfold isOf at hof; simp only [Bool.and_eq_true, beq_iff_eq] at hof; exact hof.1
            have m2 : m.bar = b.id := by unfold isOf at hof; simp only [Bool.and_eq_true, beq_iff_eq] at hof; exact hof.2
            repeat' (first | refine AOps.q rfl rfl rfl (fun hg => by first | exact PRun.eq (v := .iptr (encN (O.getD ((j : Nat) : Int).toNat default))) (PRun.indexMW tabOk rfl rfl nd rfl nd rfl rfl (by omega)) (congrArg (fun x => AV.iptr (encN x)) hmj) | exact std0 | exact std1) (by exact rfl) ?_ | refine AWP.seq ?_ | refine AWP.regionK (fun K' hK => ?_) | (refine AOps.nil (hK _ _ ?_); clear hK K') | refine AOps.e (EStep.boxW rfl rfl rfl rfl rfl True.intro rfl rfl ?_) | refine AOps.e (EStep.storeW tabOk rfl rfl rfl True.intro rfl rfl True.intro rfl rfl rfl rfl rfl rfl rfl ?_) | refine AOps.e (EStep.allocW tabOk rfl rfl rfl rfl rfl rfl ?_) | (refine AWP.condW rfl True.intro (fun hc => ?_) (fun hc => ?_) <;> (first | (simp only [decide_eq_true_eq] at hc) | (simp only [decide_eq_false_iff_not, Int.not_lt, Int.not_le] at hc) | skip)) | refine AWP.block ?_ | refine AWP.exit ?_ | refine AWP.skip ?_ | refine AWP.ret ?_ | refine AWP.drawK2 (by decide +kernel) (by kernel_rfl) (by decide +kernel) rfl (fun K' hK => ?_) | refine AWP.drawL2 (by kernel_rfl) (by decide +kernel) rfl (fun K' hK => ?_) | (refine AQ.nil (hK _ ?_); clear hK K') | refine AQ.nil ?_ | refine AQ.q rfl rfl (fun hg => by first | exact PRun.eq (v := .iptr (encN (O.getD ((j : Nat) : Int).toNat default))) (PRun.indexMW tabOk rfl rfl nd rfl nd rfl rfl (by omega)) (congrArg (fun x => AV.iptr (encN x)) hmj) | exact std0 | exact std1) (by exact rfl) ?_)
            all_goals (first | (exfalso; omega) | (exfalso; simp at hc; omega) | (rename_i h0; exfalso; simp at h0; omega) | skip)
            exact ⟨j + 1, hjl, by omega, ⟨rfl, rfl, (by show AV.b _ = AV.b true; first | (congr 1; done) | (simp [m1, m2]; done) | (congr 1; simp [m1, m2])), rfl, rfl, rfl, rfl, rfl, rfl, rfl, rfl, rfl, rfl, rfl, True.intro⟩, rfl⟩
          · repeat' (first | refine AOps.q rfl rfl rfl (fun hg => by first | exact std0 | exact std1) (by exact rfl) ?_ | refine AWP.seq ?_ | refine AWP.regionK (fun K' hK => ?_) | (refine AOps.nil (hK _ _ ?_); clear hK K') | refine AOps.e (EStep.boxW rfl rfl rfl rfl rfl True.intro rfl rfl ?_) | refine AOps.e (EStep.storeW tabOk rfl rfl rfl True.intro rfl rfl True.intro rfl rfl rfl rfl rfl rfl rfl ?_) | refine AOps.e (EStep.allocW tabOk rfl rfl rfl rfl rfl rfl ?_) | refine AOps.e (EStep.appendOwn' tabOk rfl rfl rfl (by decide) (Rd.w rfl True.intro) rfl (Rd.w rfl True.intro) (.sl rfl (by first | (intro x hx; rcases List.mem_singleton.1 hx with rfl; rfl) | exact one_encN _)) (LOk.of (tabOk.get rfl)) (LOk.of (tabOk.get rfl)) rfl rfl (by simp only [List.length_map, List.length_append, List.length_cons, List.length_nil, List.length_take, List.length_drop]; omega) (by simp only [List.length_map, List.length_append, List.length_cons, List.length_nil, List.length_take, List.length_drop]; omega) ?_) | (refine AWP.condW rfl True.intro (fun hc => ?_) (fun hc => ?_) <;> (first | (simp only [decide_eq_true_eq] at hc) | (simp only [decide_eq_false_iff_not, Int.not_lt, Int.not_le] at hc) | skip)) | refine AWP.block ?_ | refine AWP.exit ?_ | refine AWP.skip ?_ | refine AWP.ret ?_ | (refine AQ.nil (hK _ ?_); clear hK K') | refine AQ.nil ?_ | refine AQ.q rfl rfl (fun hg => by first | exact std0 | exact std1) (by exact rfl) ?_)
            all_goals (first | (exfalso; omega) | (exfalso; simp at hc; omega) | (rename_i h0; exfalso; simp at h0; omega) | skip)
            refine ⟨N, by omega, hlat, ⟨rfl, rfl, rfl, rfl, ?_, rfl, rfl, rfl, rfl, rfl, True.intro⟩, ?_⟩
            · rw [hA2]; rfl
            · rw [hA2]; rfl
    · obtain rfl : k = bars.length := by omega
      rw [hall]
      repeat' (first | refine AOps.q rfl rfl rfl (fun hg => by first | exact std0 | exact PRun.callW (cs) rfl rfl nd rfl nds | exact std1) (by exact rfl) ?_ | refine AWP.seq ?_ | refine AWP.regionK (fun K' hK => ?_) | (refine AOps.nil (hK _ _ ?_); clear hK K') | refine AOps.e (EStep.boxW rfl rfl rfl rfl rfl True.intro rfl rfl ?_) | refine AOps.e (EStep.storeW tabOk rfl rfl rfl True.intro rfl rfl True.intro rfl rfl rfl rfl rfl rfl rfl ?_) | refine AOps.e (EStep.allocW tabOk rfl rfl rfl rfl rfl rfl ?_) | (refine AWP.condW rfl True.intro (fun hc => ?_) (fun hc => ?_) <;> (first | (simp only [decide_eq_true_eq] at hc) | (simp only [decide_eq_false_iff_not, Int.not_lt, Int.not_le] at hc) | skip)) | refine AWP.block ?_ | refine AWP.exit ?_ | refine AWP.skip ?_ | refine AWP.ret ?_ | refine AWP.drawK2 (by decide +kernel) (by kernel_rfl) (by decide +kernel) rfl (fun K' hK => ?_) | refine AWP.drawL2 (by kernel_rfl) (by decide +kernel) rfl (fun K' hK => ?_) | (refine AQ.nil (hK _ ?_); clear hK K') | refine AQ.nil ?_ | refine AQ.q rfl rfl (fun hg => by first | exact std0 | exact PRun.callW (cs) rfl rfl nd rfl nds | exact std1) (by exact rfl) ?_)
      all_goals (first | (exfalso; omega) | (exfalso; simp at hc; omega) | skip)
      exact ⟨.inr rfl, Ent.b rfl⟩
  · have hg2 : ((decide ((bars.length : Int) ≤ 60) && decide ((l.length : Int) ≤ 60)) && notesOk bars l) = false := by simpa using hg
    rw [hg2] at hu
    refine PCall.body Tryd.func6 rfl rfl Tryd.ntmps6 rfl rfl ?_
    repeat' (first | refine AOps.q rfl rfl rfl (fun hg => by first | exact std0 | exact PRun.callW (hh) rfl rfl nd rfl nds | exact PRun.callW (hu) rfl rfl nd rfl nds | exact std1) (by exact rfl) ?_ | refine AWP.seq ?_ | refine AWP.regionK (fun K' hK => ?_) | (refine AOps.nil (hK _ _ ?_); clear hK K') | refine AOps.e (EStep.boxW rfl rfl rfl rfl rfl True.intro rfl rfl ?_) | refine AOps.e (EStep.storeW tabOk rfl rfl rfl True.intro rfl rfl True.intro rfl rfl rfl rfl rfl rfl rfl ?_) | refine AOps.e (EStep.allocW tabOk rfl rfl rfl rfl rfl rfl ?_) | fail | refine AWP.block ?_ | refine AWP.exit ?_ | refine AWP.skip ?_ | refine AWP.ret ?_ | (refine AQ.nil (hK _ ?_); clear hK K') | refine AQ.nil ?_ | refine AQ.q rfl rfl (fun hg => by first | exact std0 | exact PRun.callW (hh) rfl rfl nd rfl nds | exact PRun.callW (hu) rfl rfl nd rfl nds | exact std1) (by exact rfl) ?_)
    refine AWP.condW rfl True.intro (fun hc => ?_) (fun hc => ?_)
    · repeat' (first | refine AOps.q rfl rfl rfl (fun hg => by first | exact std0 | exact std1) (by exact rfl) ?_ | refine AWP.seq ?_ | refine AWP.regionK (fun K' hK => ?_) | (refine AOps.nil (hK _ _ ?_); clear hK K') | refine AOps.e (EStep.boxW rfl rfl rfl rfl rfl True.intro rfl rfl ?_) | refine AOps.e (EStep.storeW tabOk rfl rfl rfl True.intro rfl rfl True.intro rfl rfl rfl rfl rfl rfl rfl ?_) | refine AOps.e (EStep.allocW tabOk rfl rfl rfl rfl rfl rfl ?_) | (refine AWP.condW rfl True.intro (fun hc => ?_) (fun hc => ?_) <;> (first | (simp only [decide_eq_true_eq] at hc) | (simp only [decide_eq_false_iff_not, Int.not_lt, Int.not_le] at hc) | skip)) | refine AWP.block ?_ | refine AWP.exit ?_ | refine AWP.skip ?_ | refine AWP.ret ?_ | (refine AQ.nil (hK _ ?_); clear hK K') | refine AQ.nil ?_ | refine AQ.q rfl rfl (fun hg => by first | exact std0 | exact std1) (by exact rfl) ?_)
      exact ⟨.inr rfl, Ent.b rfl⟩
    · exfalso; simp at hc
end Go.Proofs.YtnmdmmfdnnmdfaaDoor.Nt
