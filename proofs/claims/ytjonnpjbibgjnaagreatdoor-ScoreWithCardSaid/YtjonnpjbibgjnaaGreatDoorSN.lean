/- The law ScoreWith by content. -/
import Derived.Test.YtjonnpjbibgjnaaGreatDoorSM
import Derived.Test.YtjonnpjbibgjnaaGreatDoorSU
set_option linter.unusedVariables false
set_option linter.unusedSimpArgs false
namespace Go.Ab
/-- The second argument may be told more closely. -/
theorem PCall.argE2 {P : Program} {f : FuncId} {w u v : AV} {l : List AV} {r : AV} (he : Ent u v) (h : PCall P f (w :: v :: l) r) : PCall P f (w :: u :: l) r :=
  ⟨h.1, fun M W vs hm ha => h.2 M W vs hm ⟨ha.1, fun i c hi => by
    match i, hi with
    | 0, hi => exact ha.2 0 c hi
    | 1, hi =>
      have h1 := ha.2 1 u rfl
      simp at hi; subst hi
      exact he _ _ h1
    | i + 2, hi => exact ha.2 (i + 2) c hi⟩⟩
end Go.Ab
namespace Go.Proofs.YtjonnpjbibgjnaaGreatDoor
open Go.Ab
attribute [local irreducible] AWP AOps EStep AQ PStep PRun PCall TCall VCall

def rvN (l : List Note) (k : Nat) : List Note := (l.drop (l.length - k)).reverse
theorem rvN_succ {l : List Note} {k : Nat} (h : k < l.length) : rvN l (k + 1) = rvN l k ++ [l.getD (l.length - 1 - k) default] := by
  unfold rvN
  rw [show l.length - (k + 1) = l.length - 1 - k by omega, List.drop_eq_getElem_cons (by omega : l.length - 1 - k < l.length), List.reverse_cons, getD_lt (by omega), show l.length - 1 - k + 1 = l.length - k by omega]
theorem rvN_len {l : List Note} {k : Nat} (h : k ≤ l.length) : (rvN l k).length = k := by unfold rvN; simp; omega
theorem no_valid : scoreOk noScore = false := by rw [scoreOk_eq]; decide +kernel
set_option maxHeartbeats 16000000 in
set_option maxRecDepth 40000 in
theorem withl_law (s : Score) (hz : s.Sized) (v : Int) (l : List Note) (hl : l.length ≤ 9223372036854775807) : PCall Tryz.prog 4 [.agg (encS s), .int v, .sl 12 (l.map encN) .no] (.b true) := by
  have hh := head_spec
  have hf := few8_spec s hz
  by_cases hfew : s.few = true
  · have hs := Score.few_small hfew
    have hv := valid8_spec s hs
    rw [hfew] at hf
    by_cases hg0 : ((l.length : Int) ≤ 60 ∧ scoreOk s = true) ∧ 1 ≤ v ∧ v ≤ 1000000
    · obtain ⟨⟨hlen, hok⟩, hv1, hv2⟩ := hg0
      rw [hok] at hv
      have hvv : inB v 1 1000000 = true := by simp only [inB, Bool.and_eq_true, decide_eq_true_eq]; omega
      have c1 := with_spec s hs v s.notes.reverse (by rw [List.length_reverse]; exact hs.2.2)
      rw [with_rev hok hvv] at c1
      have c2 := with_spec s hs v l (by omega)
      have hxs : (⟨v, s.bars, s.parts, s.notes⟩ : Score).Small := hs
      have c3 := same8_spec ⟨v, s.bars, s.parts, s.notes⟩ ⟨v, s.bars, s.parts, s.notes⟩ hxs hxs
      rw [beq_self_eq_true] at c3
      have hrl : ∀ k, k ≤ s.notes.length → (rvN s.notes k).length = k := fun k hk => rvN_len hk
      have hrv : rvN s.notes s.notes.length = s.notes.reverse := by unfold rvN; simp
      have hs3 := hs.2.2
      have h00 : rvN s.notes 0 = [] := by unfold rvN; simp
      refine PCall.body Tryz.func4 rfl rfl Tryz.ntmps4 rfl rfl ?_
      repeat' (first
        | refine AOps.q rfl rfl rfl (fun hg => by first | exact std0 | exact PRun.callW (hh) rfl rfl nd rfl nds | exact PRun.callW (hf) rfl rfl nd rfl nds | exact PRun.callW (hv) rfl rfl nd rfl nds | exact std1) (by exact rfl) ?_
        | refine AWP.seq ?_
        | refine AWP.regionK (fun K' hK => ?_)
        | (refine AOps.nil (hK _ _ ?_); clear hK K')
        | refine AOps.e (EStep.boxW rfl rfl rfl rfl rfl True.intro rfl rfl ?_)
        | refine AOps.e (EStep.storeW tabOk rfl rfl rfl True.intro rfl rfl True.intro rfl rfl rfl rfl rfl rfl rfl ?_)
        | refine AOps.e (EStep.allocW tabOk rfl rfl rfl rfl rfl rfl ?_)
        | (refine AWP.condW rfl True.intro (fun hc => ?_) (fun hc => ?_) <;> (first | (simp only [decide_eq_true_eq] at hc) | (simp only [decide_eq_false_iff_not, Int.not_lt, Int.not_le] at hc) | skip))
        | refine AWP.block ?_
        | refine AWP.exit ?_
        | refine AWP.skip ?_
        | refine AWP.ret ?_
        | refine AWP.drawK2 (by decide +kernel) (by kernel_rfl) (by decide +kernel) rfl (fun K' hK => ?_)
        | refine AWP.drawL2 (by kernel_rfl) (by decide +kernel) rfl (fun K' hK => ?_)
        | (refine AQ.nil (hK _ ?_); clear hK K')
        | refine AQ.nil ?_
        | refine AQ.q rfl rfl (fun hg => by first | exact std0 | exact PRun.callW (hh) rfl rfl nd rfl nds | exact PRun.callW (hf) rfl rfl nd rfl nds | exact PRun.callW (hv) rfl rfl nd rfl nds | exact std1) (by exact rfl) ?_)
      · exfalso; simp at hc; omega
      refine AWP.ownNil (d := 8) (sz := 12) rfl ?_
      refine AWP.loopW (ι := Nat × Int) (fun i => [(1, .int v), (2, .sl 12 (l.map encN) .no), (3, .ptr 0 0), (7, .b true), (8, .sl 12 ((rvN s.notes i.1).map encN) (.own 1)), (9, .int i.2)]) (fun i => [.var (encS s), .own 12 ((rvN s.notes i.1).map encN).length]) (fun i => i.1 ≤ s.notes.length ∧ i.2 = (s.notes.length : Int) - 1 - i.1) (fun i => s.notes.length - i.1) (0, (s.notes.length : Int) - 1) ⟨Nat.zero_le _, by simp⟩ ⟨rfl, rfl, rfl, rfl, (by dsimp only; rw [h00]; rfl), rfl, True.intro⟩ (by dsimp only; rw [h00]; rfl) ?_
      rintro ⟨k, i⟩ ⟨hk, hi⟩
      dsimp only at hk hi ⊢
      have hkl := hrl k hk
      by_cases hlt : k < s.notes.length
      · repeat' (first
          | refine AOps.q rfl rfl rfl (fun hg => by first | exact std0 | exact PRun.buildSlW tabOk rfl rfl nds | exact std1) (by exact rfl) ?_
          | refine AWP.seq ?_
          | refine AWP.regionK (fun K' hK => ?_)
          | (refine AOps.nil (hK _ _ ?_); clear hK K')
          | refine AOps.e (EStep.boxW rfl rfl rfl rfl rfl True.intro rfl rfl ?_)
          | refine AOps.e (EStep.storeW tabOk rfl rfl rfl True.intro rfl rfl True.intro rfl rfl rfl rfl rfl rfl rfl ?_)
          | refine AOps.e (EStep.allocW tabOk rfl rfl rfl rfl rfl rfl ?_)
          | refine AOps.e (EStep.appendOwn' tabOk rfl rfl rfl (by decide) (Rd.w rfl True.intro) rfl (Rd.w rfl True.intro) (.sl rfl (by first | (intro x hx; rcases List.mem_singleton.1 hx with rfl; rfl) | exact one_encN _)) (LOk.of (tabOk.get rfl)) (LOk.of (tabOk.get rfl)) rfl rfl (by simp only [List.length_map, List.length_append, List.length_cons, List.length_nil, List.length_take, List.length_drop]; omega) (by simp only [List.length_map, List.length_append, List.length_cons, List.length_nil, List.length_take, List.length_drop]; omega) ?_)
          | (refine AWP.condW rfl True.intro (fun hc => ?_) (fun hc => ?_) <;> (first | (simp only [decide_eq_true_eq] at hc) | (simp only [decide_eq_false_iff_not, Int.not_lt, Int.not_le] at hc) | skip))
          | refine AWP.block ?_
          | refine AWP.exit ?_
          | refine AWP.skip ?_
          | refine AWP.ret ?_
          | refine AWP.drawK2 (by decide +kernel) (by kernel_rfl) (by decide +kernel) rfl (fun K' hK => ?_)
          | refine AWP.drawL2 (by kernel_rfl) (by decide +kernel) rfl (fun K' hK => ?_)
          | (refine AQ.nil (hK _ ?_); clear hK K')
          | refine AQ.nil ?_
          | refine AQ.q rfl rfl (fun hg => by first | exact std0 | exact PRun.buildSlW tabOk rfl rfl nds | exact std1) (by exact rfl) ?_)
        all_goals (first | (exfalso; omega) | skip)
        have e : i.toNat = s.notes.length - 1 - k := by omega
        refine ⟨(k + 1, i - 1), ⟨by simp only; omega, by simp only; omega⟩, by simp only; omega, ⟨rfl, rfl, rfl, rfl, ?_, rfl, True.intro⟩, ?_⟩
        · dsimp only
          rw [rvN_succ hlt, ← e, List.map_append]; rfl
        · dsimp only
          rw [rvN_succ hlt, ← e, List.map_append]; rfl
      · obtain rfl : k = s.notes.length := by omega
        rw [← hrv] at c1
        clear hrl h00
        by_cases hW : (withR s v l).2 = 0
        · obtain ⟨_, _, hn, hw, hWe⟩ := with_good hW
          rw [hWe] at c2
          have hp := sortN_perm (idxAL s.bars) l
          have hys : (⟨v, s.bars, s.parts, sortN (idxAL s.bars) l⟩ : Score).Small := ⟨hs.1, hs.2.1, by show (sortN _ l).length ≤ _; rw [hp.length_eq]; omega⟩
          have c4 := svalid_spec ⟨v, s.bars, s.parts, sortN (idxAL s.bars) l⟩ hys
          rw [sorted_valid hok hvv hn hw] at c4
          have c5 := sameB_spec s.bars s.bars (by have := hs.1; omega) (by have := hs.1; omega)
          have c6 := sameP_spec s.parts s.parts (by have := hs.2.1; omega) (by have := hs.2.1; omega)
          rw [beq_self_eq_true] at c5 c6
          have hTl := hp.length_eq
          have hat : ∀ i, i < l.length → ∃ j : Nat, noteAt (sortN (idxAL s.bars) l) (l.getD i default).id = j ∧ j < (sortN (idxAL s.bars) l).length ∧ (sortN (idxAL s.bars) l).getD j default = l.getD i default := fun i hi => noteAt_perm hp (notesOk_nodup hn) (by rw [getD_lt hi]; exact List.getElem_mem hi)
          clear hp hys hn hw hWe hW
          generalize sortN (idxAL s.bars) l = T at *
          repeat' (first
            | refine AOps.q rfl rfl rfl (fun hg => by first | exact std0 | exact PRun.callW (c1) rfl rfl nd rfl nds | exact PRun.callW (c2) rfl rfl nd rfl nds | exact PRun.callW (c3) rfl rfl nd rfl nds | exact std1) (by exact rfl) ?_
            | refine AWP.seq ?_
            | refine AWP.regionK (fun K' hK => ?_)
            | (refine AOps.nil (hK _ _ ?_); clear hK K')
            | refine AOps.e (EStep.boxW rfl rfl rfl rfl rfl True.intro rfl rfl ?_)
            | refine AOps.e (EStep.storeW tabOk rfl rfl rfl True.intro rfl rfl True.intro rfl rfl rfl rfl rfl rfl rfl ?_)
            | refine AOps.e (EStep.allocW tabOk rfl rfl rfl rfl rfl rfl ?_)
            | (refine AWP.condW rfl True.intro (fun hc => ?_) (fun hc => ?_) <;> (first | (simp only [decide_eq_true_eq] at hc) | (simp only [decide_eq_false_iff_not, Int.not_lt, Int.not_le] at hc) | skip))
            | refine AWP.block ?_
            | refine AWP.exit ?_
            | refine AWP.skip ?_
            | refine AWP.ret ?_
            | refine AWP.drawK2 (by decide +kernel) (by kernel_rfl) (by decide +kernel) rfl (fun K' hK => ?_)
            | refine AWP.drawL2 (by kernel_rfl) (by decide +kernel) rfl (fun K' hK => ?_)
            | (refine AQ.nil (hK _ ?_); clear hK K')
            | refine AQ.nil ?_
            | refine AQ.q rfl rfl (fun hg => by first | exact std0 | exact PRun.callW (c1) rfl rfl nd rfl nds | exact PRun.callW (c2) rfl rfl nd rfl nds | exact PRun.callW (c3) rfl rfl nd rfl nds | exact std1) (by exact rfl) ?_)
          all_goals (first | (exfalso; omega) | skip)
          · exfalso; simp at hc
          · exfalso; simp at hc
          refine AWP.loopW (ι := Nat) (fun i => [(1, .int v), (2, .sl 12 (l.map encN) .no), (3, .ptr 0 0), (7, .b true), (12, .ptr 3 0), (15, .int i)]) (fun _ => [.var (encS s), .own 12 ((rvN s.notes s.notes.length).map encN).length, .var (encS ⟨v, s.bars, s.parts, s.notes⟩), .var (encS ⟨v, s.bars, s.parts, T⟩), .var (encS ⟨v, s.bars, s.parts, s.notes⟩)]) (fun i => i ≤ l.length) (fun i => l.length - i) 0 (Nat.zero_le _) ⟨rfl, rfl, rfl, rfl, rfl, rfl, True.intro⟩ rfl ?_
          intro q hq
          by_cases hql : q < l.length
          · obtain ⟨j, e1, e2, e3⟩ := hat q hql
            have cn := noteAt_spec T (l.getD q default).id (by omega)
            rw [e1] at cn
            have hneq : (decide ((j : Int) < 0) || !(eqNo (l.getD q default) (l.getD q default))) = false := by
              rw [eqNo_eq, decide_eq_false (by omega)]; simp
            repeat' (first
              | refine AOps.q rfl rfl rfl (fun hg => by first | exact PRun.eq (v := .iptr (encN (T.getD ((j : Nat) : Int).toNat default))) (PRun.indexMW tabOk rfl rfl nd rfl nd rfl rfl ⟨Int.natCast_nonneg _, Int.ofNat_lt.2 e2⟩) (congrArg (fun x => AV.iptr (encN x)) e3) | exact std0 | exact PRun.callW (cn) rfl rfl nd rfl nds | exact PRun.neN flN rfl rfl nd rfl nd rfl | exact std1) (by exact rfl) ?_
              | refine AWP.seq ?_
              | refine AWP.regionK (fun K' hK => ?_)
              | (refine AOps.nil (hK _ _ ?_); clear hK K')
              | refine AOps.e (EStep.boxW rfl rfl rfl rfl rfl True.intro rfl rfl ?_)
              | refine AOps.e (EStep.storeW tabOk rfl rfl rfl True.intro rfl rfl True.intro rfl rfl rfl rfl rfl rfl rfl ?_)
              | refine AOps.e (EStep.allocW tabOk rfl rfl rfl rfl rfl rfl ?_)
              | (refine AWP.condW rfl True.intro (fun hc => ?_) (fun hc => ?_) <;> (first | (simp only [decide_eq_true_eq] at hc) | (simp only [decide_eq_false_iff_not, Int.not_lt, Int.not_le] at hc) | skip))
              | refine AWP.block ?_
              | refine AWP.exit ?_
              | refine AWP.skip ?_
              | refine AWP.ret ?_
              | refine AWP.drawK2 (by decide +kernel) (by kernel_rfl) (by decide +kernel) rfl (fun K' hK => ?_)
              | refine AWP.drawL2 (by kernel_rfl) (by decide +kernel) rfl (fun K' hK => ?_)
              | (refine AQ.nil (hK _ ?_); clear hK K')
              | refine AQ.nil ?_
              | refine AQ.q rfl rfl (fun hg => by first | exact PRun.eq (v := .iptr (encN (T.getD ((j : Nat) : Int).toNat default))) (PRun.indexMW tabOk rfl rfl nd rfl nd rfl rfl ⟨Int.natCast_nonneg _, Int.ofNat_lt.2 e2⟩) (congrArg (fun x => AV.iptr (encN x)) e3) | exact std0 | exact PRun.callW (cn) rfl rfl nd rfl nds | exact PRun.neN flN rfl rfl nd rfl nd rfl | exact std1) (by exact rfl) ?_)
            all_goals (first | exact absurd (hneq.symm.trans hc) (by decide) | skip)
            all_goals (first | (exfalso; omega) | skip)
            · exact ⟨q + 1, by omega, by omega, ⟨rfl, rfl, rfl, rfl, rfl, rfl, True.intro⟩, rfl⟩
          · repeat' (first
              | refine AOps.q rfl rfl rfl (fun hg => by first | exact std0 | exact PRun.callW (c4) rfl rfl nd rfl nds | exact PRun.callW (c5) rfl rfl nd rfl nds | exact PRun.callW (c6) rfl rfl nd rfl nds | exact std1) (by exact rfl) ?_
              | refine AWP.seq ?_
              | refine AWP.regionK (fun K' hK => ?_)
              | (refine AOps.nil (hK _ _ ?_); clear hK K')
              | refine AOps.e (EStep.boxW rfl rfl rfl rfl rfl True.intro rfl rfl ?_)
              | refine AOps.e (EStep.storeW tabOk rfl rfl rfl True.intro rfl rfl True.intro rfl rfl rfl rfl rfl rfl rfl ?_)
              | refine AOps.e (EStep.allocW tabOk rfl rfl rfl rfl rfl rfl ?_)
              | (refine AWP.condW rfl True.intro (fun hc => ?_) (fun hc => ?_) <;> (first | (simp only [decide_eq_true_eq] at hc) | (simp only [decide_eq_false_iff_not, Int.not_lt, Int.not_le] at hc) | skip))
              | refine AWP.block ?_
              | refine AWP.exit ?_
              | refine AWP.skip ?_
              | refine AWP.ret ?_
              | refine AWP.drawK2 (by decide +kernel) (by kernel_rfl) (by decide +kernel) rfl (fun K' hK => ?_)
              | refine AWP.drawL2 (by kernel_rfl) (by decide +kernel) rfl (fun K' hK => ?_)
              | (refine AQ.nil (hK _ ?_); clear hK K')
              | refine AQ.nil ?_
              | refine AQ.q rfl rfl (fun hg => by first | exact std0 | exact PRun.callW (c4) rfl rfl nd rfl nds | exact PRun.callW (c5) rfl rfl nd rfl nds | exact PRun.callW (c6) rfl rfl nd rfl nds | exact std1) (by exact rfl) ?_)
            all_goals (first | (exfalso; omega) | skip)
            exact ⟨.inr rfl, Ent.b (by simp [hTl])⟩
        · have hWe : withR s v l = (noScore, (withR s v l).2) := Prod.ext (with_bad hW) rfl
          rw [hWe] at c2
          generalize (withR s v l).2 = e at *
          have nsm : noScore.Small := ⟨Nat.zero_le _, Nat.zero_le _, Nat.zero_le _⟩
          have c4 := PCall.argE2 entNo (same8_spec noScore noScore nsm nsm)
          have c5 := PCall.argE entNo (svalid_spec noScore nsm)
          rw [no_valid] at c5
          rw [beq_self_eq_true] at c4
          repeat' (first
            | refine AOps.q rfl rfl rfl (fun hg => by first | exact std0 | exact PRun.callW (c1) rfl rfl nd rfl nds | exact PRun.callW (c2) rfl rfl nd rfl nds | exact PRun.callW (c3) rfl rfl nd rfl nds | exact PRun.callW (c4) rfl rfl nd rfl nds | exact PRun.callW (c5) rfl rfl nd rfl nds | exact PRun.buildW tabOk rfl rfl nds | exact std1) (by exact rfl) ?_
            | refine AWP.seq ?_
            | refine AWP.regionK (fun K' hK => ?_)
            | (refine AOps.nil (hK _ _ ?_); clear hK K')
            | refine AOps.e (EStep.boxW rfl rfl rfl rfl rfl True.intro rfl rfl ?_)
            | refine AOps.e (EStep.storeW tabOk rfl rfl rfl True.intro rfl rfl True.intro rfl rfl rfl rfl rfl rfl rfl ?_)
            | refine AOps.e (EStep.allocW tabOk rfl rfl rfl rfl rfl rfl ?_)
            | (refine AWP.condW rfl True.intro (fun hc => ?_) (fun hc => ?_) <;> (first | (simp only [decide_eq_true_eq] at hc) | (simp only [decide_eq_false_iff_not, Int.not_lt, Int.not_le] at hc) | skip))
            | refine AWP.block ?_
            | refine AWP.exit ?_
            | refine AWP.skip ?_
            | refine AWP.ret ?_
            | (refine AQ.nil (hK _ ?_); clear hK K')
            | refine AQ.nil ?_
            | refine AQ.q rfl rfl (fun hg => by first | exact std0 | exact PRun.callW (c1) rfl rfl nd rfl nds | exact PRun.callW (c2) rfl rfl nd rfl nds | exact PRun.callW (c3) rfl rfl nd rfl nds | exact PRun.callW (c4) rfl rfl nd rfl nds | exact PRun.callW (c5) rfl rfl nd rfl nds | exact PRun.buildW tabOk rfl rfl nds | exact std1) (by exact rfl) ?_)
          all_goals (first | (exfalso; omega) | skip)
          · exfalso; simp at hc
          · exact ⟨.inr rfl, Ent.b (by simp)⟩
          all_goals (exfalso; simp at hc; exact hW hc)
    · have hs3 := hs.2.2
      refine PCall.body Tryz.func4 rfl rfl Tryz.ntmps4 rfl rfl ?_
      repeat' (first
        | refine AOps.q rfl rfl rfl (fun hg => by first | exact std0 | exact PRun.callW (hh) rfl rfl nd rfl nds | exact PRun.callW (hf) rfl rfl nd rfl nds | exact PRun.callW (hv) rfl rfl nd rfl nds | exact std1) (by exact rfl) ?_
        | refine AWP.seq ?_
        | refine AWP.regionK (fun K' hK => ?_)
        | (refine AOps.nil (hK _ _ ?_); clear hK K')
        | refine AOps.e (EStep.boxW rfl rfl rfl rfl rfl True.intro rfl rfl ?_)
        | refine AOps.e (EStep.storeW tabOk rfl rfl rfl True.intro rfl rfl True.intro rfl rfl rfl rfl rfl rfl rfl ?_)
        | refine AOps.e (EStep.allocW tabOk rfl rfl rfl rfl rfl rfl ?_)
        | (refine AWP.condW rfl True.intro (fun hc => ?_) (fun hc => ?_) <;> (first | (simp only [decide_eq_true_eq] at hc) | (simp only [decide_eq_false_iff_not, Int.not_lt, Int.not_le] at hc) | skip))
        | refine AWP.block ?_
        | refine AWP.exit ?_
        | refine AWP.skip ?_
        | refine AWP.ret ?_
        | (refine AQ.nil (hK _ ?_); clear hK K')
        | refine AQ.nil ?_
        | refine AQ.q rfl rfl (fun hg => by first | exact std0 | exact PRun.callW (hh) rfl rfl nd rfl nds | exact PRun.callW (hf) rfl rfl nd rfl nds | exact PRun.callW (hv) rfl rfl nd rfl nds | exact std1) (by exact rfl) ?_)
      · exact ⟨.inr rfl, Ent.b rfl⟩
      all_goals
        exfalso
        simp at hc
        exact hg0 ⟨⟨by omega, by simpa using hc.1.1.2⟩, by omega, by omega⟩
  · have hfew2 : s.few = false := by simpa using hfew
    rw [hfew2] at hf
    have hz3 := hz.2.2
    refine PCall.body Tryz.func4 rfl rfl Tryz.ntmps4 rfl rfl ?_
    repeat' (first
      | refine AOps.q rfl rfl rfl (fun hg => by first | exact std0 | exact PRun.callW (hh) rfl rfl nd rfl nds | exact PRun.callW (hf) rfl rfl nd rfl nds | exact (Bool.noConfusion (show false = true from hg) : PRun _ _ _ _ (.b false)) | exact std1) (by exact rfl) ?_
      | refine AWP.seq ?_
      | refine AWP.regionK (fun K' hK => ?_)
      | (refine AOps.nil (hK _ _ ?_); clear hK K')
      | refine AOps.e (EStep.boxW rfl rfl rfl rfl rfl True.intro rfl rfl ?_)
      | refine AOps.e (EStep.storeW tabOk rfl rfl rfl True.intro rfl rfl True.intro rfl rfl rfl rfl rfl rfl rfl ?_)
      | refine AOps.e (EStep.allocW tabOk rfl rfl rfl rfl rfl rfl ?_)
      | (refine AWP.condW rfl True.intro (fun hc => ?_) (fun hc => ?_) <;> (first | (simp only [decide_eq_true_eq] at hc) | (simp only [decide_eq_false_iff_not, Int.not_lt, Int.not_le] at hc) | skip))
      | refine AWP.block ?_
      | refine AWP.exit ?_
      | refine AWP.skip ?_
      | refine AWP.ret ?_
      | (refine AQ.nil (hK _ ?_); clear hK K')
      | refine AQ.nil ?_
      | refine AQ.q rfl rfl (fun hg => by first | exact std0 | exact PRun.callW (hh) rfl rfl nd rfl nds | exact PRun.callW (hf) rfl rfl nd rfl nds | exact (Bool.noConfusion (show false = true from hg) : PRun _ _ _ _ (.b false)) | exact std1) (by exact rfl) ?_)
    · exact ⟨.inr rfl, Ent.b rfl⟩
    all_goals (exfalso; simp at hc)
end Go.Proofs.YtjonnpjbibgjnaaGreatDoor
