/- The law ScoreRefuses by content. -/
import Derived.Test.YtjonnpjbibgjnaaGreatDoorSM
import Derived.Test.YtjonnpjbibgjnaaGreatDoorSU
set_option linter.unusedVariables false
set_option linter.unusedSimpArgs false
namespace Go.Proofs.YtjonnpjbibgjnaaGreatDoor
open Go.Ab
attribute [local irreducible] AWP AOps EStep AQ PStep PRun PCall TCall VCall

def strF (ps : List Part) (n : Note) : Bool := decide (ownX ps n < 0)
def farF (ps : List Part) (n : Note) : Bool := !strF ps n && (decide ((numR2 n.pitch).1 < (numR2 (ps.getD (ownX ps n).toNat default).low).1) || decide ((numR2 n.pitch).1 > (numR2 (ps.getD (ownX ps n).toNat default).high).1))
theorem any_succ {f : Note → Bool} {l : List Note} {k : Nat} (h : k < l.length) : (l.take (k + 1)).any f = ((l.take k).any f || f (l.getD k default)) := by
  rw [take_snoc h, List.any_append]; simp
theorem any_findI {f g : Note → Bool} {l : List Note} (h : ∀ n ∈ l, f n = g n) : l.any f = decide (findI g l ≥ 0) := by
  rw [Bool.eq_iff_iff, decide_eq_true_eq, findI_ex, List.any_eq_true]
  constructor
  · rintro ⟨x, h1, h2⟩; exact ⟨x, h1, by rw [← h x h1]; exact h2⟩
  · rintro ⟨x, h1, h2⟩; exact ⟨x, h1, by rw [h x h1]; exact h2⟩
theorem wrong_any {ps : List Part} (hn : (ps.map (·.id)).Nodup) (l : List Note) : wrongR ps l = if l.any (strF ps) then 22 else if l.any (farF ps) then 20 else 0 := by
  have e1 : l.any (strF ps) = decide (findI (stranger (ownAL ps)) l ≥ 0) := any_findI fun n _ => (stranger_own hn n).symm
  unfold wrongR
  by_cases h1 : findI (stranger (ownAL ps)) l ≥ 0
  · rw [if_pos h1, e1, decide_eq_true h1]; rfl
  · rw [if_neg h1, e1, decide_eq_false h1]
    have hno : ∀ n ∈ l, strF ps n = false := fun n hn2 => by
      cases h : strF ps n with
      | false => rfl
      | true => exact absurd (findI_ex.2 ⟨n, hn2, by rw [stranger_own hn]; exact h⟩) h1
    have e2 : l.any (farF ps) = decide (findI (farN (ownAL ps)) l ≥ 0) := any_findI fun n hn2 => by
      have h3 := hno n hn2
      have h4 : ¬ ownX ps n < 0 := of_decide_eq_false h3
      rw [farN_own hn h4]
      unfold farF inB
      rw [h3, Bool.not_false, Bool.true_and, Bool.not_and, ← decide_not, ← decide_not]
      congr 1 <;> rw [decide_eq_decide] <;> omega
    rw [e2]
    by_cases h2 : findI (farN (ownAL ps)) l ≥ 0
    · rw [if_pos h2, decide_eq_true h2]; rfl
    · rw [if_neg h2, decide_eq_false h2]; rfl
set_option maxHeartbeats 16000000 in
set_option maxRecDepth 40000 in
theorem refuses_law (s : Score) (hz : s.Sized) (l : List Note) (hl : l.length ≤ 9223372036854775807) : PCall Tryz.prog 6 [.agg (encS s), .sl 12 (l.map encN) .no] (.b true) := by
  have hh := head_spec
  have hf := few8_spec s hz
  by_cases hfew : s.few = true
  · have hs := Score.few_small hfew
    have hv := valid8_spec s hs
    rw [hfew] at hf
    have hv7 := r7valid_spec s.bars l (by have := hs.1; omega) hl
    by_cases hg0 : ((l.length : Int) ≤ 60 ∧ scoreOk s = true) ∧ notesOk s.bars l = true
    · obtain ⟨⟨hlen, hok⟩, hn⟩ := hg0
      rw [hok] at hv
      rw [hn] at hv7
      obtain ⟨hver, _, hpp, _, _, _⟩ := score_facts hok
      have c1 := with_spec s hs s.version l (by omega)
      have he : (withR s s.version l).2 = wrongR s.parts l := by
        unfold withR
        rw [hok, hver, hn]
        by_cases h : (wrongR s.parts l != 0) = true
        · rw [if_neg (by decide), if_pos h]
        · rw [if_neg (by decide), if_neg h]
          have : wrongR s.parts l = 0 := by simpa using h
          rw [this]
      rw [wrong_any (partsOk_nodup hpp)] at he
      generalize withR s s.version l = wr at *
      have hpl : s.parts.length ≤ 1000000000 := hs.2.1
      refine PCall.body Tryz.func6 rfl rfl Tryz.ntmps6 rfl rfl ?_
      repeat' (first
        | refine AOps.q rfl rfl rfl (fun hg => by first | exact std0 | exact PRun.callW (hh) rfl rfl nd rfl nds | exact PRun.callW (hf) rfl rfl nd rfl nds | exact PRun.callW (hv) rfl rfl nd rfl nds | exact PRun.callW (hv7) rfl rfl nd rfl nds | exact std1) (by exact rfl) ?_
        | refine AWP.seq ?_
        | refine AWP.regionK (fun K' hK => ?_)
        | (refine AOps.nil (hK _ _ ?_); clear hK K')
        | refine AOps.e (EStep.boxW rfl rfl rfl rfl rfl True.intro rfl rfl ?_)
        | refine AOps.e (EStep.storeW tabOk rfl rfl rfl True.intro rfl rfl True.intro rfl rfl rfl rfl rfl rfl rfl ?_)
        | refine AOps.e (EStep.allocW tabOk rfl rfl rfl rfl rfl rfl ?_)
        | (refine AWP.condW rfl True.intro (fun hc => ?_) (fun hc => ?_) <;> (first | (simp only [decide_eq_true_eq] at hc) | (simp only [decide_eq_false_iff_not, Int.not_lt, Int.not_le] at hc) | skip))
        | refine AWP.block ?_
        | refine AWP.exit ?_
        | refine AWP.skip ?_
        | refine AWP.ret ?_
        | refine AWP.drawK2 (by decide +kernel) (by kernel_rfl) (by decide +kernel) rfl (fun K' hK => ?_)
        | refine AWP.drawL2 (by kernel_rfl) (by decide +kernel) rfl (fun K' hK => ?_)
        | (refine AQ.nil (hK _ ?_); clear hK K')
        | refine AQ.nil ?_
        | refine AQ.q rfl rfl (fun hg => by first | exact std0 | exact PRun.callW (hh) rfl rfl nd rfl nds | exact PRun.callW (hf) rfl rfl nd rfl nds | exact PRun.callW (hv) rfl rfl nd rfl nds | exact PRun.callW (hv7) rfl rfl nd rfl nds | exact std1) (by exact rfl) ?_)
      · exfalso; simp at hc; omega
      refine AWP.loopW (ι := Nat) (fun k => [(1, .sl 12 (l.map encN) .no), (2, .ptr 0 0), (5, .b true), (6, .b ((l.take k).any (strF s.parts))), (7, .b ((l.take k).any (farF s.parts))), (8, .int k)]) (fun _ => [.var (encS s)]) (fun k => k ≤ l.length) (fun k => l.length - k) 0 (Nat.zero_le _) ⟨rfl, rfl, rfl, rfl, rfl, rfl, True.intro⟩ rfl ?_
      intro k hk
      by_cases hlt : k < l.length
      · have a1 := any_succ (f := strF s.parts) hlt
        have a2 := any_succ (f := farF s.parts) hlt
        have hnp := (noteOk_form (all_mem (notesOk_all hn).2.2 hlt)).2
        obtain ⟨n, hnn⟩ : ∃ n, l.getD k default = n := ⟨_, rfl⟩
        rw [hnn] at a1 a2 hnp
        have q0 := own_spec s.parts n (by omega)
        have q1 := sound_spec n.pitch (pitchIn_ok hnp)
        rw [soundR_num hnp] at q1
        have hxl := ownX_lt s.parts n
        by_cases hx : ownX s.parts n < 0
        · have f1 : strF s.parts n = true := decide_eq_true hx
          have f2 : farF s.parts n = false := by unfold farF; rw [f1]; rfl
          rw [f1, Bool.or_true] at a1
          rw [f2, Bool.or_false] at a2
          repeat' (first
            | refine AOps.q rfl rfl rfl (fun hg => by first | exact PRun.eq (v := .iptr (encN (l.getD ((k : Nat) : Int).toNat default))) (PRun.indexMW tabOk rfl rfl nd rfl nd rfl rfl (by omega)) (congrArg (fun x => AV.iptr (encN x)) hnn) | exact std0 | exact PRun.callW (q0) rfl rfl nd rfl nds | exact PRun.callW (q1) rfl rfl nd rfl nds | exact std1) (by exact rfl) ?_
            | refine AWP.seq ?_
            | refine AWP.regionK (fun K' hK => ?_)
            | (refine AOps.nil (hK _ _ ?_); clear hK K')
            | refine AOps.e (EStep.boxW rfl rfl rfl rfl rfl True.intro rfl rfl ?_)
            | refine AOps.e (EStep.storeW tabOk rfl rfl rfl True.intro rfl rfl True.intro rfl rfl rfl rfl rfl rfl rfl ?_)
            | refine AOps.e (EStep.allocW tabOk rfl rfl rfl rfl rfl rfl ?_)
            | (refine AWP.condW rfl True.intro (fun hc => ?_) (fun hc => ?_) <;> (first | (simp only [decide_eq_true_eq] at hc) | (simp only [decide_eq_false_iff_not, Int.not_lt, Int.not_le] at hc) | skip))
            | refine AWP.block ?_
            | refine AWP.exit ?_
            | refine AWP.skip ?_
            | refine AWP.ret ?_
            | refine AWP.drawK2 (by decide +kernel) (by kernel_rfl) (by decide +kernel) rfl (fun K' hK => ?_)
            | refine AWP.drawL2 (by kernel_rfl) (by decide +kernel) rfl (fun K' hK => ?_)
            | (refine AQ.nil (hK _ ?_); clear hK K')
            | refine AQ.nil ?_
            | refine AQ.q rfl rfl (fun hg => by first | exact PRun.eq (v := .iptr (encN (l.getD ((k : Nat) : Int).toNat default))) (PRun.indexMW tabOk rfl rfl nd rfl nd rfl rfl (by omega)) (congrArg (fun x => AV.iptr (encN x)) hnn) | exact std0 | exact PRun.callW (q0) rfl rfl nd rfl nds | exact PRun.callW (q1) rfl rfl nd rfl nds | exact std1) (by exact rfl) ?_)
          all_goals (first | (exfalso; omega) | skip)
          refine ⟨k + 1, by omega, by omega, ⟨rfl, rfl, rfl, ?_, ?_, rfl, True.intro⟩, rfl⟩
          · rw [a1]; rfl
          · rw [a2]; rfl
        · have f1 : strF s.parts n = false := decide_eq_false hx
          have hpo := partOk_pitch (partsOk_all hpp (s.parts.getD (ownX s.parts n).toNat default) (by rw [getD_lt (by omega)]; exact List.getElem_mem (by omega)))
          have q2 := sound_spec _ (pitchIn_ok hpo.1)
          have q3 := sound_spec _ (pitchIn_ok hpo.2)
          rw [soundR_num hpo.1] at q2
          rw [soundR_num hpo.2] at q3
          rw [f1, Bool.or_false] at a1
          have f2 : farF s.parts n = (decide ((numR2 n.pitch).1 < (numR2 (s.parts.getD (ownX s.parts n).toNat default).low).1) || decide ((numR2 n.pitch).1 > (numR2 (s.parts.getD (ownX s.parts n).toNat default).high).1)) := by unfold farF; rw [f1]; rfl
          rw [f2, ← Bool.or_assoc] at a2
          repeat' (first
            | refine AOps.q rfl rfl rfl (fun hg => by first | exact PRun.eq (v := .iptr (encN (l.getD ((k : Nat) : Int).toNat default))) (PRun.indexMW tabOk rfl rfl nd rfl nd rfl rfl (by omega)) (congrArg (fun x => AV.iptr (encN x)) hnn) | exact std0 | exact PRun.callW (q0) rfl rfl nd rfl nds | exact PRun.callW (q1) rfl rfl nd rfl nds | exact PRun.callW (q2) rfl rfl nd rfl nds | exact PRun.callW (q3) rfl rfl nd rfl nds | exact std1) (by exact rfl) ?_
            | refine AWP.seq ?_
            | refine AWP.regionK (fun K' hK => ?_)
            | (refine AOps.nil (hK _ _ ?_); clear hK K')
            | refine AOps.e (EStep.boxW rfl rfl rfl rfl rfl True.intro rfl rfl ?_)
            | refine AOps.e (EStep.storeW tabOk rfl rfl rfl True.intro rfl rfl True.intro rfl rfl rfl rfl rfl rfl rfl ?_)
            | refine AOps.e (EStep.allocW tabOk rfl rfl rfl rfl rfl rfl ?_)
            | (refine AWP.condW rfl True.intro (fun hc => ?_) (fun hc => ?_) <;> (first | (simp only [decide_eq_true_eq] at hc) | (simp only [decide_eq_false_iff_not, Int.not_lt, Int.not_le] at hc) | skip))
            | refine AWP.block ?_
            | refine AWP.exit ?_
            | refine AWP.skip ?_
            | refine AWP.ret ?_
            | refine AWP.drawK2 (by decide +kernel) (by kernel_rfl) (by decide +kernel) rfl (fun K' hK => ?_)
            | refine AWP.drawL2 (by kernel_rfl) (by decide +kernel) rfl (fun K' hK => ?_)
            | (refine AQ.nil (hK _ ?_); clear hK K')
            | refine AQ.nil ?_
            | refine AQ.q rfl rfl (fun hg => by first | exact PRun.eq (v := .iptr (encN (l.getD ((k : Nat) : Int).toNat default))) (PRun.indexMW tabOk rfl rfl nd rfl nd rfl rfl (by omega)) (congrArg (fun x => AV.iptr (encN x)) hnn) | exact std0 | exact PRun.callW (q0) rfl rfl nd rfl nds | exact PRun.callW (q1) rfl rfl nd rfl nds | exact PRun.callW (q2) rfl rfl nd rfl nds | exact PRun.callW (q3) rfl rfl nd rfl nds | exact std1) (by exact rfl) ?_)
          all_goals (first | (exfalso; omega) | skip)
          refine ⟨k + 1, by omega, by omega, ⟨rfl, rfl, rfl, ?_, ?_, rfl, True.intro⟩, rfl⟩
          · rw [a1]; rfl
          · rw [a2]; rfl
      · obtain rfl : k = l.length := by omega
        rw [List.take_length]
        repeat' (first
          | refine AOps.q rfl rfl rfl (fun hg => by first | exact std0 | exact PRun.callW (c1) rfl rfl nd rfl nds | exact std1) (by exact rfl) ?_
          | refine AWP.seq ?_
          | refine AWP.regionK (fun K' hK => ?_)
          | (refine AOps.nil (hK _ _ ?_); clear hK K')
          | refine AOps.e (EStep.boxW rfl rfl rfl rfl rfl True.intro rfl rfl ?_)
          | refine AOps.e (EStep.storeW tabOk rfl rfl rfl True.intro rfl rfl True.intro rfl rfl rfl rfl rfl rfl rfl ?_)
          | refine AOps.e (EStep.allocW tabOk rfl rfl rfl rfl rfl rfl ?_)
          | (refine AWP.condW rfl True.intro (fun hc => ?_) (fun hc => ?_) <;> (first | (simp only [decide_eq_true_eq] at hc) | (simp only [decide_eq_false_iff_not, Int.not_lt, Int.not_le] at hc) | skip))
          | refine AWP.block ?_
          | refine AWP.exit ?_
          | refine AWP.skip ?_
          | refine AWP.ret ?_
          | refine AWP.drawK2 (by decide +kernel) (by kernel_rfl) (by decide +kernel) rfl (fun K' hK => ?_)
          | refine AWP.drawL2 (by kernel_rfl) (by decide +kernel) rfl (fun K' hK => ?_)
          | (refine AQ.nil (hK _ ?_); clear hK K')
          | refine AQ.nil ?_
          | refine AQ.q rfl rfl (fun hg => by first | exact std0 | exact PRun.callW (c1) rfl rfl nd rfl nds | exact std1) (by exact rfl) ?_)
        all_goals (first | (exfalso; omega) | skip)
        · refine ⟨.inr rfl, Ent.b ?_⟩
          have : wr.2 = 22 := by rw [he, if_pos hc]
          rw [this]; rfl
        · rename_i hc0
          refine ⟨.inr rfl, Ent.b ?_⟩
          have : wr.2 = 20 := by rw [he, if_neg (by rw [hc0]; decide), if_pos hc]
          rw [this]; rfl
        · rename_i hc0
          refine ⟨.inr rfl, Ent.b ?_⟩
          have : wr.2 = 0 := by rw [he, if_neg (by rw [hc0]; decide), if_neg (by rw [hc]; decide)]
          rw [this]; rfl
    · refine PCall.body Tryz.func6 rfl rfl Tryz.ntmps6 rfl rfl ?_
      repeat' (first
        | refine AOps.q rfl rfl rfl (fun hg => by first | exact std0 | exact PRun.callW (hh) rfl rfl nd rfl nds | exact PRun.callW (hf) rfl rfl nd rfl nds | exact PRun.callW (hv) rfl rfl nd rfl nds | exact PRun.callW (hv7) rfl rfl nd rfl nds | exact std1) (by exact rfl) ?_
        | refine AWP.seq ?_
        | refine AWP.regionK (fun K' hK => ?_)
        | (refine AOps.nil (hK _ _ ?_); clear hK K')
        | refine AOps.e (EStep.boxW rfl rfl rfl rfl rfl True.intro rfl rfl ?_)
        | refine AOps.e (EStep.storeW tabOk rfl rfl rfl True.intro rfl rfl True.intro rfl rfl rfl rfl rfl rfl rfl ?_)
        | refine AOps.e (EStep.allocW tabOk rfl rfl rfl rfl rfl rfl ?_)
        | (refine AWP.condW rfl True.intro (fun hc => ?_) (fun hc => ?_) <;> (first | (simp only [decide_eq_true_eq] at hc) | (simp only [decide_eq_false_iff_not, Int.not_lt, Int.not_le] at hc) | skip))
        | refine AWP.block ?_
        | refine AWP.exit ?_
        | refine AWP.skip ?_
        | refine AWP.ret ?_
        | (refine AQ.nil (hK _ ?_); clear hK K')
        | refine AQ.nil ?_
        | refine AQ.q rfl rfl (fun hg => by first | exact std0 | exact PRun.callW (hh) rfl rfl nd rfl nds | exact PRun.callW (hf) rfl rfl nd rfl nds | exact PRun.callW (hv) rfl rfl nd rfl nds | exact PRun.callW (hv7) rfl rfl nd rfl nds | exact std1) (by exact rfl) ?_)
      · exact ⟨.inr rfl, Ent.b rfl⟩
      all_goals
        exfalso
        simp at hc
        exact hg0 ⟨⟨by omega, hc.1.2⟩, hc.2⟩
  · have hfew2 : s.few = false := by simpa using hfew
    rw [hfew2] at hf
    refine PCall.body Tryz.func6 rfl rfl Tryz.ntmps6 rfl rfl ?_
    repeat' (first
      | refine AOps.q rfl rfl rfl (fun hg => by first | exact std0 | exact PRun.callW (hh) rfl rfl nd rfl nds | exact PRun.callW (hf) rfl rfl nd rfl nds | exact (Bool.noConfusion (show false = true from hg) : PRun _ _ _ _ (.b false)) | exact std1) (by exact rfl) ?_
      | refine AWP.seq ?_
      | refine AWP.regionK (fun K' hK => ?_)
      | (refine AOps.nil (hK _ _ ?_); clear hK K')
      | refine AOps.e (EStep.boxW rfl rfl rfl rfl rfl True.intro rfl rfl ?_)
      | refine AOps.e (EStep.storeW tabOk rfl rfl rfl True.intro rfl rfl True.intro rfl rfl rfl rfl rfl rfl rfl ?_)
      | refine AOps.e (EStep.allocW tabOk rfl rfl rfl rfl rfl rfl ?_)
      | (refine AWP.condW rfl True.intro (fun hc => ?_) (fun hc => ?_) <;> (first | (simp only [decide_eq_true_eq] at hc) | (simp only [decide_eq_false_iff_not, Int.not_lt, Int.not_le] at hc) | skip))
      | refine AWP.block ?_
      | refine AWP.exit ?_
      | refine AWP.skip ?_
      | refine AWP.ret ?_
      | (refine AQ.nil (hK _ ?_); clear hK K')
      | refine AQ.nil ?_
      | refine AQ.q rfl rfl (fun hg => by first | exact std0 | exact PRun.callW (hh) rfl rfl nd rfl nds | exact PRun.callW (hf) rfl rfl nd rfl nds | exact (Bool.noConfusion (show false = true from hg) : PRun _ _ _ _ (.b false)) | exact std1) (by exact rfl) ?_)
    · exact ⟨.inr rfl, Ent.b rfl⟩
    all_goals (exfalso; simp at hc)
end Go.Proofs.YtjonnpjbibgjnaaGreatDoor
