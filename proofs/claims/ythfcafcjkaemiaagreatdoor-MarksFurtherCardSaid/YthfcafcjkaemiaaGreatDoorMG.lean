/- Contracts by content: lists of marks: which are marks, the best one, whether two are the same; of the reference and of the program. No statement is proved here. -/
import Derived.Test.YthfcafcjkaemiaaGreatDoorMF
import Derived.Test.YthfcafcjkaemiaaGreatDoorSB
import Derived.Test.YthfcafcjkaemiaaGreatDoorCJ
import Derived.Test.YthfcafcjkaemiaaGreatDoorSQ
import Derived.Test.YthfcafcjkaemiaaGreatDoorM6
set_option linter.unusedVariables false
set_option linter.unusedSimpArgs false
namespace Go.Proofs.YthfcafcjkaemiaaGreatDoor.Mk
open Go.Ab Go.Jo
attribute [local irreducible] AWP AOps EStep AQ PStep PRun PCall TCall VCall DStep TDies AWD DCall

def marksOk (l : List Jo.Mark) : Bool := l.all markOk && decide ((l.map (·.id)).Nodup) && decide (l.length ≤ 20000)
def TextsIn (l : List Jo.Mark) : Prop := ∀ m ∈ l, m.text.length ≤ 9223372036854775807
theorem TextsIn.at {l : List Jo.Mark} (h : TextsIn l) {k : Nat} (hk : k < l.length) : (l.getD k default).text.length ≤ 9223372036854775807 := h _ (by rw [getD_lt hk]; exact List.getElem_mem hk)
theorem marksOk_bad {l : List Jo.Mark} {k : Nat} (hk : k < l.length) (h : markOk (l.getD k default) = false) : marksOk l = false := by
  unfold marksOk; rw [all_no hk h]; rfl
theorem marksOk_dup {l : List Jo.Mark} {k : Nat} (hk : k < l.length) (h : (l.getD k default).id ∈ (l.take k).map (·.id)) : marksOk l = false := by
  unfold marksOk; rw [decide_eq_false (not_nodup (fun b : Jo.Mark => b.id) l k hk h)]; simp
set_option maxRecDepth 20000 in
theorem areMarks_spec (l : List Jo.Mark) (hl : l.length ≤ 9223372036854775807) (ht : TextsIn l) : PCall Tryz.prog 96 [.sl 10 (l.map encMk) .no] (.b (marksOk l)) := by
  refine PCall.body Tryz.func96 rfl rfl Tryz.ntmps96 rfl rfl ?_
  repeat' (first
    | refine AOps.q rfl rfl rfl (fun hg => by first | exact std0 | exact std1) (by exact rfl) ?_
    | refine AWP.seq ?_
    | refine AWP.regionK (fun K' hK => ?_)
    | (refine AOps.nil (hK _ _ ?_); clear hK K')
    | refine AOps.e (EStep.boxW rfl rfl rfl rfl rfl True.intro rfl rfl ?_)
    | refine AOps.e (EStep.storeW tabOk rfl rfl rfl True.intro rfl rfl True.intro rfl rfl rfl rfl rfl rfl rfl ?_)
    | refine AOps.e (EStep.allocW tabOk rfl rfl rfl rfl rfl rfl ?_)
    | refine AOps.e (EStep.makeMapW rfl rfl rfl rfl ?_)
    | (refine AWP.condW rfl True.intro (fun hc => ?_) (fun hc => ?_) <;> (first | (simp only [decide_eq_true_eq] at hc) | (simp only [decide_eq_false_iff_not, Int.not_lt, Int.not_le] at hc) | skip))
    | refine AWP.block ?_
    | refine AWP.exit ?_
    | refine AWP.skip ?_
    | refine AWP.ret ?_
    | refine AWP.drawK2 (by decide +kernel) (by kernel_rfl) (by decide +kernel) rfl (fun K' hK => ?_)
    | refine AWP.drawL2 (by kernel_rfl) (by decide +kernel) rfl (fun K' hK => ?_)
    | (refine AQ.nil (hK _ ?_); clear hK K')
    | refine AQ.nil ?_
    | refine AQ.q rfl rfl (fun hg => by first | exact std0 | exact std1) (by exact rfl) ?_)
  refine AWP.loopD (ι := Nat) (fun k => [(0, .sl 10 (l.map encMk) .no), (3, .map 0), (7, .sl 10 (l.map encMk) .no), (8, .int l.length), (9, .int k)]) (fun k => [.map (Go.Ab.encM ekI AV.b (seenAL (·.id) (l.take k)))])
    (fun k => k ≤ l.length ∧ (∀ j, j < k → markOk (l.getD j default) = true) ∧ ((l.take k).map (·.id)).Nodup) (fun k => l.length - k) 1 (fun _ => rfl) 0 ⟨Nat.zero_le _, fun j h => absurd h (by omega), by simp⟩ ⟨rfl, rfl, rfl, rfl, rfl, True.intro⟩ rfl (fun _ _ => rfl) (fun k _ => by simp [okObj, Go.Ab.encM, okRef]) ?_
  rintro k ⟨hk, hall, hnd⟩
  by_cases hlt : k < l.length
  · have hs := lk_seen (fun b : Jo.Mark => b.id) (l.take k) (l.getD k default).id
    have hv := mvalid_spec (l.getD k default) (ht.at hlt)
    repeat' (first
      | refine AOps.q rfl rfl rfl (fun hg => by first | exact std0 | exact PRun.lookup (ek := ekI) (ev := AV.b) (zv := false) (keyLaw_int (LOk.of (tabOk.get rfl))) (LOk.of (tabOk.get rfl)) (LOk.of (tabOk.get rfl)) rfl rfl (Rd.w rfl nd) (Or.inr ⟨_, rfl, rfl⟩) (Rd.w rfl nd) rfl | exact PRun.callW (hv) rfl rfl nd rfl nds | exact std1) (by exact rfl) ?_
      | refine AWP.seq ?_
      | refine AWP.regionK (fun K' hK => ?_)
      | (refine AOps.nil (hK _ _ ?_); clear hK K')
      | refine AOps.e (EStep.boxW rfl rfl rfl rfl rfl True.intro rfl rfl ?_)
      | refine AOps.e (EStep.storeW tabOk rfl rfl rfl True.intro rfl rfl True.intro rfl rfl rfl rfl rfl rfl rfl ?_)
      | refine AOps.e (EStep.allocW tabOk rfl rfl rfl rfl rfl rfl ?_)
      | refine AOps.e (EStep.mapUpd (ek := ekI) (ev := AV.b) (v := true) (keyLaw_int (LOk.of (tabOk.get rfl))) (LOk.of (tabOk.get rfl)) rfl rfl rfl (Rd.w rfl True.intro) rfl (Rd.w rfl True.intro) rfl (Rd.w rfl True.intro) ?_)
      | (refine AWP.condW rfl True.intro (fun hc => ?_) (fun hc => ?_) <;> (first | (simp only [decide_eq_true_eq] at hc) | (simp only [decide_eq_false_iff_not, Int.not_lt, Int.not_le] at hc) | skip))
      | refine AWP.block ?_
      | refine AWP.exit ?_
      | refine AWP.skip ?_
      | refine AWP.ret ?_
      | refine AWP.drawK2 (by decide +kernel) (by kernel_rfl) (by decide +kernel) rfl (fun K' hK => ?_)
      | refine AWP.drawL2 (by kernel_rfl) (by decide +kernel) rfl (fun K' hK => ?_)
      | (refine AQ.nil (hK _ ?_); clear hK K')
      | refine AQ.nil ?_
      | refine AQ.q rfl rfl (fun hg => by first | exact std0 | exact PRun.lookup (ek := ekI) (ev := AV.b) (zv := false) (keyLaw_int (LOk.of (tabOk.get rfl))) (LOk.of (tabOk.get rfl)) (LOk.of (tabOk.get rfl)) rfl rfl (Rd.w rfl nd) (Or.inr ⟨_, rfl, rfl⟩) (Rd.w rfl nd) rfl | exact PRun.callW (hv) rfl rfl nd rfl nds | exact std1) (by exact rfl) ?_)
    · refine ⟨.inr rfl, Ent.b (Eq.symm ?_)⟩
      rw [Int.toNat_natCast] at hc
      rw [hs] at hc
      by_cases hm : (l.getD k default).id ∈ (l.take k).map (fun b => b.id)
      · exact marksOk_dup hlt hm
      · refine marksOk_bad hlt ?_
        rw [decide_eq_false hm] at hc
        simpa using hc
    · rw [Int.toNat_natCast] at hc
      rw [hs] at hc
      simp only [Bool.or_eq_false_iff, Bool.not_eq_false'] at hc
      have hm : (l.getD k default).id ∉ (l.take k).map (fun b => b.id) := of_decide_eq_false hc.1
      refine ⟨k + 1, ⟨by omega, fun j hj => lt_succ_cases hall hc.2 hj, (nodup_succ _ l k hlt).2 ⟨hnd, hm⟩⟩, by omega, ⟨rfl, rfl, rfl, rfl, rfl, True.intro⟩, ?_⟩
      rw [← seen_succ _ l k hlt hm]; rfl
    · exfalso; omega
  · repeat' (first
      | refine AOps.q rfl rfl rfl (fun hg => by first | exact std0 | exact std1) (by exact rfl) ?_
      | refine AWP.seq ?_
      | refine AWP.regionK (fun K' hK => ?_)
      | (refine AOps.nil (hK _ _ ?_); clear hK K')
      | refine AOps.e (EStep.boxW rfl rfl rfl rfl rfl True.intro rfl rfl ?_)
      | refine AOps.e (EStep.storeW tabOk rfl rfl rfl True.intro rfl rfl True.intro rfl rfl rfl rfl rfl rfl rfl ?_)
      | refine AOps.e (EStep.allocW tabOk rfl rfl rfl rfl rfl rfl ?_)
      | (refine AWP.condW rfl True.intro (fun hc => ?_) (fun hc => ?_) <;> (first | (simp only [decide_eq_true_eq] at hc) | (simp only [decide_eq_false_iff_not, Int.not_lt, Int.not_le] at hc) | skip))
      | refine AWP.block ?_
      | refine AWP.exit ?_
      | refine AWP.skip ?_
      | refine AWP.ret ?_
      | refine AWP.drawK2 (by decide +kernel) (by kernel_rfl) (by decide +kernel) rfl (fun K' hK => ?_)
      | refine AWP.drawL2 (by kernel_rfl) (by decide +kernel) rfl (fun K' hK => ?_)
      | (refine AQ.nil (hK _ ?_); clear hK K')
      | refine AQ.nil ?_
      | refine AQ.q rfl rfl (fun hg => by first | exact std0 | exact std1) (by exact rfl) ?_)
    · exfalso; omega
    · refine ⟨.inr rfl, Ent.b ?_⟩
      have htk : l.take k = l := List.take_of_length_le (by omega)
      rw [htk] at hnd
      unfold marksOk
      rw [all_yes fun j hj => hall j (by omega), decide_eq_true hnd]
      rw [Bool.eq_iff_iff]; simp; omega
theorem marks19_spec (l : List Jo.Mark) (hl : l.length ≤ 9223372036854775807) (ht : TextsIn l) : PCall Tryz.prog 97 [.sl 10 (l.map encMk) .no] (.b (marksOk l)) := by
  refine PCall.body Tryz.func97 rfl rfl Tryz.ntmps97 rfl rfl ?_
  repeat' (first
    | refine AOps.q rfl rfl rfl (fun hg => by first | exact std0 | exact std1) (by exact rfl) ?_
    | refine AWP.seq ?_
    | refine AWP.regionK (fun K' hK => ?_)
    | (refine AOps.nil (hK _ _ ?_); clear hK K')
    | refine AOps.e (EStep.boxW rfl rfl rfl rfl rfl True.intro rfl rfl ?_)
    | refine AOps.e (EStep.storeW tabOk rfl rfl rfl True.intro rfl rfl True.intro rfl rfl rfl rfl rfl rfl rfl ?_)
    | refine AOps.e (EStep.allocW tabOk rfl rfl rfl rfl rfl rfl ?_)
    | (refine AWP.condW rfl True.intro (fun hc => ?_) (fun hc => ?_) <;> (first | (simp only [decide_eq_true_eq] at hc) | (simp only [decide_eq_false_iff_not, Int.not_lt, Int.not_le] at hc) | skip))
    | refine AWP.block ?_
    | refine AWP.exit ?_
    | refine AWP.skip ?_
    | refine AWP.ret ?_
    | refine AWP.drawK2 (by decide +kernel) (by kernel_rfl) (by decide +kernel) rfl (fun K' hK => ?_)
    | refine AWP.drawL2 (by kernel_rfl) (by decide +kernel) rfl (fun K' hK => ?_)
    | (refine AQ.nil (hK _ ?_); clear hK K')
    | refine AQ.nil ?_
    | refine AQ.q rfl rfl (fun hg => by first | exact std0 | exact std1) (by exact rfl) ?_)
  · refine ⟨.inr rfl, Ent.b (Eq.symm ?_)⟩
    unfold marksOk
    rw [decide_eq_false (show ¬ l.length ≤ 20000 by omega)]; simp
  have hn : l.length ≤ 20000 := by omega
  clear hc
  refine AWP.loopW (ι := Nat) (fun k => [(0, .sl 10 (l.map encMk) .no), (3, .int k)]) (fun _ => []) (fun k => k ≤ l.length ∧ (∀ j, j < k → markOk (l.getD j default) = true) ∧ ((l.take k).map (·.id)).Nodup) (fun k => l.length - k) 0 ⟨Nat.zero_le _, fun j h => absurd h (by omega), by simp⟩ ⟨rfl, rfl, True.intro⟩ rfl ?_
  rintro k ⟨hk, hall, hnd⟩
  by_cases hlt : k < l.length
  · have hv := valid19_spec (l.getD k default) (ht.at hlt)
    repeat' (first
      | refine AOps.q rfl rfl rfl (fun hg => by first | exact std0 | exact PRun.callW (hv) rfl rfl nd rfl nds | exact std1) (by exact rfl) ?_
      | refine AWP.seq ?_
      | refine AWP.regionK (fun K' hK => ?_)
      | (refine AOps.nil (hK _ _ ?_); clear hK K')
      | refine AOps.e (EStep.boxW rfl rfl rfl rfl rfl True.intro rfl rfl ?_)
      | refine AOps.e (EStep.storeW tabOk rfl rfl rfl True.intro rfl rfl True.intro rfl rfl rfl rfl rfl rfl rfl ?_)
      | refine AOps.e (EStep.allocW tabOk rfl rfl rfl rfl rfl rfl ?_)
      | (refine AWP.condW rfl True.intro (fun hc => ?_) (fun hc => ?_) <;> (first | (simp only [decide_eq_true_eq] at hc) | (simp only [decide_eq_false_iff_not, Int.not_lt, Int.not_le] at hc) | skip))
      | refine AWP.block ?_
      | refine AWP.exit ?_
      | refine AWP.skip ?_
      | refine AWP.ret ?_
      | refine AWP.drawK2 (by decide +kernel) (by kernel_rfl) (by decide +kernel) rfl (fun K' hK => ?_)
      | refine AWP.drawL2 (by kernel_rfl) (by decide +kernel) rfl (fun K' hK => ?_)
      | (refine AQ.nil (hK _ ?_); clear hK K')
      | refine AQ.nil ?_
      | refine AQ.q rfl rfl (fun hg => by first | exact std0 | exact PRun.callW (hv) rfl rfl nd rfl nds | exact std1) (by exact rfl) ?_)
    · exact ⟨.inr rfl, Ent.b (Eq.symm (marksOk_bad hlt (by simpa using hc)))⟩
    · have hbo : markOk (l.getD k default) = true := by simpa using hc
      clear hc hv
      refine AWP.loopW (ι := Nat) (fun j => [(0, .sl 10 (l.map encMk) .no), (3, .int k), (5, .int j)]) (fun _ => []) (fun j => j ≤ k ∧ ∀ i, i < j → (l.getD i default).id ≠ (l.getD k default).id) (fun j => k - j) 0 ⟨Nat.zero_le _, fun j h => absurd h (by omega)⟩ ⟨rfl, rfl, rfl, True.intro⟩ rfl ?_
      rintro j ⟨hj, hne⟩
      by_cases hjk : j < k
      · repeat' (first
          | refine AOps.q rfl rfl rfl (fun hg => by first | exact std0 | exact std1) (by exact rfl) ?_
          | refine AWP.seq ?_
          | refine AWP.regionK (fun K' hK => ?_)
          | (refine AOps.nil (hK _ _ ?_); clear hK K')
          | refine AOps.e (EStep.boxW rfl rfl rfl rfl rfl True.intro rfl rfl ?_)
          | refine AOps.e (EStep.storeW tabOk rfl rfl rfl True.intro rfl rfl True.intro rfl rfl rfl rfl rfl rfl rfl ?_)
          | refine AOps.e (EStep.allocW tabOk rfl rfl rfl rfl rfl rfl ?_)
          | (refine AWP.condW rfl True.intro (fun hc => ?_) (fun hc => ?_) <;> (first | (simp only [decide_eq_true_eq] at hc) | (simp only [decide_eq_false_iff_not, Int.not_lt, Int.not_le] at hc) | skip))
          | refine AWP.block ?_
          | refine AWP.exit ?_
          | refine AWP.skip ?_
          | refine AWP.ret ?_
          | refine AWP.drawK2 (by decide +kernel) (by kernel_rfl) (by decide +kernel) rfl (fun K' hK => ?_)
          | refine AWP.drawL2 (by kernel_rfl) (by decide +kernel) rfl (fun K' hK => ?_)
          | (refine AQ.nil (hK _ ?_); clear hK K')
          | refine AQ.nil ?_
          | refine AQ.q rfl rfl (fun hg => by first | exact std0 | exact std1) (by exact rfl) ?_)
        · refine ⟨.inr rfl, Ent.b (Eq.symm (marksOk_dup hlt ((mem_take (fun b : Jo.Mark => b.id) hk).2 ⟨j, hjk, ?_⟩)))⟩
          simpa using hc
        · exact ⟨j + 1, ⟨by omega, fun i hi => lt_succ_cases hne (by simpa using hc) hi⟩, by omega, ⟨rfl, rfl, rfl, True.intro⟩, rfl⟩
        · exfalso; omega
      · repeat' (first
          | refine AOps.q rfl rfl rfl (fun hg => by first | exact std0 | exact std1) (by exact rfl) ?_
          | refine AWP.seq ?_
          | refine AWP.regionK (fun K' hK => ?_)
          | (refine AOps.nil (hK _ _ ?_); clear hK K')
          | refine AOps.e (EStep.boxW rfl rfl rfl rfl rfl True.intro rfl rfl ?_)
          | refine AOps.e (EStep.storeW tabOk rfl rfl rfl True.intro rfl rfl True.intro rfl rfl rfl rfl rfl rfl rfl ?_)
          | refine AOps.e (EStep.allocW tabOk rfl rfl rfl rfl rfl rfl ?_)
          | (refine AWP.condW rfl True.intro (fun hc => ?_) (fun hc => ?_) <;> (first | (simp only [decide_eq_true_eq] at hc) | (simp only [decide_eq_false_iff_not, Int.not_lt, Int.not_le] at hc) | skip))
          | refine AWP.block ?_
          | refine AWP.exit ?_
          | refine AWP.skip ?_
          | refine AWP.ret ?_
          | refine AWP.drawK2 (by decide +kernel) (by kernel_rfl) (by decide +kernel) rfl (fun K' hK => ?_)
          | refine AWP.drawL2 (by kernel_rfl) (by decide +kernel) rfl (fun K' hK => ?_)
          | (refine AQ.nil (hK _ ?_); clear hK K')
          | refine AQ.nil ?_
          | refine AQ.q rfl rfl (fun hg => by first | exact std0 | exact std1) (by exact rfl) ?_)
        all_goals (first | (exfalso; omega) | skip)
        · refine ⟨k + 1, ⟨by omega, fun i hi => lt_succ_cases hall hbo hi, (nodup_succ _ l k hlt).2 ⟨hnd, fun hm => ?_⟩⟩, by omega, ⟨rfl, rfl, True.intro⟩, rfl⟩
          obtain ⟨i, hi, e⟩ := (mem_take (fun b : Jo.Mark => b.id) hk).1 hm
          exact hne i (by omega) e
    · exfalso; omega
  · repeat' (first
      | refine AOps.q rfl rfl rfl (fun hg => by first | exact std0 | exact std1) (by exact rfl) ?_
      | refine AWP.seq ?_
      | refine AWP.regionK (fun K' hK => ?_)
      | (refine AOps.nil (hK _ _ ?_); clear hK K')
      | refine AOps.e (EStep.boxW rfl rfl rfl rfl rfl True.intro rfl rfl ?_)
      | refine AOps.e (EStep.storeW tabOk rfl rfl rfl True.intro rfl rfl True.intro rfl rfl rfl rfl rfl rfl rfl ?_)
      | refine AOps.e (EStep.allocW tabOk rfl rfl rfl rfl rfl rfl ?_)
      | (refine AWP.condW rfl True.intro (fun hc => ?_) (fun hc => ?_) <;> (first | (simp only [decide_eq_true_eq] at hc) | (simp only [decide_eq_false_iff_not, Int.not_lt, Int.not_le] at hc) | skip))
      | refine AWP.block ?_
      | refine AWP.exit ?_
      | refine AWP.skip ?_
      | refine AWP.ret ?_
      | refine AWP.drawK2 (by decide +kernel) (by kernel_rfl) (by decide +kernel) rfl (fun K' hK => ?_)
      | refine AWP.drawL2 (by kernel_rfl) (by decide +kernel) rfl (fun K' hK => ?_)
      | (refine AQ.nil (hK _ ?_); clear hK K')
      | refine AQ.nil ?_
      | refine AQ.q rfl rfl (fun hg => by first | exact std0 | exact std1) (by exact rfl) ?_)
    · exfalso; omega
    · refine ⟨.inr rfl, Ent.b ?_⟩
      have htk : l.take k = l := List.take_of_length_le (by omega)
      rw [htk] at hnd
      unfold marksOk
      rw [all_yes fun j hj => hall j (by omega), decide_eq_true hnd, decide_eq_true hn]; rfl
theorem few19_spec (l : List Jo.Mark) (hl : l.length ≤ 9223372036854775807) : PCall Tryz.prog 32 [.sl 10 (l.map encMk) .no] (.b (decide ((l.length : Int) ≤ 40))) := by
  refine PCall.body Tryz.func32 rfl rfl Tryz.ntmps32 rfl rfl ?_
  repeat' (first
    | refine AOps.q rfl rfl rfl (fun hg => by first | exact std0 | exact std1) (by exact rfl) ?_
    | refine AWP.seq ?_
    | refine AWP.regionK (fun K' hK => ?_)
    | (refine AOps.nil (hK _ _ ?_); clear hK K')
    | refine AOps.e (EStep.boxW rfl rfl rfl rfl rfl True.intro rfl rfl ?_)
    | refine AOps.e (EStep.storeW tabOk rfl rfl rfl True.intro rfl rfl True.intro rfl rfl rfl rfl rfl rfl rfl ?_)
    | refine AOps.e (EStep.allocW tabOk rfl rfl rfl rfl rfl rfl ?_)
    | (refine AWP.condW rfl True.intro (fun hc => ?_) (fun hc => ?_) <;> (first | (simp only [decide_eq_true_eq] at hc) | (simp only [decide_eq_false_iff_not, Int.not_lt, Int.not_le] at hc) | skip))
    | refine AWP.block ?_
    | refine AWP.exit ?_
    | refine AWP.skip ?_
    | refine AWP.ret ?_
    | refine AWP.drawK2 (by decide +kernel) (by kernel_rfl) (by decide +kernel) rfl (fun K' hK => ?_)
    | refine AWP.drawL2 (by kernel_rfl) (by decide +kernel) rfl (fun K' hK => ?_)
    | (refine AQ.nil (hK _ ?_); clear hK K')
    | refine AQ.nil ?_
    | refine AQ.q rfl rfl (fun hg => by first | exact std0 | exact std1) (by exact rfl) ?_)
  exact ⟨.inr rfl, Ent.b rfl⟩
theorem same19_spec (a b : List Jo.Mark) (ha : a.length ≤ 9223372036854775807) (hb : b.length ≤ 9223372036854775807) : PCall Tryz.prog 41 [.sl 10 (a.map encMk) .no, .sl 10 (b.map encMk) .no] (.b (a == b)) := by
  refine PCall.body Tryz.func41 rfl rfl Tryz.ntmps41 rfl rfl ?_
  repeat' (first
    | refine AOps.q rfl rfl rfl (fun hg => by first | exact std0 | exact std1) (by exact rfl) ?_
    | refine AWP.seq ?_
    | refine AWP.regionK (fun K' hK => ?_)
    | (refine AOps.nil (hK _ _ ?_); clear hK K')
    | refine AOps.e (EStep.boxW rfl rfl rfl rfl rfl True.intro rfl rfl ?_)
    | refine AOps.e (EStep.storeW tabOk rfl rfl rfl True.intro rfl rfl True.intro rfl rfl rfl rfl rfl rfl rfl ?_)
    | refine AOps.e (EStep.allocW tabOk rfl rfl rfl rfl rfl rfl ?_)
    | (refine AWP.condW rfl True.intro (fun hc => ?_) (fun hc => ?_) <;> (first | (simp only [decide_eq_true_eq] at hc) | (simp only [decide_eq_false_iff_not, Int.not_lt, Int.not_le] at hc) | skip))
    | refine AWP.block ?_
    | refine AWP.exit ?_
    | refine AWP.skip ?_
    | refine AWP.ret ?_
    | refine AWP.drawK2 (by decide +kernel) (by kernel_rfl) (by decide +kernel) rfl (fun K' hK => ?_)
    | refine AWP.drawL2 (by kernel_rfl) (by decide +kernel) rfl (fun K' hK => ?_)
    | (refine AQ.nil (hK _ ?_); clear hK K')
    | refine AQ.nil ?_
    | refine AQ.q rfl rfl (fun hg => by first | exact std0 | exact std1) (by exact rfl) ?_)
  · refine ⟨.inr rfl, Ent.b (Eq.symm ?_)⟩
    rw [beq_eq_false_iff_ne]
    intro h; subst h; simp at hc
  have hlen : a.length = b.length := by have h9 := hc; simp at h9; omega
  clear hc
  refine AWP.loopW (ι := Nat) (fun k => [(0, .sl 10 (a.map encMk) .no), (1, .sl 10 (b.map encMk) .no), (5, .int k)]) (fun _ => []) (fun k => k ≤ a.length ∧ ∀ j, j < k → a.getD j default = b.getD j default) (fun k => a.length - k) 0 ⟨Nat.zero_le _, fun j h => absurd h (by omega)⟩ ⟨rfl, rfl, rfl, True.intro⟩ rfl ?_
  rintro k ⟨hk, hall⟩
  by_cases hlt : k < a.length
  · repeat' (first
      | refine AOps.q rfl rfl rfl (fun hg => by first | exact std0 | exact PRun.neN flM rfl rfl nd rfl nd rfl | exact std1) (by exact rfl) ?_
      | refine AWP.seq ?_
      | refine AWP.regionK (fun K' hK => ?_)
      | (refine AOps.nil (hK _ _ ?_); clear hK K')
      | refine AOps.e (EStep.boxW rfl rfl rfl rfl rfl True.intro rfl rfl ?_)
      | refine AOps.e (EStep.storeW tabOk rfl rfl rfl True.intro rfl rfl True.intro rfl rfl rfl rfl rfl rfl rfl ?_)
      | refine AOps.e (EStep.allocW tabOk rfl rfl rfl rfl rfl rfl ?_)
      | (refine AWP.condW rfl True.intro (fun hc => ?_) (fun hc => ?_) <;> (first | (simp only [decide_eq_true_eq] at hc) | (simp only [decide_eq_false_iff_not, Int.not_lt, Int.not_le] at hc) | skip))
      | refine AWP.block ?_
      | refine AWP.exit ?_
      | refine AWP.skip ?_
      | refine AWP.ret ?_
      | refine AWP.drawK2 (by decide +kernel) (by kernel_rfl) (by decide +kernel) rfl (fun K' hK => ?_)
      | refine AWP.drawL2 (by kernel_rfl) (by decide +kernel) rfl (fun K' hK => ?_)
      | (refine AQ.nil (hK _ ?_); clear hK K')
      | refine AQ.nil ?_
      | refine AQ.q rfl rfl (fun hg => by first | exact std0 | exact PRun.neN flM rfl rfl nd rfl nd rfl | exact std1) (by exact rfl) ?_)
    · refine ⟨.inr rfl, Ent.b (Eq.symm (list_ne_at (k := k) ?_))⟩
      replace hc : (!eqM (a.getD ((k : Nat) : Int).toNat default) (b.getD ((k : Nat) : Int).toNat default)) = true := hc
      rw [eqM_eq, Int.toNat_natCast] at hc
      simpa using hc
    · replace hc : (!eqM (a.getD ((k : Nat) : Int).toNat default) (b.getD ((k : Nat) : Int).toNat default)) = false := hc
      rw [eqM_eq, Int.toNat_natCast] at hc
      exact ⟨k + 1, ⟨by omega, fun j hj => lt_succ_cases hall (by simpa using hc) hj⟩, by omega, ⟨rfl, rfl, rfl, True.intro⟩, rfl⟩
    · exfalso; omega
  · repeat' (first
      | refine AOps.q rfl rfl rfl (fun hg => by first | exact std0 | exact std1) (by exact rfl) ?_
      | refine AWP.seq ?_
      | refine AWP.regionK (fun K' hK => ?_)
      | (refine AOps.nil (hK _ _ ?_); clear hK K')
      | refine AOps.e (EStep.boxW rfl rfl rfl rfl rfl True.intro rfl rfl ?_)
      | refine AOps.e (EStep.storeW tabOk rfl rfl rfl True.intro rfl rfl True.intro rfl rfl rfl rfl rfl rfl rfl ?_)
      | refine AOps.e (EStep.allocW tabOk rfl rfl rfl rfl rfl rfl ?_)
      | (refine AWP.condW rfl True.intro (fun hc => ?_) (fun hc => ?_) <;> (first | (simp only [decide_eq_true_eq] at hc) | (simp only [decide_eq_false_iff_not, Int.not_lt, Int.not_le] at hc) | skip))
      | refine AWP.block ?_
      | refine AWP.exit ?_
      | refine AWP.skip ?_
      | refine AWP.ret ?_
      | refine AWP.drawK2 (by decide +kernel) (by kernel_rfl) (by decide +kernel) rfl (fun K' hK => ?_)
      | refine AWP.drawL2 (by kernel_rfl) (by decide +kernel) rfl (fun K' hK => ?_)
      | (refine AQ.nil (hK _ ?_); clear hK K')
      | refine AQ.nil ?_
      | refine AQ.q rfl rfl (fun hg => by first | exact std0 | exact std1) (by exact rfl) ?_)
    all_goals (first | (exfalso; omega) | skip)
    exact ⟨.inr rfl, Ent.b (Eq.symm (list_eq_all hlen fun j hj => hall j (by omega)))⟩
end Go.Proofs.YthfcafcjkaemiaaGreatDoor.Mk
namespace Go.Proofs.YthfcafcjkaemiaaGreatDoor.Mk
open Go.Ab Go.Jo
attribute [local irreducible] AWP AOps EStep AQ PStep PRun PCall TCall VCall DStep TDies AWD DCall

/-- A mark of this version and kind, at this note, that is meant for this reader. -/
def okFor (v note kind sec : Int) (r : Rdr) (m : Jo.Mark) : Bool := !(((m.version != v || m.note != note) || m.kind != kind) || !forM m sec r)
/-- The index of the best one among the first k. -/
def bestN (q : Jo.Mark → Bool) (l : List Jo.Mark) : Nat → Int
  | 0 => -1
  | k + 1 => if q (l.getD k default) && (decide (bestN q l k < 0) || cnt (l.getD k default) (l.getD (bestN q l k).toNat default)) then (k : Int) else bestN q l k
def better (b : Option Jo.Mark) (m : Jo.Mark) : Option Jo.Mark := match b with
  | none => some m
  | some w => if cnt m w then some m else some w
def bestM (q : Jo.Mark → Bool) (l : List Jo.Mark) : Option Jo.Mark := l.foldl (fun b m => if q m then better b m else b) none
theorem bestN_in (q : Jo.Mark → Bool) (l : List Jo.Mark) : ∀ k, -1 ≤ bestN q l k ∧ bestN q l k < k
  | 0 => by simp [bestN]
  | k + 1 => by
    have := bestN_in q l k
    unfold bestN
    split <;> omega
theorem bestM_snoc (q : Jo.Mark → Bool) (l : List Jo.Mark) (m : Jo.Mark) : bestM q (l ++ [m]) = if q m then better (bestM q l) m else bestM q l := by
  unfold bestM; rw [List.foldl_append]; rfl
theorem bestM_take (q : Jo.Mark → Bool) (l : List Jo.Mark) : ∀ k, k ≤ l.length → bestM q (l.take k) = if bestN q l k < 0 then none else some (l.getD (bestN q l k).toNat default)
  | 0, _ => rfl
  | k + 1, hk => by
    have ih := bestM_take q l k (by omega)
    have hin := bestN_in q l k
    have hst : bestN q l (k + 1) = if q (l.getD k default) && (decide (bestN q l k < 0) || cnt (l.getD k default) (l.getD (bestN q l k).toNat default)) then (k : Int) else bestN q l k := rfl
    rw [take_snoc (show k < l.length by omega), bestM_snoc, ih]
    rw [hst]
    generalize bestN q l k = b at *
    by_cases hq : q (l.getD k default) = true
    · rw [hq, if_pos rfl, Bool.true_and]
      by_cases hb : b < 0
      · rw [if_pos hb, decide_eq_true hb, Bool.true_or, if_pos rfl, if_neg (by omega)]
        simp [better]
      · rw [if_neg hb, decide_eq_false hb, Bool.false_or]
        simp only [better]
        by_cases hcn : cnt (l.getD k default) (l.getD b.toNat default) = true
        · rw [if_pos hcn, if_pos hcn, if_neg (by omega)]; simp
        · rw [if_neg hcn, if_neg hcn, if_neg hb]
    · rw [if_neg hq, show q (l.getD k default) = false by simpa using hq, Bool.false_and]
      rfl
theorem bestM_N (q : Jo.Mark → Bool) (l : List Jo.Mark) : bestM q l = if bestN q l l.length < 0 then none else some (l.getD (bestN q l l.length).toNat default) := by
  have := bestM_take q l l.length (Nat.le_refl _)
  rwa [List.take_length] at this
set_option maxRecDepth 20000 in
theorem best19_spec (l : List Jo.Mark) (hl : l.length ≤ 1000000000) (v note kind sec : Int) (r : Rdr) :
    PCall Tryz.prog 100 [.sl 10 (l.map encMk) .no, .int v, .int note, .int kind, .int sec, .agg (encRd r)] (.int (bestN (okFor v note kind sec r) l l.length)) := by
  refine PCall.body Tryz.func100 rfl rfl Tryz.ntmps100 rfl rfl ?_
  repeat' (first
    | refine AOps.q rfl rfl rfl (fun hg => by first | exact std0 | exact std1) (by exact rfl) ?_
    | refine AWP.seq ?_
    | refine AWP.regionK (fun K' hK => ?_)
    | (refine AOps.nil (hK _ _ ?_); clear hK K')
    | refine AOps.e (EStep.boxW rfl rfl rfl rfl rfl True.intro rfl rfl ?_)
    | refine AOps.e (EStep.storeW tabOk rfl rfl rfl True.intro rfl rfl True.intro rfl rfl rfl rfl rfl rfl rfl ?_)
    | refine AOps.e (EStep.allocW tabOk rfl rfl rfl rfl rfl rfl ?_)
    | (refine AWP.condW rfl True.intro (fun hc => ?_) (fun hc => ?_) <;> (first | (simp only [decide_eq_true_eq] at hc) | (simp only [decide_eq_false_iff_not, Int.not_lt, Int.not_le] at hc) | skip))
    | refine AWP.block ?_
    | refine AWP.exit ?_
    | refine AWP.skip ?_
    | refine AWP.ret ?_
    | refine AWP.drawK2 (by decide +kernel) (by kernel_rfl) (by decide +kernel) rfl (fun K' hK => ?_)
    | refine AWP.drawL2 (by kernel_rfl) (by decide +kernel) rfl (fun K' hK => ?_)
    | (refine AQ.nil (hK _ ?_); clear hK K')
    | refine AQ.nil ?_
    | refine AQ.q rfl rfl (fun hg => by first | exact std0 | exact std1) (by exact rfl) ?_)
  refine AWP.loopD (ι := Nat) (fun k => [(0, .sl 10 (l.map encMk) .no), (1, .int v), (2, .int note), (3, .int kind), (4, .int sec), (11, .ptr 0 0), (13, .int (bestN (okFor v note kind sec r) l k)), (14, .int k)]) (fun _ => [.var (encRd r)])
    (fun k => k ≤ l.length) (fun k => l.length - k) 1 (fun _ => rfl) 0 (Nat.zero_le _) ⟨rfl, rfl, rfl, rfl, rfl, rfl, rfl, rfl, True.intro⟩ rfl (fun _ _ => rfl) (fun _ _ => rfl) ?_
  intro k hk
  by_cases hlt : k < l.length
  · have hb := bestN_in (okFor v note kind sec r) l k
    have hv := for19_spec (l.getD k default) sec r
    have hcn := counts19_spec (l.getD k default) (l.getD (bestN (okFor v note kind sec r) l k).toNat default)
    have hst : bestN (okFor v note kind sec r) l (k + 1) = if okFor v note kind sec r (l.getD k default) && (decide (bestN (okFor v note kind sec r) l k < 0) || cnt (l.getD k default) (l.getD (bestN (okFor v note kind sec r) l k).toNat default)) then (k : Int) else bestN (okFor v note kind sec r) l k := rfl
    generalize bestN (okFor v note kind sec r) l k = b at *
    repeat' (first
      | refine AOps.q rfl rfl rfl (fun hg => by first | exact PRun.indexMW tabOk rfl rfl nd rfl nd rfl rfl (by have h9 := hg; simp at h9; omega) | exact std0 | exact PRun.callW (hv) rfl rfl nd rfl nds | exact PRun.callW (hcn) rfl rfl nd rfl nds | exact std1) (by exact rfl) ?_
      | refine AWP.seq ?_
      | refine AWP.regionK (fun K' hK => ?_)
      | (refine AOps.nil (hK _ _ ?_); clear hK K')
      | refine AOps.e (EStep.boxW rfl rfl rfl rfl rfl True.intro rfl rfl ?_)
      | refine AOps.e (EStep.storeW tabOk rfl rfl rfl True.intro rfl rfl True.intro rfl rfl rfl rfl rfl rfl rfl ?_)
      | refine AOps.e (EStep.allocW tabOk rfl rfl rfl rfl rfl rfl ?_)
      | (refine AWP.condW rfl True.intro (fun hc => ?_) (fun hc => ?_) <;> (first | (simp only [decide_eq_true_eq] at hc) | (simp only [decide_eq_false_iff_not, Int.not_lt, Int.not_le] at hc) | skip))
      | refine AWP.block ?_
      | refine AWP.exit ?_
      | refine AWP.skip ?_
      | refine AWP.ret ?_
      | refine AWP.drawK2 (by decide +kernel) (by kernel_rfl) (by decide +kernel) rfl (fun K' hK => ?_)
      | refine AWP.drawL2 (by kernel_rfl) (by decide +kernel) rfl (fun K' hK => ?_)
      | (refine AQ.nil (hK _ ?_); clear hK K')
      | refine AQ.nil ?_
      | refine AQ.q rfl rfl (fun hg => by first | exact PRun.indexMW tabOk rfl rfl nd rfl nd rfl rfl (by have h9 := hg; simp at h9; omega) | exact std0 | exact PRun.callW (hv) rfl rfl nd rfl nds | exact PRun.callW (hcn) rfl rfl nd rfl nds | exact std1) (by exact rfl) ?_)
    all_goals (first | (exfalso; omega) | skip)
    · have hq : okFor v note kind sec r (l.getD k default) = false := by
        rw [Int.toNat_natCast] at hc
        unfold okFor; rw [hc]; rfl
      rw [hq, Bool.false_and] at hst
      refine ⟨k + 1, by omega, by omega, ⟨rfl, rfl, rfl, rfl, rfl, rfl, ?_, rfl, True.intro⟩, rfl⟩
      rw [hst]; rfl
    · rename_i h1
      have hq : okFor v note kind sec r (l.getD k default) = true := by
        rw [Int.toNat_natCast] at h1
        unfold okFor; rw [h1]; rfl
      rw [hq, Bool.true_and, hc] at hst
      refine ⟨k + 1, by omega, by omega, ⟨rfl, rfl, rfl, rfl, rfl, rfl, ?_, rfl, True.intro⟩, rfl⟩
      rw [hst]; rfl
    · rename_i h1
      have hq : okFor v note kind sec r (l.getD k default) = true := by
        rw [Int.toNat_natCast] at h1
        unfold okFor; rw [h1]; rfl
      rw [hq, Bool.true_and, hc] at hst
      refine ⟨k + 1, by omega, by omega, ⟨rfl, rfl, rfl, rfl, rfl, rfl, ?_, rfl, True.intro⟩, rfl⟩
      rw [hst]; rfl
  · repeat' (first
      | refine AOps.q rfl rfl rfl (fun hg => by first | exact std0 | exact std1) (by exact rfl) ?_
      | refine AWP.seq ?_
      | refine AWP.regionK (fun K' hK => ?_)
      | (refine AOps.nil (hK _ _ ?_); clear hK K')
      | refine AOps.e (EStep.boxW rfl rfl rfl rfl rfl True.intro rfl rfl ?_)
      | refine AOps.e (EStep.storeW tabOk rfl rfl rfl True.intro rfl rfl True.intro rfl rfl rfl rfl rfl rfl rfl ?_)
      | refine AOps.e (EStep.allocW tabOk rfl rfl rfl rfl rfl rfl ?_)
      | (refine AWP.condW rfl True.intro (fun hc => ?_) (fun hc => ?_) <;> (first | (simp only [decide_eq_true_eq] at hc) | (simp only [decide_eq_false_iff_not, Int.not_lt, Int.not_le] at hc) | skip))
      | refine AWP.block ?_
      | refine AWP.exit ?_
      | refine AWP.skip ?_
      | refine AWP.ret ?_
      | refine AWP.drawK2 (by decide +kernel) (by kernel_rfl) (by decide +kernel) rfl (fun K' hK => ?_)
      | refine AWP.drawL2 (by kernel_rfl) (by decide +kernel) rfl (fun K' hK => ?_)
      | (refine AQ.nil (hK _ ?_); clear hK K')
      | refine AQ.nil ?_
      | refine AQ.q rfl rfl (fun hg => by first | exact std0 | exact std1) (by exact rfl) ?_)
    all_goals (first | (exfalso; omega) | skip)
    refine ⟨.inr rfl, Ent.int ?_⟩
    rw [show k = l.length by omega]
theorem pairK : KeyLaw Tryz.prog 86 ekP := keyLaw_pair (e := 3) (by kernel_rfl) (by kernel_rfl) (by kernel_rfl) (by kernel_rfl)
/-- The best marks so far, by note and kind. -/
def stepAL (v sec : Int) (r : Rdr) (al : List ((Int × Int) × Jo.Mark)) (m : Jo.Mark) : List ((Int × Int) × Jo.Mark) :=
  if (m.version != v || !forM m sec r) = true then al else if (!(lk al (m.note, m.kind)).isSome || cnt m ((lk al (m.note, m.kind)).getD noMark)) = true then ins al (m.note, m.kind) m else al
def bestAL (v sec : Int) (r : Rdr) (l : List Jo.Mark) : List ((Int × Int) × Jo.Mark) := l.foldl (stepAL v sec r) []
theorem bestAL_snoc (v sec : Int) (r : Rdr) (l : List Jo.Mark) (m : Jo.Mark) : bestAL v sec r (l ++ [m]) = stepAL v sec r (bestAL v sec r l) m := by
  unfold bestAL; rw [List.foldl_append]; rfl
theorem lk_step (v sec : Int) (r : Rdr) (al : List ((Int × Int) × Jo.Mark)) (m : Jo.Mark) (n k : Int) (b : Option Jo.Mark) (hb : lk al (n, k) = b) :
    lk (stepAL v sec r al m) (n, k) = if okFor v n k sec r m then better b m else b := by
  subst hb
  unfold stepAL okFor
  by_cases h1 : (m.version != v || !forM m sec r) = true
  · rw [if_pos h1, if_neg]
    intro h
    simp only [Bool.or_eq_true, Bool.not_eq_true', Bool.or_eq_false_iff, Bool.not_eq_false'] at h h1
    rcases h1 with h1 | h1
    · rw [h.1.1.1] at h1; cases h1
    · rw [h.2] at h1; cases h1
  · rw [if_neg h1]
    simp only [Bool.or_eq_true, not_or, Bool.not_eq_true, Bool.not_eq_false'] at h1
    obtain ⟨h2, h3⟩ := h1
    rw [h2, h3]
    by_cases hk : (m.note, m.kind) = (n, k)
    · obtain ⟨rfl, rfl⟩ := Prod.mk.inj hk
      have e0 : (!(((false || m.note != m.note) || m.kind != m.kind) || !true)) = true := by simp
      rw [if_pos e0]
      cases hl : lk al (m.note, m.kind) with
      | none => simp [better, lk_ins']
      | some w =>
        simp only [Option.isSome_some, Bool.not_true, Bool.false_or, Option.getD_some, better]
        cases hcn : cnt m w with
        | true => simp [lk_ins']
        | false => simp [hl]
    · have e0 : ¬ (!(((false || m.note != n) || m.kind != k) || !true)) = true := by
        intro h
        simp at h
        exact hk (by rw [h.1, h.2])
      rw [if_neg e0]
      split
      · rw [lk_ins', if_neg hk]
      · rfl
theorem lk_best (v sec : Int) (r : Rdr) (l : List Jo.Mark) (n k : Int) : lk (bestAL v sec r l) (n, k) = bestM (okFor v n k sec r) l := by
  have gen : ∀ (l : List Jo.Mark) (al : List ((Int × Int) × Jo.Mark)) (b : Option Jo.Mark), lk al (n, k) = b → lk (l.foldl (stepAL v sec r) al) (n, k) = l.foldl (fun b m => if okFor v n k sec r m then better b m else b) b := by
    intro l
    induction l with
    | nil => intro al b h; exact h
    | cons m t ih =>
      intro al b h
      rw [List.foldl_cons, List.foldl_cons]
      exact ih _ _ (lk_step v sec r al m n k b h)
  exact gen l [] none rfl
end Go.Proofs.YthfcafcjkaemiaaGreatDoor.Mk
