/- Contracts by content: the reference's Bars, Bar, Note, Valid of notes. No statement is proved here. -/
import Derived.Test.YtnmdmmfdnnmdfaaDoorSA
set_option linter.unusedVariables false
set_option linter.unusedSimpArgs false
namespace Go.Proofs.YtnmdmmfdnnmdfaaDoor
open Go.Ab
attribute [local irreducible] AWP AOps EStep AQ PStep PRun PCall TCall VCall

theorem quot1680 {d : Int} (h1 : 1 ≤ d) (h : Int.tmod 1680 d = 0) : d * Int.tdiv 1680 d = 1680 ∧ 1 ≤ Int.tdiv 1680 d := by
  have e := Int.mul_tdiv_add_tmod 1680 d
  rw [h, Int.add_zero] at e
  refine ⟨e, ?_⟩
  rcases (show 0 < Int.tdiv 1680 d ∨ Int.tdiv 1680 d ≤ 0 by omega) with h2 | h2
  · omega
  · exfalso
    have := Int.mul_le_mul_of_nonneg_left (a := Int.tdiv 1680 d) (b := 0) (c := d) h2 (by omega)
    omega
theorem barT (b : Bar) : barOk b = !(((((decide (b.id < 1) || decide (b.id > 1000000)) || decide (ticksX b.len < 1)) || decide (ticksX b.len > 40320)) || decide (b.key < -7)) || decide (b.key > 7)) := by
  have key : barC b = (decide (ticksX b.len < 1) || decide (ticksX b.len > 40320)) := by
    unfold barC ticksX
    by_cases h : durOk b.len = true
    · have h1 := durOk_iff.1 h
      have h2 := ratOk_iff.1 h1.1
      obtain ⟨q1, q2⟩ := quot1680 h2.1 h1.2.2
      rw [if_pos h, h]
      have hr : ratCmp ⟨24, 1⟩ b.len = if 24 * b.len.d < b.len.n * 1 then (-1, 0) else if 24 * b.len.d > b.len.n * 1 then (1, 0) else (0, 0) := by
        unfold ratCmp; rw [if_pos (by rw [h1.1]; decide)]
      rw [hr]
      have e1 : (b.len.n == 0) = decide (ticksV b.len < 1) := by
        rw [Bool.eq_iff_iff]; simp only [beq_iff_eq, decide_eq_true_eq]
        unfold ticksV
        constructor
        · intro h; rw [h]; omega
        · intro h3
          rcases (show 0 < b.len.n ∨ b.len.n ≤ 0 by omega) with h4 | h4
          · have := Int.mul_le_mul_of_nonneg_left (a := 1) (b := Int.tdiv 1680 b.len.d) (c := b.len.n) q2 (by omega)
            omega
          · omega
      have e2 : decide ((if 24 * b.len.d < b.len.n * 1 then ((-1 : Int), (0 : Int)) else if 24 * b.len.d > b.len.n * 1 then (1, 0) else (0, 0)).1 < 0) = decide (ticksV b.len > 40320) := by
        rw [Bool.eq_iff_iff]; simp only [decide_eq_true_eq]
        have e3 : 24 * b.len.d * Int.tdiv 1680 b.len.d = 40320 := by rw [Int.mul_assoc, q1]; decide
        unfold ticksV
        split
        · rename_i h3
          have := Int.mul_lt_mul_of_pos_right (a := 24 * b.len.d) (b := b.len.n) (c := Int.tdiv 1680 b.len.d) (by omega) (by omega)
          constructor
          · intro _; omega
          · intro _; decide
        · rename_i h3
          have := Int.mul_le_mul_of_nonneg_right (a := b.len.n) (b := 24 * b.len.d) (c := Int.tdiv 1680 b.len.d) (by omega) (by omega)
          constructor
          · intro h; split at h <;> simp at h
          · intro h; omega
      rw [e1, e2]; rfl
    · have : durOk b.len = false := by simpa using h
      rw [this]; simp
  unfold barOk
  rw [key]
  unfold barA
  generalize decide (b.id < 1) = a1
  generalize decide (b.id > 1000000) = a2
  generalize decide (ticksX b.len < 1) = a3
  generalize decide (ticksX b.len > 40320) = a4
  generalize decide (b.key < -7) = a5
  generalize decide (b.key > 7) = a6
  revert a1 a2 a3 a4 a5 a6; decide
theorem mem_take {α : Type} [Inhabited α] (f : α → Int) {l : List α} {k : Nat} (hk : k ≤ l.length) {x : Int} : x ∈ (l.take k).map f ↔ ∃ j, j < k ∧ f (l.getD j default) = x := by
  rw [List.mem_map]
  constructor
  · rintro ⟨a, ha, rfl⟩
    obtain ⟨j, hj, rfl⟩ := List.mem_iff_getElem.1 ha
    simp only [List.length_take] at hj
    refine ⟨j, by omega, ?_⟩
    rw [getD_lt (show j < l.length by omega), List.getElem_take]
  · rintro ⟨j, hj, rfl⟩
    refine ⟨l.getD j default, ?_, rfl⟩
    rw [getD_lt (show j < l.length by omega), List.mem_iff_getElem]
    exact ⟨j, by simp; omega, by rw [List.getElem_take]⟩
theorem r6valid_spec (l : List Bar) (hl : l.length ≤ 9223372036854775807) : PCall Tryd.prog 54 [.sl 4 (l.map encB) .no] (.b (barsOk l)) := by
  refine PCall.body Tryd.func54 rfl rfl Tryd.ntmps54 rfl rfl ?_
  repeat' (first | refine AOps.q rfl rfl rfl (fun hg => by first | exact std0 | exact std1) (by exact rfl) ?_ | refine AWP.seq ?_ | refine AWP.regionK (fun K' hK => ?_) | (refine AOps.nil (hK _ _ ?_); clear hK K') | refine AOps.e (EStep.boxW rfl rfl rfl rfl rfl True.intro rfl rfl ?_) | refine AOps.e (EStep.storeW tabOk rfl rfl rfl True.intro rfl rfl True.intro rfl rfl rfl rfl rfl rfl rfl ?_) | refine AOps.e (EStep.allocW tabOk rfl rfl rfl rfl rfl rfl ?_) | (refine AWP.condW rfl True.intro (fun hc => ?_) (fun hc => ?_) <;> (first | (simp only [decide_eq_true_eq] at hc) | (simp only [decide_eq_false_iff_not, Int.not_lt, Int.not_le] at hc) | skip)) | refine AWP.block ?_ | refine AWP.exit ?_ | refine AWP.skip ?_ | refine AWP.ret ?_ | refine AWP.drawK2 (by decide +kernel) (by kernel_rfl) (by decide +kernel) rfl (fun K' hK => ?_) | refine AWP.drawL2 (by kernel_rfl) (by decide +kernel) rfl (fun K' hK => ?_) | (refine AQ.nil (hK _ ?_); clear hK K') | refine AQ.nil ?_ | refine AQ.q rfl rfl (fun hg => by first | exact std0 | exact std1) (by exact rfl) ?_)
  · refine ⟨.inr rfl, Ent.b (Eq.symm ?_)⟩
    unfold barsOk
    simp at hc
    by_cases h : 1 ≤ l.length
    · rw [decide_eq_false (show ¬ l.length ≤ 4000 by omega)]; simp
    · rw [decide_eq_false h]; simp
  have hn : 1 ≤ l.length ∧ l.length ≤ 4000 := by simp at hc; omega
  clear hc
  refine AWP.loopW (ι := Nat) (fun k => [(0, .sl 4 (l.map encB) .no), (3, .int k)]) (fun _ => []) (fun k => k ≤ l.length ∧ (∀ j, j < k → barOk (l.getD j default) = true) ∧ ((l.take k).map (·.id)).Nodup) (fun k => l.length - k) 0 ⟨Nat.zero_le _, fun j h => absurd h (by omega), by simp⟩ ⟨rfl, rfl, True.intro⟩ rfl ?_
  rintro k ⟨hk, hall, hnd⟩
  by_cases hlt : k < l.length
  · have ht := ticks6_spec (l.getD k default).len
    have hb := barT (l.getD k default)
    repeat' (first | refine AOps.q rfl rfl rfl (fun hg => by first | exact std0 | exact PRun.callW (ht) rfl rfl nd rfl nds | exact std1) (by exact rfl) ?_ | refine AWP.seq ?_ | refine AWP.regionK (fun K' hK => ?_) | (refine AOps.nil (hK _ _ ?_); clear hK K') | refine AOps.e (EStep.boxW rfl rfl rfl rfl rfl True.intro rfl rfl ?_) | refine AOps.e (EStep.storeW tabOk rfl rfl rfl True.intro rfl rfl True.intro rfl rfl rfl rfl rfl rfl rfl ?_) | refine AOps.e (EStep.allocW tabOk rfl rfl rfl rfl rfl rfl ?_) | (refine AWP.condW rfl True.intro (fun hc => ?_) (fun hc => ?_) <;> (first | (simp only [decide_eq_true_eq] at hc) | (simp only [decide_eq_false_iff_not, Int.not_lt, Int.not_le] at hc) | skip)) | refine AWP.block ?_ | refine AWP.exit ?_ | refine AWP.skip ?_ | refine AWP.ret ?_ | refine AWP.drawK2 (by decide +kernel) (by kernel_rfl) (by decide +kernel) rfl (fun K' hK => ?_) | refine AWP.drawL2 (by kernel_rfl) (by decide +kernel) rfl (fun K' hK => ?_) | (refine AQ.nil (hK _ ?_); clear hK K') | refine AQ.nil ?_ | refine AQ.q rfl rfl (fun hg => by first | exact std0 | exact PRun.callW (ht) rfl rfl nd rfl nds | exact std1) (by exact rfl) ?_)
    · refine ⟨.inr rfl, Ent.b (Eq.symm (barsOk_bad hlt ?_))⟩
      rw [Int.toNat_natCast] at hc
      rw [hb, hc]; rfl
    · rw [Int.toNat_natCast] at hc
      have hbo : barOk (l.getD k default) = true := by rw [hb, hc]; rfl
      clear hc hb ht
      refine AWP.loopW (ι := Nat) (fun j => [(0, .sl 4 (l.map encB) .no), (3, .int k), (5, .int j)]) (fun _ => []) (fun j => j ≤ k ∧ ∀ i, i < j → (l.getD i default).id ≠ (l.getD k default).id) (fun j => k - j) 0 ⟨Nat.zero_le _, fun j h => absurd h (by omega)⟩ ⟨rfl, rfl, rfl, True.intro⟩ rfl ?_
      rintro j ⟨hj, hne⟩
      by_cases hjk : j < k
      · repeat' (first | refine AOps.q rfl rfl rfl (fun hg => by first | exact std0 | exact std1) (by exact rfl) ?_ | refine AWP.seq ?_ | refine AWP.regionK (fun K' hK => ?_) | (refine AOps.nil (hK _ _ ?_); clear hK K') | refine AOps.e (EStep.boxW rfl rfl rfl rfl rfl True.intro rfl rfl ?_) | refine AOps.e (EStep.storeW tabOk rfl rfl rfl True.intro rfl rfl True.intro rfl rfl rfl rfl rfl rfl rfl ?_) | refine AOps.e (EStep.allocW tabOk rfl rfl rfl rfl rfl rfl ?_) | (refine AWP.condW rfl True.intro (fun hc => ?_) (fun hc => ?_) <;> (first | (simp only [decide_eq_true_eq] at hc) | (simp only [decide_eq_false_iff_not, Int.not_lt, Int.not_le] at hc) | skip)) | refine AWP.block ?_ | refine AWP.exit ?_ | refine AWP.skip ?_ | refine AWP.ret ?_ | refine AWP.drawK2 (by decide +kernel) (by kernel_rfl) (by decide +kernel) rfl (fun K' hK => ?_) | refine AWP.drawL2 (by kernel_rfl) (by decide +kernel) rfl (fun K' hK => ?_) | (refine AQ.nil (hK _ ?_); clear hK K') | refine AQ.nil ?_ | refine AQ.q rfl rfl (fun hg => by first | exact std0 | exact std1) (by exact rfl) ?_)
        · refine ⟨.inr rfl, Ent.b (Eq.symm (barsOk_dup hlt ((mem_take (fun b : Bar => b.id) hk).2 ⟨j, hjk, ?_⟩)))⟩
          simpa using hc
        · exact ⟨j + 1, ⟨by omega, fun i hi => lt_succ_cases hne (by simpa using hc) hi⟩, by omega, ⟨rfl, rfl, rfl, True.intro⟩, rfl⟩
        · exfalso; omega
      · repeat' (first | refine AOps.q rfl rfl rfl (fun hg => by first | exact std0 | exact std1) (by exact rfl) ?_ | refine AWP.seq ?_ | refine AWP.regionK (fun K' hK => ?_) | (refine AOps.nil (hK _ _ ?_); clear hK K') | refine AOps.e (EStep.boxW rfl rfl rfl rfl rfl True.intro rfl rfl ?_) | refine AOps.e (EStep.storeW tabOk rfl rfl rfl True.intro rfl rfl True.intro rfl rfl rfl rfl rfl rfl rfl ?_) | refine AOps.e (EStep.allocW tabOk rfl rfl rfl rfl rfl rfl ?_) | (refine AWP.condW rfl True.intro (fun hc => ?_) (fun hc => ?_) <;> (first | (simp only [decide_eq_true_eq] at hc) | (simp only [decide_eq_false_iff_not, Int.not_lt, Int.not_le] at hc) | skip)) | refine AWP.block ?_ | refine AWP.exit ?_ | refine AWP.skip ?_ | refine AWP.ret ?_ | refine AWP.drawK2 (by decide +kernel) (by kernel_rfl) (by decide +kernel) rfl (fun K' hK => ?_) | refine AWP.drawL2 (by kernel_rfl) (by decide +kernel) rfl (fun K' hK => ?_) | (refine AQ.nil (hK _ ?_); clear hK K') | refine AQ.nil ?_ | refine AQ.q rfl rfl (fun hg => by first | exact std0 | exact std1) (by exact rfl) ?_)
        all_goals (first | (exfalso; omega) | skip)
        · refine ⟨k + 1, ⟨by omega, fun i hi => lt_succ_cases hall hbo hi, (nodup_succ _ l k hlt).2 ⟨hnd, fun hm => ?_⟩⟩, by omega, ⟨rfl, rfl, True.intro⟩, rfl⟩
          obtain ⟨i, hi, e⟩ := (mem_take (fun b : Bar => b.id) hk).1 hm
          exact hne i (by omega) e
    · exfalso; omega
  · repeat' (first | refine AOps.q rfl rfl rfl (fun hg => by first | exact std0 | exact std1) (by exact rfl) ?_ | refine AWP.seq ?_ | refine AWP.regionK (fun K' hK => ?_) | (refine AOps.nil (hK _ _ ?_); clear hK K') | refine AOps.e (EStep.boxW rfl rfl rfl rfl rfl True.intro rfl rfl ?_) | refine AOps.e (EStep.storeW tabOk rfl rfl rfl True.intro rfl rfl True.intro rfl rfl rfl rfl rfl rfl rfl ?_) | refine AOps.e (EStep.allocW tabOk rfl rfl rfl rfl rfl rfl ?_) | (refine AWP.condW rfl True.intro (fun hc => ?_) (fun hc => ?_) <;> (first | (simp only [decide_eq_true_eq] at hc) | (simp only [decide_eq_false_iff_not, Int.not_lt, Int.not_le] at hc) | skip)) | refine AWP.block ?_ | refine AWP.exit ?_ | refine AWP.skip ?_ | refine AWP.ret ?_ | refine AWP.drawK2 (by decide +kernel) (by kernel_rfl) (by decide +kernel) rfl (fun K' hK => ?_) | refine AWP.drawL2 (by kernel_rfl) (by decide +kernel) rfl (fun K' hK => ?_) | (refine AQ.nil (hK _ ?_); clear hK K') | refine AQ.nil ?_ | refine AQ.q rfl rfl (fun hg => by first | exact std0 | exact std1) (by exact rfl) ?_)
    · exfalso; omega
    · refine ⟨.inr rfl, Ent.b ?_⟩
      have htk : l.take k = l := List.take_of_length_le (by omega)
      rw [htk] at hnd
      unfold barsOk
      rw [all_yes fun j hj => hall j (by omega), decide_eq_true hnd, decide_eq_true hn.1, decide_eq_true hn.2]; rfl
end Go.Proofs.YtnmdmmfdnnmdfaaDoor
