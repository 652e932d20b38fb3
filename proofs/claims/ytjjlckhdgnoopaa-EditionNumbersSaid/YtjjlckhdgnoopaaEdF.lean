/- The law of numbers by content: for every edition and number the function returns true. The row is joined in RowNumbers. -/
import Derived.Test.YtjjlckhdgnoopaaEdE
/- EditionNumbers. -/
namespace Go.Proofs.Ytjjlckhdgnoopaa
open Go.Ab
attribute [local irreducible] AWP AOps EStep AQ PStep PRun PCall

theorem count_succ (p : Printed → Bool) (l : List Printed) (k : Nat) (h : k < l.length) : (l.take (k + 1)).countP p = (l.take k).countP p + (if p (l.getD k default) then 1 else 0) := by
  rw [List.take_succ_eq_append_getElem h, List.countP_append, getD_lt h]
  simp [List.countP_cons]

theorem findI_none (p : Printed → Bool) (l : List Printed) : findI p l < 0 ↔ l.countP p = 0 := by
  rw [List.countP_eq_zero]
  constructor
  · intro h x hx hpx
    have h1 := findI_any p l
    have h2 : (!decide (findI p l ≥ 0)) = true := by simp; omega
    rw [h2] at h1
    have := List.all_eq_true.1 h1.symm x hx
    rw [hpx] at this; cases this
  · intro h
    rcases Int.lt_or_le (findI p l) 0 with h1 | h1
    · exact h1
    · obtain ⟨k, _, hk, hp, _⟩ := findI_lt h1
      exact absurd hp (h _ (getD_mem hk))

/-- The first one that is found, and the number of all. -/
theorem count_first (p : Printed → Bool) (l : List Printed) (k : Nat) (h1 : findI p l = k) : l.countP p = 1 + (l.drop (k + 1)).countP p := by
  obtain ⟨k', e, hk, hp, hall⟩ := findI_lt (p := p) (l := l) (by omega)
  have : k' = k := by omega
  subst this
  have h0 : (l.take k').countP p = 0 := by
    rw [List.countP_eq_zero]
    intro x hx
    obtain ⟨j, hj, rfl⟩ := List.mem_iff_getElem.1 hx
    have hj' : j < k' ∧ j < l.length := by simp at hj; omega
    have := hall j hj'.1
    rw [getD_lt hj'.2] at this
    simp [this]
  conv => lhs; rw [← List.take_append_drop (k' + 1) l]
  rw [List.countP_append, count_succ p l k' hk, h0, if_pos hp]

theorem numbers_last (p : Printed → Bool) (l : List Printed) (j : Nat) (hj : j < l.length) (hp : p (l.getD j default) = true) (h1 : l.countP p = 1) : findI p l = j := by
  have h0 : 0 ≤ findI p l := by
    rcases Int.lt_or_le (findI p l) 0 with h | h
    · rw [findI_none] at h; omega
    · exact h
  obtain ⟨k, e, hk, hpk, hall⟩ := findI_lt h0
  have hc := count_first p l k e
  have hd : (l.drop (k + 1)).countP p = 0 := by omega
  rw [List.countP_eq_zero] at hd
  rw [e]
  rcases Nat.lt_trichotomy j k with h | h | h
  · have := hall j h; rw [hp] at this; cases this
  · rw [h]
  · exfalso
    refine hd (l.getD j default) ?_ hp
    rw [getD_lt hj]
    refine List.mem_iff_getElem.2 ⟨j - (k + 1), by simp; omega, ?_⟩
    rw [List.getElem_drop]
    congr 1; omega

theorem ok_form {e : Edition} {n : Int} (h : formB e = true) (h0 : 0 ≤ n) (h1 : n ≤ 100000) : (formB e && inB n 0 100000) = true := by simp [h, inB, h0, h1]
theorem numR_0 {e : Edition} {n : Int} (hf : (formB e && inB n 0 100000) = true) (h : e.bars.countP (numP n) = 0) : numR e n = (0, 4) := by
  unfold numR numI
  rw [if_pos hf, if_pos ((findI_none _ _).2 h)]
theorem numR_pos {e : Edition} {n : Int} (h : e.bars.countP (numP n) ≠ 0) : ∃ k : Nat, numI e n = k := by
  unfold numI
  rcases Int.lt_or_le (findI (numP n) e.bars) 0 with h1 | h1
  · rw [findI_none] at h1; omega
  · exact ⟨_, (Int.toNat_of_nonneg h1).symm⟩
theorem numR_1 {e : Edition} {n : Int} (hf : (formB e && inB n 0 100000) = true) (h : e.bars.countP (numP n) = 1) : numR e n = (numI e n, 0) := by
  obtain ⟨k, hk⟩ := numR_pos (e := e) (n := n) (by omega)
  have hc := count_first (numP n) e.bars k hk
  have hd : findI (numP n) (e.bars.drop (k + 1)) < 0 := (findI_none _ _).2 (by omega)
  unfold numR
  rw [if_pos hf, if_neg (by omega), if_neg (by rw [hk]; show ¬ findI (numP n) (e.bars.drop (k + 1)) ≥ 0; omega)]
theorem numR_2 {e : Edition} {n : Int} (hf : (formB e && inB n 0 100000) = true) (h0 : e.bars.countP (numP n) ≠ 0) (h : e.bars.countP (numP n) ≠ 1) : numR e n = (0, 5) := by
  obtain ⟨k, hk⟩ := numR_pos (e := e) (n := n) h0
  have hc := count_first (numP n) e.bars k hk
  have hd : ¬ findI (numP n) (e.bars.drop (k + 1)) < 0 := fun h => by rw [findI_none] at h; omega
  unfold numR
  rw [if_pos hf, if_neg (by omega), if_pos (by rw [hk]; show findI (numP n) (e.bars.drop (k + 1)) ≥ 0; omega)]

theorem numbers_law (e : Edition) (hw : Wf e) (n : Int) : PCall Try.prog 4 [.agg (encE e), .int n] (.b true) := by
  refine PCall.body Try.func4 rfl rfl Try.ntmps4 rfl rfl ?_
  have hb := hw.bars
  repeat' (first
    | refine AOps.q rfl rfl rfl (fun hg => by first | exact PRun.step tabOk rfl (by first | exact True.intro | exact ⟨True.intro, True.intro, True.intro⟩ | exact hg | exact ⟨True.intro, True.intro⟩ | exact ⟨hg, hg, True.intro⟩ | (repeat' (first | exact True.intro | exact hg | omega | decide | refine ⟨?_, ?_⟩ | (intro h; change (_ == _) = true; rw [h]; rfl) | (intro h; change (_ && (_ == _)) = true; rw [Bool.and_eq_true]; exact ⟨hg, by rw [h]; rfl⟩) | (exfalso; revert hg; simp [GG.holds]; done)))) | exact PRun.callW (head_spec) rfl rfl (by first | exact True.intro | exact hg) rfl (by first | exact True.intro | exact ⟨True.intro, True.intro⟩ | exact ⟨True.intro, True.intro, True.intro⟩ | (repeat' (first | exact True.intro | exact hg | refine ⟨?_, ?_⟩))) | exact PRun.callW (few_spec e) rfl rfl (by first | exact True.intro | exact hg) rfl (by first | exact True.intro | exact ⟨True.intro, True.intro⟩ | exact ⟨True.intro, True.intro, True.intro⟩ | (repeat' (first | exact True.intro | exact hg | refine ⟨?_, ?_⟩))) | exact PRun.callW (form_spec e) rfl rfl (by first | exact True.intro | exact hg) rfl (by first | exact True.intro | exact ⟨True.intro, True.intro⟩ | exact ⟨True.intro, True.intro, True.intro⟩ | (repeat' (first | exact True.intro | exact hg | refine ⟨?_, ?_⟩))) | exact PRun.callW (number_spec e hw n) rfl rfl (by first | exact True.intro | exact hg) rfl (by first | exact True.intro | exact ⟨True.intro, True.intro⟩ | exact ⟨True.intro, True.intro, True.intro⟩ | (repeat' (first | exact True.intro | exact hg | refine ⟨?_, ?_⟩))) | exact PRun.indexMW tabOk rfl rfl (by first | exact True.intro | exact hg) rfl (by first | exact True.intro | exact hg) rfl rfl (by omega) | exact PRun.lenM tabOk rfl rfl (by first | exact True.intro | exact hg) rfl | exact PRun.lenW tabOk rfl rfl (by first | exact True.intro | exact hg) rfl | exact PRun.binW rfl rfl (by first | exact True.intro | exact hg) rfl (by first | exact True.intro | exact hg) rfl | exact PRun.negWr rfl rfl (by first | exact True.intro | exact hg)) (by exact rfl) ?_
    | refine AWP.seq ?_
    | refine AWP.regionK (fun K' hK => ?_)
    | (refine AOps.nil (hK _ _ ?_); clear hK K')
    | refine AOps.e (EStep.boxW rfl rfl rfl rfl rfl True.intro rfl rfl ?_)
    | refine AOps.e (EStep.storeW tabOk rfl rfl rfl True.intro rfl rfl True.intro rfl rfl rfl rfl rfl rfl rfl ?_)
    | refine AOps.e (EStep.allocW tabOk rfl rfl rfl rfl rfl rfl ?_)
    | (refine AWP.condW rfl True.intro (fun hc => ?_) (fun hc => ?_) <;> (first | (simp only [decide_eq_true_eq] at hc) | (simp only [decide_eq_false_iff_not, Int.not_lt, Int.not_le] at hc) | skip))
    | refine AWP.block ?_
    | refine AWP.exit ?_
    | refine AWP.skip ?_
    | refine AWP.ret ?_
    | refine AWP.drawK (by kernel_rfl) (by decide +kernel) rfl (fun K' hK => ?_)
    | (refine AQ.nil (hK _ ?_); clear hK K')
    | refine AQ.q rfl rfl (fun hg => by first | exact PRun.step tabOk rfl (by first | exact True.intro | exact ⟨True.intro, True.intro, True.intro⟩ | exact hg | exact ⟨True.intro, True.intro⟩ | exact ⟨hg, hg, True.intro⟩ | (repeat' (first | exact True.intro | exact hg | omega | decide | refine ⟨?_, ?_⟩ | (intro h; change (_ == _) = true; rw [h]; rfl) | (intro h; change (_ && (_ == _)) = true; rw [Bool.and_eq_true]; exact ⟨hg, by rw [h]; rfl⟩) | (exfalso; revert hg; simp [GG.holds]; done)))) | exact PRun.callW (head_spec) rfl rfl (by first | exact True.intro | exact hg) rfl (by first | exact True.intro | exact ⟨True.intro, True.intro⟩ | exact ⟨True.intro, True.intro, True.intro⟩ | (repeat' (first | exact True.intro | exact hg | refine ⟨?_, ?_⟩))) | exact PRun.callW (few_spec e) rfl rfl (by first | exact True.intro | exact hg) rfl (by first | exact True.intro | exact ⟨True.intro, True.intro⟩ | exact ⟨True.intro, True.intro, True.intro⟩ | (repeat' (first | exact True.intro | exact hg | refine ⟨?_, ?_⟩))) | exact PRun.callW (form_spec e) rfl rfl (by first | exact True.intro | exact hg) rfl (by first | exact True.intro | exact ⟨True.intro, True.intro⟩ | exact ⟨True.intro, True.intro, True.intro⟩ | (repeat' (first | exact True.intro | exact hg | refine ⟨?_, ?_⟩))) | exact PRun.callW (number_spec e hw n) rfl rfl (by first | exact True.intro | exact hg) rfl (by first | exact True.intro | exact ⟨True.intro, True.intro⟩ | exact ⟨True.intro, True.intro, True.intro⟩ | (repeat' (first | exact True.intro | exact hg | refine ⟨?_, ?_⟩))) | exact PRun.indexMW tabOk rfl rfl (by first | exact True.intro | exact hg) rfl (by first | exact True.intro | exact hg) rfl rfl (by omega) | exact PRun.lenM tabOk rfl rfl (by first | exact True.intro | exact hg) rfl | exact PRun.lenW tabOk rfl rfl (by first | exact True.intro | exact hg) rfl | exact PRun.binW rfl rfl (by first | exact True.intro | exact hg) rfl (by first | exact True.intro | exact hg) rfl | exact PRun.negWr rfl rfl (by first | exact True.intro | exact hg)) (by exact rfl) ?_)
  · exact ⟨.inr rfl, fun _ _ h => h⟩
  have hok : (formB e && inB n 0 100000) = true := by
    simp only [Bool.or_eq_false_iff, Bool.not_eq_false', decide_eq_false_iff_not] at hc
    exact ok_form hc.1.1.2 (by omega) (by omega)
  have hlen : e.bars.length ≤ 80 := by
    simp only [Bool.or_eq_false_iff, Bool.not_eq_false', Bool.and_eq_true, decide_eq_true_eq] at hc
    omega
  clear hc
  refine AWP.loopD (ι := Nat × Nat × Int) (fun i => [(1, .int n), (2, .ptr 0 0), (5, .b true), (6, .int (numR e n).1), (7, .int (numR e n).2), (8, .int i.2.1), (9, .int i.2.2), (37, .sl 3 (e.bars.map encP) .no), (38, .int e.bars.length), (39, .int i.1)]) (fun _ => [.var (encE e)])
    (fun i => i.1 ≤ e.bars.length ∧ i.2.1 = (e.bars.take i.1).countP (numP n) ∧ (i.2.1 ≠ 0 → ∃ j : Nat, j < i.1 ∧ i.2.2 = j ∧ numP n (e.bars.getD j default) = true)) (fun i => e.bars.length - i.1) 1 (fun _ => rfl) (0, 0, 0) ⟨Nat.zero_le _, by simp, by simp⟩ ⟨rfl, rfl, rfl, rfl, rfl, rfl, rfl, rfl, rfl, rfl, True.intro⟩ rfl (fun _ _ => rfl) (fun k _ => rfl) ?_
  rintro ⟨k, m, last⟩ ⟨hk, hm, hl⟩
  simp only at hk hm hl
  have hmk : m ≤ 80 := by rw [hm]; exact Nat.le_trans List.countP_le_length (by simp; omega)
  have hmk' : ((k, m, last) : Nat × Nat × Int).snd.fst ≤ 80 := hmk
  by_cases hlt : k < e.bars.length
  · repeat' (first
      | refine AOps.q rfl rfl rfl (fun hg => by first | exact PRun.step tabOk rfl (by first | exact True.intro | exact ⟨True.intro, True.intro, True.intro⟩ | exact hg | exact ⟨True.intro, True.intro⟩ | exact ⟨hg, hg, True.intro⟩ | (repeat' (first | exact True.intro | exact hg | omega | decide | refine ⟨?_, ?_⟩ | (intro h; change (_ == _) = true; rw [h]; rfl) | (intro h; change (_ && (_ == _)) = true; rw [Bool.and_eq_true]; exact ⟨hg, by rw [h]; rfl⟩) | (exfalso; revert hg; simp [GG.holds]; done)))) | exact PRun.indexMW tabOk rfl rfl (by first | exact True.intro | exact hg) rfl (by first | exact True.intro | exact hg) rfl rfl (by omega) | exact PRun.lenM tabOk rfl rfl (by first | exact True.intro | exact hg) rfl | exact PRun.lenW tabOk rfl rfl (by first | exact True.intro | exact hg) rfl | exact PRun.binW rfl rfl (by first | exact True.intro | exact hg) rfl (by first | exact True.intro | exact hg) rfl | exact PRun.negWr rfl rfl (by first | exact True.intro | exact hg)) (by exact rfl) ?_
      | refine AWP.seq ?_
      | refine AWP.regionK (fun K' hK => ?_)
      | (refine AOps.nil (hK _ _ ?_); clear hK K')
      | refine AOps.e (EStep.boxW rfl rfl rfl rfl rfl True.intro rfl rfl ?_)
      | refine AOps.e (EStep.storeW tabOk rfl rfl rfl True.intro rfl rfl True.intro rfl rfl rfl rfl rfl rfl rfl ?_)
      | refine AOps.e (EStep.allocW tabOk rfl rfl rfl rfl rfl rfl ?_)
      | (refine AWP.condW rfl True.intro (fun hc => ?_) (fun hc => ?_) <;> (first | (simp only [decide_eq_true_eq] at hc) | (simp only [decide_eq_false_iff_not, Int.not_lt, Int.not_le] at hc) | skip))
      | refine AWP.block ?_
      | refine AWP.exit ?_
      | refine AWP.skip ?_
      | refine AWP.ret ?_
      | refine AWP.drawK (by kernel_rfl) (by decide +kernel) rfl (fun K' hK => ?_)
      | (refine AQ.nil (hK _ ?_); clear hK K')
      | refine AQ.q rfl rfl (fun hg => by first | exact PRun.step tabOk rfl (by first | exact True.intro | exact ⟨True.intro, True.intro, True.intro⟩ | exact hg | exact ⟨True.intro, True.intro⟩ | exact ⟨hg, hg, True.intro⟩ | (repeat' (first | exact True.intro | exact hg | omega | decide | refine ⟨?_, ?_⟩ | (intro h; change (_ == _) = true; rw [h]; rfl) | (intro h; change (_ && (_ == _)) = true; rw [Bool.and_eq_true]; exact ⟨hg, by rw [h]; rfl⟩) | (exfalso; revert hg; simp [GG.holds]; done)))) | exact PRun.indexMW tabOk rfl rfl (by first | exact True.intro | exact hg) rfl (by first | exact True.intro | exact hg) rfl rfl (by omega) | exact PRun.lenM tabOk rfl rfl (by first | exact True.intro | exact hg) rfl | exact PRun.lenW tabOk rfl rfl (by first | exact True.intro | exact hg) rfl | exact PRun.binW rfl rfl (by first | exact True.intro | exact hg) rfl (by first | exact True.intro | exact hg) rfl | exact PRun.negWr rfl rfl (by first | exact True.intro | exact hg)) (by exact rfl) ?_)
    · have hp : numP n (e.bars.getD k default) = true := hc
      refine ⟨(k + 1, m + 1, k), ⟨by simp only; omega, ?_, fun _ => ⟨k, by simp only; omega, rfl, hp⟩⟩, by simp only; omega, ⟨rfl, rfl, rfl, rfl, rfl, rfl, rfl, rfl, rfl, rfl, True.intro⟩, rfl⟩
      simp only
      rw [count_succ _ _ _ hlt, if_pos hp, ← hm]
    · have hp : numP n (e.bars.getD k default) = false := hc
      refine ⟨(k + 1, m, last), ⟨by simp only; omega, ?_, fun h => ?_⟩, by simp only; omega, ⟨rfl, rfl, rfl, rfl, rfl, rfl, rfl, rfl, rfl, rfl, True.intro⟩, rfl⟩
      · simp only
        rw [count_succ _ _ _ hlt, hp, ← hm]; rfl
      · obtain ⟨j, h1, h2, h3⟩ := hl h
        exact ⟨j, by simp only; omega, h2, h3⟩
    all_goals (exfalso; have := of_decide_eq_false ‹decide ((k : Int) < (e.bars.length : Int)) = false›; omega)
  · have htk : e.bars.take k = e.bars := List.take_of_length_le (by omega)
    rw [htk] at hm
    repeat' (first
      | refine AOps.q rfl rfl rfl (fun hg => by first | exact PRun.step tabOk rfl (by first | exact True.intro | exact ⟨True.intro, True.intro, True.intro⟩ | exact hg | exact ⟨True.intro, True.intro⟩ | exact ⟨hg, hg, True.intro⟩ | (repeat' (first | exact True.intro | exact hg | omega | decide | refine ⟨?_, ?_⟩ | (intro h; change (_ == _) = true; rw [h]; rfl) | (intro h; change (_ && (_ == _)) = true; rw [Bool.and_eq_true]; exact ⟨hg, by rw [h]; rfl⟩) | (exfalso; revert hg; simp [GG.holds]; done)))) | exact PRun.indexMW tabOk rfl rfl (by first | exact True.intro | exact hg) rfl (by first | exact True.intro | exact hg) rfl rfl (by omega) | exact PRun.lenM tabOk rfl rfl (by first | exact True.intro | exact hg) rfl | exact PRun.lenW tabOk rfl rfl (by first | exact True.intro | exact hg) rfl | exact PRun.binW rfl rfl (by first | exact True.intro | exact hg) rfl (by first | exact True.intro | exact hg) rfl | exact PRun.negWr rfl rfl (by first | exact True.intro | exact hg)) (by exact rfl) ?_
      | refine AWP.seq ?_
      | refine AWP.regionK (fun K' hK => ?_)
      | (refine AOps.nil (hK _ _ ?_); clear hK K')
      | refine AOps.e (EStep.boxW rfl rfl rfl rfl rfl True.intro rfl rfl ?_)
      | refine AOps.e (EStep.storeW tabOk rfl rfl rfl True.intro rfl rfl True.intro rfl rfl rfl rfl rfl rfl rfl ?_)
      | refine AOps.e (EStep.allocW tabOk rfl rfl rfl rfl rfl rfl ?_)
      | (refine AWP.condW rfl True.intro (fun hc => ?_) (fun hc => ?_) <;> (first | (simp only [decide_eq_true_eq] at hc) | (simp only [decide_eq_false_iff_not, Int.not_lt, Int.not_le] at hc) | skip))
      | refine AWP.block ?_
      | refine AWP.exit ?_
      | refine AWP.skip ?_
      | refine AWP.ret ?_
      | refine AWP.drawK (by kernel_rfl) (by decide +kernel) rfl (fun K' hK => ?_)
      | (refine AQ.nil (hK _ ?_); clear hK K')
      | refine AQ.q rfl rfl (fun hg => by first | exact PRun.step tabOk rfl (by first | exact True.intro | exact ⟨True.intro, True.intro, True.intro⟩ | exact hg | exact ⟨True.intro, True.intro⟩ | exact ⟨hg, hg, True.intro⟩ | (repeat' (first | exact True.intro | exact hg | omega | decide | refine ⟨?_, ?_⟩ | (intro h; change (_ == _) = true; rw [h]; rfl) | (intro h; change (_ && (_ == _)) = true; rw [Bool.and_eq_true]; exact ⟨hg, by rw [h]; rfl⟩) | (exfalso; revert hg; simp [GG.holds]; done)))) | exact PRun.indexMW tabOk rfl rfl (by first | exact True.intro | exact hg) rfl (by first | exact True.intro | exact hg) rfl rfl (by omega) | exact PRun.lenM tabOk rfl rfl (by first | exact True.intro | exact hg) rfl | exact PRun.lenW tabOk rfl rfl (by first | exact True.intro | exact hg) rfl | exact PRun.binW rfl rfl (by first | exact True.intro | exact hg) rfl (by first | exact True.intro | exact hg) rfl | exact PRun.negWr rfl rfl (by first | exact True.intro | exact hg)) (by exact rfl) ?_)
    · exfalso; omega
    · exfalso; omega
    · refine ⟨.inr rfl, ?_⟩
      rw [numR_0 hok (by rw [← hm]; have : (m : Int) = 0 := by simpa using hc
                         omega)]
      exact fun _ _ h => h
    · have h1 : e.bars.countP (numP n) = 1 := by
        rw [← hm]; have : (m : Int) = 1 := by simpa using hc
        omega
      obtain ⟨j, g1, g2, g3⟩ := hl (by omega)
      have e1 : numR e n = (last, 0) := by
        rw [numR_1 hok h1]
        unfold numI
        rw [numbers_last (numP n) e.bars j (by omega) g3 h1, g2]
      refine ⟨.inr rfl, ?_⟩
      rw [e1]
      intro M x h
      have h' : VRel M [] (.b (last == last)) x := h
      simpa using h'
    · rename_i hc0
      have h0 : e.bars.countP (numP n) ≠ 0 := by
        rw [← hm]; intro h; subst h; simp at hc0
      have h1 : e.bars.countP (numP n) ≠ 1 := by
        rw [← hm]; intro h; subst h; simp at hc
      refine ⟨.inr rfl, ?_⟩
      rw [numR_2 hok h0 h1]
      exact fun _ _ h => h
end Go.Proofs.Ytjjlckhdgnoopaa
