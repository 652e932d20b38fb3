/- The law of letters by content: for every edition, number and name the function returns true. The row is joined in RowLetters. -/
import Derived.Test.YtjjlckhdgnoopaaEdM
import Derived.Test.YtjjlckhdgnoopaaAb19
import Derived.Test.YtjjlckhdgnoopaaEdG
namespace Go.Proofs.Ytjjlckhdgnoopaa
open Go.Ab
attribute [local irreducible] AWP AOps EStep AQ PStep PRun PCall

theorem lk5 : LOk Try.prog 5 ⟨.int .u8, 1, 1, [.i .u8]⟩ := .of (tabOk.get rfl)
theorem u8_rd {n : Int} (h : (Lit.int .u8 n).wf = true) : 0 ≤ n ∧ n ≤ 255 := by
  simp [Lit.wf, IntKind.min, IntKind.max, IntKind.signed, IntKind.bits] at h; omega
theorem rdv_congr {env env' : Env} {t : Nat} (h : env' t = env t) : rdv env' (.tmp t) = rdv env (.tmp t) := by simp only [rdv, envOp, h]
theorem rdn_congr {env env' : Env} {t : Nat} (h : env' t = env t) : rdn env' (.tmp t) = rdn env (.tmp t) := by simp only [rdn, envOp, h]
theorem letOk_of {e : Edition} (h : formB e = true) {i : Nat} (hi : i < e.letters.length) : nameB (e.letters.getD i default).name = true ∧ letterI e.letters (e.letters.getD i default).name = i := by
  simp only [formB, Bool.and_eq_true, List.all_eq_true, List.mem_range] at h
  have := h.2 i hi
  simp only [letOk, Bool.and_eq_true, beq_iff_eq] at this
  exact ⟨this.1.1, this.2⟩
theorem letR_at {e : Edition} (h : formB e = true) {i : Nat} (hi : i < e.letters.length) : letR e (e.letters.getD i default).name = ((e.letters.getD i default).pos, 0) := by
  unfold letR
  have hd : ∀ j, j < e.letters.length → letterI e.letters (e.letters.getD j default).name = j := fun j hj => (letOk_of h hj).2
  have := letters_all e.letters hd e.letters.length (Nat.le_refl _) i hi
  rw [List.take_of_length_le (Nat.le_refl _)] at this
  rw [if_pos (by rw [h, (letOk_of h hi).1]; rfl), this]

theorem lk_some {l : List Letter} {nm : ByteArray} {v : Int} : ∀ k, k ≤ l.length → lk (lettersAL (l.take k)) nm = some v → ∃ i, i < l.length ∧ (l.getD i default).name = nm
  | 0, _, h => by simp [lettersAL, lk] at h
  | k + 1, hk, h => by
    rw [lk_letters l k (by omega)] at h
    by_cases he : (l.getD k default).name = nm
    · exact ⟨k, by omega, he⟩
    · rw [if_neg he] at h; exact lk_some k (by omega) h
theorem letR_known {e : Edition} (h : formB e = true) (nm : ByteArray) : (letR e nm).1 = (lk (lettersAL e.letters) nm).getD 0 ∧ ((letR e nm).2 == 0) = (lk (lettersAL e.letters) nm).isSome := by
  unfold letR
  cases hL : lk (lettersAL e.letters) nm with
  | none =>
    by_cases hn : (formB e && nameB nm) = true
    · rw [if_pos hn]; simp
    · rw [if_neg hn]; simp
  | some v =>
    obtain ⟨i, hi, he⟩ := lk_some e.letters.length (Nat.le_refl _) (by rw [List.take_of_length_le (Nat.le_refl _)]; exact hL)
    have := (letOk_of h hi).1
    rw [he] at this
    rw [if_pos (by rw [h, this]; rfl)]
    simp
theorem letters_law (e : Edition) (hw : Wf e) (which : Int) (nm : ByteArray) (hn : nm.size ≤ 9223372036854775807) (hwh : 0 ≤ which ∧ which ≤ 255) : PCall Try.prog 3 [.agg (encE e), .prim (.int .u8 which), .str nm] (.b true) := by
  refine PCall.body Try.func3 rfl rfl Try.ntmps3 rfl rfl ?_
  have hb := hw.bars
  have hl := hw.letters
  repeat' (first
    | refine AOps.q rfl rfl rfl (fun hg => by first | exact PRun.step tabOk rfl (by first | exact True.intro | exact ⟨True.intro, True.intro, True.intro⟩ | exact hg | exact ⟨True.intro, True.intro⟩ | exact ⟨hg, hg, True.intro⟩ | (repeat' (first | exact True.intro | exact hg | omega | decide | refine ⟨?_, ?_⟩ | (intro h; change (_ == _) = true; rw [h]; rfl) | (intro h; change (_ && (_ == _)) = true; rw [Bool.and_eq_true]; exact ⟨hg, by rw [h]; rfl⟩) | (exfalso; revert hg; simp; done) | (simp at hc; omega) | (exfalso; simp at hc; done)))) | exact PRun.callW (head_spec) rfl rfl (by first | exact True.intro | exact hg) rfl (by first | exact True.intro | exact ⟨True.intro, True.intro⟩ | exact ⟨True.intro, True.intro, True.intro⟩ | (repeat' (first | exact True.intro | exact hg | refine ⟨?_, ?_⟩))) | exact PRun.callW (few_spec e) rfl rfl (by first | exact True.intro | exact hg) rfl (by first | exact True.intro | exact ⟨True.intro, True.intro⟩ | exact ⟨True.intro, True.intro, True.intro⟩ | (repeat' (first | exact True.intro | exact hg | refine ⟨?_, ?_⟩))) | exact PRun.callW (form_spec e) rfl rfl (by first | exact True.intro | exact hg) rfl (by first | exact True.intro | exact ⟨True.intro, True.intro⟩ | exact ⟨True.intro, True.intro, True.intro⟩ | (repeat' (first | exact True.intro | exact hg | refine ⟨?_, ?_⟩))) | exact PRun.callW (let_spec e hw nm hn) rfl rfl (by first | exact True.intro | exact hg) rfl (by first | exact True.intro | exact ⟨True.intro, True.intro⟩ | exact ⟨True.intro, True.intro, True.intro⟩ | (repeat' (first | exact True.intro | exact hg | refine ⟨?_, ?_⟩))) | exact PRun.indexMW tabOk rfl rfl (by first | exact True.intro | exact hg) rfl (by first | exact True.intro | exact hg) rfl rfl (by omega) | exact PRun.lenM tabOk rfl rfl (by first | exact True.intro | exact hg) rfl | exact PRun.lenW tabOk rfl rfl (by first | exact True.intro | exact hg) rfl | exact PRun.binW rfl rfl (by first | exact True.intro | exact hg) rfl (by first | exact True.intro | exact hg) rfl | exact PRun.negWr rfl rfl (by first | exact True.intro | exact hg)) (by exact rfl) ?_
    | refine AWP.seq ?_
    | refine AWP.regionK (fun K' hK => ?_)
    | (refine AOps.nil (hK _ _ ?_); clear hK K')
    | refine AOps.e (EStep.boxW rfl rfl rfl rfl rfl True.intro rfl rfl ?_)
    | refine AOps.e (EStep.storeW tabOk rfl rfl rfl True.intro rfl rfl True.intro rfl rfl rfl rfl rfl rfl rfl ?_)
    | refine AOps.e (EStep.allocW tabOk rfl rfl rfl rfl rfl rfl ?_)
    | (refine AWP.condW rfl True.intro (fun hc => ?_) (fun hc => ?_) <;> (first | (simp only [decide_eq_true_eq] at hc) | (simp only [decide_eq_false_iff_not, Int.not_lt, Int.not_le] at hc) | skip))
    | refine AWP.block ?_
    | refine AWP.exit ?_
    | refine AWP.skip ?_
    | refine AWP.ret ?_
    | (refine AQ.nil (hK _ ?_); clear hK K')
    | refine AQ.nil ?_
    | refine AQ.q rfl rfl (fun hg => by first | exact PRun.step tabOk rfl (by first | exact True.intro | exact ⟨True.intro, True.intro, True.intro⟩ | exact hg | exact ⟨True.intro, True.intro⟩ | exact ⟨hg, hg, True.intro⟩ | (repeat' (first | exact True.intro | exact hg | omega | decide | refine ⟨?_, ?_⟩ | (intro h; change (_ == _) = true; rw [h]; rfl) | (intro h; change (_ && (_ == _)) = true; rw [Bool.and_eq_true]; exact ⟨hg, by rw [h]; rfl⟩) | (exfalso; revert hg; simp; done) | (simp at hc; omega) | (exfalso; simp at hc; done)))) | exact PRun.callW (head_spec) rfl rfl (by first | exact True.intro | exact hg) rfl (by first | exact True.intro | exact ⟨True.intro, True.intro⟩ | exact ⟨True.intro, True.intro, True.intro⟩ | (repeat' (first | exact True.intro | exact hg | refine ⟨?_, ?_⟩))) | exact PRun.callW (few_spec e) rfl rfl (by first | exact True.intro | exact hg) rfl (by first | exact True.intro | exact ⟨True.intro, True.intro⟩ | exact ⟨True.intro, True.intro, True.intro⟩ | (repeat' (first | exact True.intro | exact hg | refine ⟨?_, ?_⟩))) | exact PRun.callW (form_spec e) rfl rfl (by first | exact True.intro | exact hg) rfl (by first | exact True.intro | exact ⟨True.intro, True.intro⟩ | exact ⟨True.intro, True.intro, True.intro⟩ | (repeat' (first | exact True.intro | exact hg | refine ⟨?_, ?_⟩))) | exact PRun.callW (let_spec e hw nm hn) rfl rfl (by first | exact True.intro | exact hg) rfl (by first | exact True.intro | exact ⟨True.intro, True.intro⟩ | exact ⟨True.intro, True.intro, True.intro⟩ | (repeat' (first | exact True.intro | exact hg | refine ⟨?_, ?_⟩))) | exact PRun.indexMW tabOk rfl rfl (by first | exact True.intro | exact hg) rfl (by first | exact True.intro | exact hg) rfl rfl (by omega) | exact PRun.lenM tabOk rfl rfl (by first | exact True.intro | exact hg) rfl | exact PRun.lenW tabOk rfl rfl (by first | exact True.intro | exact hg) rfl | exact PRun.binW rfl rfl (by first | exact True.intro | exact hg) rfl (by first | exact True.intro | exact hg) rfl | exact PRun.negWr rfl rfl (by first | exact True.intro | exact hg)) (by exact rfl) ?_
    | refine AWP.drawK (by kernel_rfl) (by decide +kernel) rfl (fun K' hK => ?_))
  · exact ⟨.inr rfl, fun _ _ h => h⟩
  have hform : formB e = true := by
    simp only [Bool.or_eq_false_iff, Bool.not_eq_false', decide_eq_false_iff_not] at hc
    exact hc.1.2
  clear hc
  repeat' (first
    | refine AOps.q rfl rfl rfl (fun hg => by first | exact PRun.step tabOk rfl (by first | exact True.intro | exact ⟨True.intro, True.intro, True.intro⟩ | exact hg | exact ⟨True.intro, True.intro⟩ | exact ⟨hg, hg, True.intro⟩ | (repeat' (first | exact True.intro | exact hg | omega | decide | refine ⟨?_, ?_⟩ | (intro h; change (_ == _) = true; rw [h]; rfl) | (intro h; change (_ && (_ == _)) = true; rw [Bool.and_eq_true]; exact ⟨hg, by rw [h]; rfl⟩) | (exfalso; revert hg; simp; done) | (simp at hc; omega) | (exfalso; simp at hc; done)))) | exact PRun.callW (let_spec e hw nm hn) rfl rfl (by first | exact True.intro | exact hg) rfl (by first | exact True.intro | exact ⟨True.intro, True.intro⟩ | exact ⟨True.intro, True.intro, True.intro⟩ | (repeat' (first | exact True.intro | exact hg | refine ⟨?_, ?_⟩))) | exact PRun.indexMW tabOk rfl rfl (by first | exact True.intro | exact hg) rfl (by first | exact True.intro | exact hg) rfl rfl (by omega) | exact PRun.lenM tabOk rfl rfl (by first | exact True.intro | exact hg) rfl | exact PRun.lenW tabOk rfl rfl (by first | exact True.intro | exact hg) rfl | exact PRun.binW rfl rfl (by first | exact True.intro | exact hg) rfl (by first | exact True.intro | exact hg) rfl | exact PRun.negWr rfl rfl (by first | exact True.intro | exact hg)) (by exact rfl) ?_
    | refine AWP.seq ?_
    | refine AWP.regionK (fun K' hK => ?_)
    | (refine AOps.nil (hK _ _ ?_); clear hK K')
    | refine AOps.e (EStep.boxW rfl rfl rfl rfl rfl True.intro rfl rfl ?_)
    | refine AOps.e (EStep.storeW tabOk rfl rfl rfl True.intro rfl rfl True.intro rfl rfl rfl rfl rfl rfl rfl ?_)
    | refine AOps.e (EStep.allocW tabOk rfl rfl rfl rfl rfl rfl ?_)
    | (refine AWP.condW rfl True.intro (fun hc => ?_) (fun hc => ?_) <;> (first | (simp only [decide_eq_true_eq] at hc) | (simp only [decide_eq_false_iff_not, Int.not_lt, Int.not_le] at hc) | skip))
    | refine AWP.block ?_
    | refine AWP.exit ?_
    | refine AWP.skip ?_
    | refine AWP.ret ?_
    | (refine AQ.nil (hK _ ?_); clear hK K')
    | refine AQ.nil ?_
    | refine AQ.q rfl rfl (fun hg => by first | exact PRun.step tabOk rfl (by first | exact True.intro | exact ⟨True.intro, True.intro, True.intro⟩ | exact hg | exact ⟨True.intro, True.intro⟩ | exact ⟨hg, hg, True.intro⟩ | (repeat' (first | exact True.intro | exact hg | omega | decide | refine ⟨?_, ?_⟩ | (intro h; change (_ == _) = true; rw [h]; rfl) | (intro h; change (_ && (_ == _)) = true; rw [Bool.and_eq_true]; exact ⟨hg, by rw [h]; rfl⟩) | (exfalso; revert hg; simp; done) | (simp at hc; omega) | (exfalso; simp at hc; done)))) | exact PRun.callW (let_spec e hw nm hn) rfl rfl (by first | exact True.intro | exact hg) rfl (by first | exact True.intro | exact ⟨True.intro, True.intro⟩ | exact ⟨True.intro, True.intro, True.intro⟩ | (repeat' (first | exact True.intro | exact hg | refine ⟨?_, ?_⟩))) | exact PRun.indexMW tabOk rfl rfl (by first | exact True.intro | exact hg) rfl (by first | exact True.intro | exact hg) rfl rfl (by omega) | exact PRun.lenM tabOk rfl rfl (by first | exact True.intro | exact hg) rfl | exact PRun.lenW tabOk rfl rfl (by first | exact True.intro | exact hg) rfl | exact PRun.binW rfl rfl (by first | exact True.intro | exact hg) rfl (by first | exact True.intro | exact hg) rfl | exact PRun.negWr rfl rfl (by first | exact True.intro | exact hg)) (by exact rfl) ?_
    | refine AWP.drawK (by kernel_rfl) (by decide +kernel) rfl (fun K' hK => ?_))
  refine AWP.loopD (ι := Nat) (fun k => [(1, .prim (.int .u8 which)), (2, .str nm), (3, .ptr 0 0), (7, .b true), (8, .int (letR e nm).1), (9, .int (letR e nm).2), (10, .b (lk (lettersAL (e.letters.take k)) nm).isSome), (11, .int ((lk (lettersAL (e.letters.take k)) nm).getD 0)), (39, .sl 2 (e.letters.map encL) .no), (40, .int e.letters.length), (41, .int k)]) (fun _ => [.var (encE e)])
    (fun k => k ≤ e.letters.length) (fun k => e.letters.length - k) 1 (fun _ => rfl) 0 (Nat.zero_le _) ⟨rfl, rfl, rfl, rfl, rfl, rfl, rfl, rfl, rfl, rfl, rfl, True.intro⟩ rfl (fun _ _ => rfl) (fun k _ => rfl) ?_
  intro k hk
  by_cases hlt : k < e.letters.length
  · have hs := lk_letters e.letters k hlt nm
    repeat' (first
      | refine AOps.q rfl rfl rfl (fun hg => by first | exact PRun.step tabOk rfl (by first | exact True.intro | exact ⟨True.intro, True.intro, True.intro⟩ | exact hg | exact ⟨True.intro, True.intro⟩ | exact ⟨hg, hg, True.intro⟩ | (repeat' (first | exact True.intro | exact hg | omega | decide | refine ⟨?_, ?_⟩ | (intro h; change (_ == _) = true; rw [h]; rfl) | (intro h; change (_ && (_ == _)) = true; rw [Bool.and_eq_true]; exact ⟨hg, by rw [h]; rfl⟩) | (exfalso; revert hg; simp; done) | (simp at hc; omega) | (exfalso; simp at hc; done)))) | exact PRun.indexMW tabOk rfl rfl (by first | exact True.intro | exact hg) rfl (by first | exact True.intro | exact hg) rfl rfl (by omega) | exact PRun.lenM tabOk rfl rfl (by first | exact True.intro | exact hg) rfl | exact PRun.lenW tabOk rfl rfl (by first | exact True.intro | exact hg) rfl | exact PRun.binW rfl rfl (by first | exact True.intro | exact hg) rfl (by first | exact True.intro | exact hg) rfl | exact PRun.negWr rfl rfl (by first | exact True.intro | exact hg)) (by exact rfl) ?_
      | refine AWP.seq ?_
      | refine AWP.regionK (fun K' hK => ?_)
      | (refine AOps.nil (hK _ _ ?_); clear hK K')
      | refine AOps.e (EStep.boxW rfl rfl rfl rfl rfl True.intro rfl rfl ?_)
      | refine AOps.e (EStep.storeW tabOk rfl rfl rfl True.intro rfl rfl True.intro rfl rfl rfl rfl rfl rfl rfl ?_)
      | refine AOps.e (EStep.allocW tabOk rfl rfl rfl rfl rfl rfl ?_)
      | (refine AWP.condW rfl True.intro (fun hc => ?_) (fun hc => ?_) <;> (first | (simp only [decide_eq_true_eq] at hc) | (simp only [decide_eq_false_iff_not, Int.not_lt, Int.not_le] at hc) | skip))
      | refine AWP.block ?_
      | refine AWP.exit ?_
      | refine AWP.skip ?_
      | refine AWP.ret ?_
      | (refine AQ.nil (hK _ ?_); clear hK K')
      | refine AQ.nil ?_
      | refine AQ.q rfl rfl (fun hg => by first | exact PRun.step tabOk rfl (by first | exact True.intro | exact ⟨True.intro, True.intro, True.intro⟩ | exact hg | exact ⟨True.intro, True.intro⟩ | exact ⟨hg, hg, True.intro⟩ | (repeat' (first | exact True.intro | exact hg | omega | decide | refine ⟨?_, ?_⟩ | (intro h; change (_ == _) = true; rw [h]; rfl) | (intro h; change (_ && (_ == _)) = true; rw [Bool.and_eq_true]; exact ⟨hg, by rw [h]; rfl⟩) | (exfalso; revert hg; simp; done) | (simp at hc; omega) | (exfalso; simp at hc; done)))) | exact PRun.indexMW tabOk rfl rfl (by first | exact True.intro | exact hg) rfl (by first | exact True.intro | exact hg) rfl rfl (by omega) | exact PRun.lenM tabOk rfl rfl (by first | exact True.intro | exact hg) rfl | exact PRun.lenW tabOk rfl rfl (by first | exact True.intro | exact hg) rfl | exact PRun.binW rfl rfl (by first | exact True.intro | exact hg) rfl (by first | exact True.intro | exact hg) rfl | exact PRun.negWr rfl rfl (by first | exact True.intro | exact hg)) (by exact rfl) ?_
      | refine AWP.drawK (by kernel_rfl) (by decide +kernel) rfl (fun K' hK => ?_))
    · have he : (e.letters.getD k default).name = nm := bytes_toList hc
      rw [if_pos he] at hs
      exact ⟨k + 1, by omega, by omega, ⟨rfl, rfl, rfl, rfl, rfl, rfl, by rw [hs]; rfl, by rw [hs]; rfl, rfl, rfl, rfl, True.intro⟩, rfl⟩
    · have he : ¬ (e.letters.getD k default).name = nm := fun h => by
        have h2 : ((e.letters.getD k default).name.toList == nm.toList) = false := hc
        rw [h] at h2; simp at h2
      rw [if_neg he] at hs
      exact ⟨k + 1, by omega, by omega, ⟨rfl, rfl, rfl, rfl, rfl, rfl, by rw [hs]; rfl, by rw [hs]; rfl, rfl, rfl, rfl, True.intro⟩, rfl⟩
    all_goals (exfalso; omega)
  · have htk : e.letters.take k = e.letters := List.take_of_length_le (by omega)
    rw [htk]
    obtain ⟨f1, f2⟩ := letR_known hform nm
    have wrong : ∀ hc : ((((letR e nm).2 == 0) != (lk (lettersAL e.letters) nm).isSome) || ((letR e nm).1 != (lk (lettersAL e.letters) nm).getD 0)) = true, False := fun hc => by
      rw [f1, f2] at hc; simp at hc
    have hL0 : e.letters.length = 0 → lk (lettersAL e.letters) nm = none := fun hz => by rw [List.eq_nil_of_length_eq_zero hz]; rfl
    repeat' (first
      | refine AOps.q rfl rfl rfl (fun hg => by first | exact PRun.step tabOk rfl (by first | exact True.intro | exact ⟨True.intro, True.intro, True.intro⟩ | exact hg | exact ⟨True.intro, True.intro⟩ | exact ⟨hg, hg, True.intro⟩ | (repeat' (first | exact True.intro | exact hg | omega | decide | refine ⟨?_, ?_⟩ | (intro h; change (_ == _) = true; rw [h]; rfl) | (intro h; change (_ && (_ == _)) = true; rw [Bool.and_eq_true]; exact ⟨hg, by rw [h]; rfl⟩) | (exfalso; revert hg; simp; done) | (simp at hc; omega) | (exfalso; simp at hc; done)))) | exact PRun.indexMW tabOk rfl rfl (by first | exact True.intro | exact hg) rfl (by first | exact True.intro | exact hg) rfl rfl (by omega) | exact PRun.lenM tabOk rfl rfl (by first | exact True.intro | exact hg) rfl | exact PRun.lenW tabOk rfl rfl (by first | exact True.intro | exact hg) rfl | exact PRun.binW rfl rfl (by first | exact True.intro | exact hg) rfl (by first | exact True.intro | exact hg) rfl | exact PRun.negWr rfl rfl (by first | exact True.intro | exact hg)) (by exact rfl) ?_
      | refine AWP.seq ?_
      | refine AWP.regionK (fun K' hK => ?_)
      | (refine AOps.nil (hK _ _ ?_); clear hK K')
      | refine AOps.e (EStep.boxW rfl rfl rfl rfl rfl True.intro rfl rfl ?_)
      | refine AOps.e (EStep.storeW tabOk rfl rfl rfl True.intro rfl rfl True.intro rfl rfl rfl rfl rfl rfl rfl ?_)
      | refine AOps.e (EStep.allocW tabOk rfl rfl rfl rfl rfl rfl ?_)
      | (refine AWP.condW rfl True.intro (fun hc => ?_) (fun hc => ?_) <;> (first | (simp only [decide_eq_true_eq] at hc) | (simp only [decide_eq_false_iff_not, Int.not_lt, Int.not_le] at hc) | skip))
      | refine AWP.block ?_
      | refine AWP.exit ?_
      | refine AWP.skip ?_
      | refine AWP.ret ?_
      | (refine AQ.nil (hK _ ?_); clear hK K')
      | refine AQ.nil ?_
      | refine AQ.q rfl rfl (fun hg => by first | exact PRun.step tabOk rfl (by first | exact True.intro | exact ⟨True.intro, True.intro, True.intro⟩ | exact hg | exact ⟨True.intro, True.intro⟩ | exact ⟨hg, hg, True.intro⟩ | (repeat' (first | exact True.intro | exact hg | omega | decide | refine ⟨?_, ?_⟩ | (intro h; change (_ == _) = true; rw [h]; rfl) | (intro h; change (_ && (_ == _)) = true; rw [Bool.and_eq_true]; exact ⟨hg, by rw [h]; rfl⟩) | (exfalso; revert hg; simp; done) | (simp at hc; omega) | (exfalso; simp at hc; done)))) | exact PRun.indexMW tabOk rfl rfl (by first | exact True.intro | exact hg) rfl (by first | exact True.intro | exact hg) rfl rfl (by omega) | exact PRun.lenM tabOk rfl rfl (by first | exact True.intro | exact hg) rfl | exact PRun.lenW tabOk rfl rfl (by first | exact True.intro | exact hg) rfl | exact PRun.binW rfl rfl (by first | exact True.intro | exact hg) rfl (by first | exact True.intro | exact hg) rfl | exact PRun.negWr rfl rfl (by first | exact True.intro | exact hg)) (by exact rfl) ?_)
    all_goals try (exfalso; omega)
    · exfalso; exact wrong hc
    · have hz : e.letters.length = 0 := by have : ((e.letters.length : Nat) : Int) = 0 := by simpa using hc
                                           omega
      rw [hL0 hz] at f2
      have h0 : ((letR e nm).2 == 0) = false := by simpa using f2
      refine ⟨.inr rfl, ?_⟩
      show Ent (AV.b (true && !((letR e nm).2 == 0))) _
      rw [h0]
      exact fun _ _ h => h
    · have hz : (e.letters.length : Int) ≠ 0 := by simpa using hc
      clear hc wrong
      have hwr : IntKind.i64.wrap which = which := wrap64_in ⟨by omega, by omega⟩
      have hm0 : 0 ≤ (IntKind.i64.wrap which).tmod e.letters.length := Int.tmod_nonneg _ (by rw [hwr]; omega)
      have hm1 : (IntKind.i64.wrap which).tmod e.letters.length < e.letters.length := Int.tmod_lt_of_pos _ (by omega)
      refine AWP.drawX (fun k => match k with | 0 => [.var (encE e)] | 1 => [.var (encE e), .var [.str ⟨#[]⟩, .int 0]] | _ => [.var (encE e), .var (encL (e.letters.getD ((IntKind.i64.wrap which).tmod e.letters.length).toNat default))]) 2 (fun o => match o.op with | .alloc _ => true | .store _ _ _ => true | _ => false) rfl (by kernel_rfl) (by decide +kernel) rfl (by decide +kernel) (fun K' hK => ?_)
      repeat' (first
        | refine XQ.q rfl rfl rfl rfl (fun k hk hg => by (have hk3 : k = 0 ∨ k = 1 ∨ k = 2 := (by omega)); (rcases hk3 with rfl | rfl | rfl) <;> (first | exact PRun.step tabOk rfl (by first | exact True.intro | exact ⟨True.intro, True.intro, True.intro⟩ | exact hg | exact ⟨True.intro, True.intro⟩ | exact ⟨hg, hg, True.intro⟩ | (repeat' (first | exact True.intro | exact hg | omega | decide | refine ⟨?_, ?_⟩ | (intro h; change (_ == _) = true; rw [h]; rfl) | (intro h; change (_ && (_ == _)) = true; rw [Bool.and_eq_true]; exact ⟨hg, by rw [h]; rfl⟩) | (exfalso; revert hg; simp; done) | (simp at hc; omega) | (exfalso; simp at hc; done)))) | exact PRun.indexMW tabOk rfl rfl (by first | exact True.intro | exact hg) rfl (by first | exact True.intro | exact hg) rfl rfl (by omega) | exact PRun.lenM tabOk rfl rfl (by first | exact True.intro | exact hg) rfl | exact PRun.lenW tabOk rfl rfl (by first | exact True.intro | exact hg) rfl | exact PRun.binW rfl rfl (by first | exact True.intro | exact hg) rfl (by first | exact True.intro | exact hg) rfl | exact PRun.negWr rfl rfl (by first | exact True.intro | exact hg))) (by exact rfl) ?_)
      refine XQ.e (v := .ptr 1 0) (d := some 14) rfl rfl rfl ?_ ?_
      · intro env' he
        exact EStep.allocW tabOk rfl rfl rfl rfl rfl rfl ⟨rfl, rfl⟩
      refine XQ.e (v := .any) (d := none) rfl rfl rfl ?_ ?_
      · intro env' he
        refine EStep.storeW tabOk rfl rfl (by rw [rdv_congr (he 14 (by decide +kernel))]; rfl) (by rw [rdn_congr (he 14 (by decide +kernel))]; exact True.intro) rfl (by rw [rdv_congr (he 79 (by decide +kernel))]; rfl) (by rw [rdn_congr (he 79 (by decide +kernel))]; exact True.intro) rfl rfl rfl rfl rfl rfl rfl ⟨rfl, rfl⟩
      refine XQ.nil (hK _ _ ?_)
      clear hK K'
      have hi : ((IntKind.i64.wrap which).tmod e.letters.length).toNat < e.letters.length := by omega
      have hln : (e.letters.getD ((IntKind.i64.wrap which).tmod e.letters.length).toNat default).name.size ≤ 9223372036854775807 := hw.names _ (getD_mem hi)
      have hfound := letR_at hform hi
      generalize hx : e.letters.getD ((IntKind.i64.wrap which).tmod e.letters.length).toNat default = x at *
      show AWP _ _ _ _ _ [.var (encE e), .var (encL x)]
      repeat' (first
        | refine AOps.q rfl rfl rfl (fun hg => by first | exact PRun.step tabOk rfl (by first | exact True.intro | exact ⟨True.intro, True.intro, True.intro⟩ | exact hg | exact ⟨True.intro, True.intro⟩ | exact ⟨hg, hg, True.intro⟩ | (repeat' (first | exact True.intro | exact hg | omega | decide | refine ⟨?_, ?_⟩ | (intro h; change (_ == _) = true; rw [h]; rfl) | (intro h; change (_ && (_ == _)) = true; rw [Bool.and_eq_true]; exact ⟨hg, by rw [h]; rfl⟩) | (exfalso; revert hg; simp; done) | (simp at hc; omega) | (exfalso; simp at hc; done)))) | exact PRun.callW (let_spec e hw x.name hln) rfl rfl (by first | exact True.intro | exact hg) rfl (by first | exact True.intro | exact ⟨True.intro, True.intro⟩ | exact ⟨True.intro, True.intro, True.intro⟩ | (repeat' (first | exact True.intro | exact hg | refine ⟨?_, ?_⟩))) | exact PRun.indexMW tabOk rfl rfl (by first | exact True.intro | exact hg) rfl (by first | exact True.intro | exact hg) rfl rfl (by omega) | exact PRun.lenM tabOk rfl rfl (by first | exact True.intro | exact hg) rfl | exact PRun.lenW tabOk rfl rfl (by first | exact True.intro | exact hg) rfl | exact PRun.binW rfl rfl (by first | exact True.intro | exact hg) rfl (by first | exact True.intro | exact hg) rfl | exact PRun.negWr rfl rfl (by first | exact True.intro | exact hg)) (by exact rfl) ?_
        | refine AWP.seq ?_
        | refine AWP.regionK (fun K' hK => ?_)
        | (refine AOps.nil (hK _ _ ?_); clear hK K')
        | refine AOps.e (EStep.boxW rfl rfl rfl rfl rfl True.intro rfl rfl ?_)
        | refine AOps.e (EStep.storeW tabOk rfl rfl rfl True.intro rfl rfl True.intro rfl rfl rfl rfl rfl rfl rfl ?_)
        | refine AOps.e (EStep.allocW tabOk rfl rfl rfl rfl rfl rfl ?_)
        | (refine AWP.condW rfl True.intro (fun hc => ?_) (fun hc => ?_) <;> (first | (simp only [decide_eq_true_eq] at hc) | (simp only [decide_eq_false_iff_not, Int.not_lt, Int.not_le] at hc) | skip))
        | refine AWP.block ?_
        | refine AWP.exit ?_
        | refine AWP.skip ?_
        | refine AWP.ret ?_
        | (refine AQ.nil (hK _ ?_); clear hK K')
        | refine AQ.nil ?_
        | refine AQ.q rfl rfl (fun hg => by first | exact PRun.step tabOk rfl (by first | exact True.intro | exact ⟨True.intro, True.intro, True.intro⟩ | exact hg | exact ⟨True.intro, True.intro⟩ | exact ⟨hg, hg, True.intro⟩ | (repeat' (first | exact True.intro | exact hg | omega | decide | refine ⟨?_, ?_⟩ | (intro h; change (_ == _) = true; rw [h]; rfl) | (intro h; change (_ && (_ == _)) = true; rw [Bool.and_eq_true]; exact ⟨hg, by rw [h]; rfl⟩) | (exfalso; revert hg; simp; done) | (simp at hc; omega) | (exfalso; simp at hc; done)))) | exact PRun.callW (let_spec e hw x.name hln) rfl rfl (by first | exact True.intro | exact hg) rfl (by first | exact True.intro | exact ⟨True.intro, True.intro⟩ | exact ⟨True.intro, True.intro, True.intro⟩ | (repeat' (first | exact True.intro | exact hg | refine ⟨?_, ?_⟩))) | exact PRun.indexMW tabOk rfl rfl (by first | exact True.intro | exact hg) rfl (by first | exact True.intro | exact hg) rfl rfl (by omega) | exact PRun.lenM tabOk rfl rfl (by first | exact True.intro | exact hg) rfl | exact PRun.lenW tabOk rfl rfl (by first | exact True.intro | exact hg) rfl | exact PRun.binW rfl rfl (by first | exact True.intro | exact hg) rfl (by first | exact True.intro | exact hg) rfl | exact PRun.negWr rfl rfl (by first | exact True.intro | exact hg)) (by exact rfl) ?_
        | refine AWP.drawK (by kernel_rfl) (by decide +kernel) rfl (fun K' hK => ?_))
      refine ⟨.inr rfl, ?_⟩
      rw [hfound]
      show Ent (AV.b (true && true && (x.pos == x.pos))) _
      rw [beq_self_eq_true]
      exact fun _ _ h => h
end Go.Proofs.Ytjjlckhdgnoopaa
