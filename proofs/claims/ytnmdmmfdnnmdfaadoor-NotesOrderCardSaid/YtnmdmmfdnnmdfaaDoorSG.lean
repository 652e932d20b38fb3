/- Contracts by content: the reference's order and sort of notes. No statement is proved here. -/
import Derived.Test.YtnmdmmfdnnmdfaaDoorSF
set_option linter.unusedVariables false
set_option linter.unusedSimpArgs false
namespace Go.Proofs.YtnmdmmfdnnmdfaaDoor
open Go.Ab Go.Sort
attribute [local irreducible] AWP AOps EStep AQ PStep PRun PCall TCall VCall

theorem bneF {a b : Int} (h : (a != b) = false) : (a == b) = true := by simpa using h
theorem bneT {a b : Int} (h : (a != b) = true) : (a == b) = false := by simpa using h
theorem lk0_bar {bars : List Bar} {n : Note} (hb : barsOk bars = true) (h : noteOk bars n = true) : barAt bars n.bar = lk0 (idxAL bars) n.bar := by
  rcases lk_bar (barsOk_nodup hb) n.bar with ⟨h1, h2⟩ | ⟨j, h1, h2, h3, h4⟩
  · unfold noteOk at h; rw [h1] at h; cases h
  · unfold lk0; rw [h1, h2]; rfl
theorem noteOk_form {bars : List Bar} {n : Note} (h : noteOk bars n = true) : durOk n.start = true ∧ pitchOk n.pitch = true := by
  unfold noteOk at h
  split at h
  · unfold nformed fits noteForm noteP at h
    simp only [Bool.and_eq_true] at h
    refine ⟨?_, h.2.2.1.1⟩
    have := h.1.1.1.1
    unfold ticksR at this
    by_cases h2 : durOk n.start = true
    · exact h2
    · rw [if_neg h2] at this; cases this
  · cases h
set_option maxHeartbeats 4000000 in
theorem keys_spec (bars : List Bar) (n : Note) (hl : bars.length ≤ 9223372036854775807) (hb : barsOk bars = true) (h : noteOk bars n = true) : PCall Tryd.prog 69 [.sl 4 (bars.map encB) .no, .agg (encN n)] (.sl 1 ((keyN (idxAL bars) n).map fun n => [AV.int n]) .no) := by
  obtain ⟨f1, f2⟩ := noteOk_form h
  have h1 := r7bar_spec bars n.bar hl
  rw [lk0_bar hb h] at h1
  have h2 := ticks6_spec n.start
  have e2 : ticksX n.start = (ticksR n.start).1 := by unfold ticksX ticksR; rw [if_pos f1, if_pos f1]
  rw [e2] at h2
  have h3 := sound_spec n.pitch (pitchIn_ok f2)
  rw [soundR_num f2] at h3
  refine PCall.body Tryd.func69 rfl rfl Tryd.ntmps69 rfl rfl ?_
  repeat' (first | refine AOps.q rfl rfl rfl (fun hg => by first | exact std0 | exact PRun.callW (h1) rfl rfl nd rfl nds | exact PRun.callW (h2) rfl rfl nd rfl nds | exact PRun.callW (h3) rfl rfl nd rfl nds | exact PRun.buildSlW tabOk rfl rfl nds | exact std1) (by exact rfl) ?_ | refine AWP.seq ?_ | refine AWP.regionK (fun K' hK => ?_) | (refine AOps.nil (hK _ _ ?_); clear hK K') | refine AOps.e (EStep.boxW rfl rfl rfl rfl rfl True.intro rfl rfl ?_) | refine AOps.e (EStep.storeW tabOk rfl rfl rfl True.intro rfl rfl True.intro rfl rfl rfl rfl rfl rfl rfl ?_) | refine AOps.e (EStep.allocW tabOk rfl rfl rfl rfl rfl rfl ?_) | (refine AWP.condW rfl True.intro (fun hc => ?_) (fun hc => ?_) <;> (first | (simp only [decide_eq_true_eq] at hc) | (simp only [decide_eq_false_iff_not, Int.not_lt, Int.not_le] at hc) | skip)) | refine AWP.block ?_ | refine AWP.exit ?_ | refine AWP.skip ?_ | refine AWP.ret ?_ | refine AWP.drawK2 (by decide +kernel) (by kernel_rfl) (by decide +kernel) rfl (fun K' hK => ?_) | refine AWP.drawL2 (by kernel_rfl) (by decide +kernel) rfl (fun K' hK => ?_) | (refine AQ.nil (hK _ ?_); clear hK K') | refine AQ.nil ?_ | refine AQ.q rfl rfl (fun hg => by first | exact std0 | exact PRun.callW (h1) rfl rfl nd rfl nds | exact PRun.callW (h2) rfl rfl nd rfl nds | exact PRun.callW (h3) rfl rfl nd rfl nds | exact PRun.buildSlW tabOk rfl rfl nds | exact std1) (by exact rfl) ?_)
  exact ⟨.inr rfl, Ent.of rfl⟩
theorem cmpK_diff {a b : List Int} {k : Nat} (hl : a.length = b.length) (hk : k < a.length) (h : ∀ j, j < k → a.getD j default = b.getD j default) (h1 : a.getD k default ≠ b.getD k default) : cmpK a b = a.getD k default - b.getD k default := by
  unfold cmpK
  have hz : ∀ j, j < a.length → (List.zipWith (· - ·) a b).getD j default = a.getD j default - b.getD j default := fun j hj => by
    rw [getD_lt (show j < (List.zipWith (· - ·) a b).length by simp; omega), getD_lt hj, getD_lt (show j < b.length by omega), List.getElem_zipWith]
  rw [orL_first (k := k) (by simp; omega) (fun j hj => by rw [hz j (by omega), h j hj]; show _ - _ = (0 : Int); omega) (by rw [hz k hk]; omega), hz k hk]
theorem cmpK_same {a b : List Int} (hl : a.length = b.length) (h : ∀ j, j < a.length → a.getD j default = b.getD j default) : cmpK a b = 0 := by
  unfold cmpK
  refine orL_zero fun j hj => ?_
  simp only [List.length_zipWith] at hj
  rw [getD_lt (show j < (List.zipWith (· - ·) a b).length by simp; omega), List.getElem_zipWith]
  have := h j (by omega)
  rw [getD_lt (by omega), getD_lt (by omega)] at this
  omega
theorem before_spec (bars : List Bar) (a b : Note) (hl : bars.length ≤ 9223372036854775807) (hb : barsOk bars = true) (ha' : noteOk bars a = true) (hb' : noteOk bars b = true) :
    PCall Tryd.prog 30 [.sl 4 (bars.map encB) .no, .agg (encN a), .agg (encN b)] (.b (bef (idxAL bars) a b)) := by
  have h1 := keys_spec bars a hl hb ha'
  have h2 := keys_spec bars b hl hb hb'
  have l1 : (keyN (idxAL bars) a).length = 6 := rfl
  have l2 : (keyN (idxAL bars) b).length = 6 := rfl
  unfold bef
  generalize keyN (idxAL bars) a = x at *
  generalize keyN (idxAL bars) b = y at *
  refine PCall.body Tryd.func30 rfl rfl Tryd.ntmps30 rfl rfl ?_
  repeat' (first | refine AOps.q rfl rfl rfl (fun hg => by first | exact std0 | exact PRun.callW (h1) rfl rfl nd rfl nds | exact PRun.callW (h2) rfl rfl nd rfl nds | exact std1) (by exact rfl) ?_ | refine AWP.seq ?_ | refine AWP.regionK (fun K' hK => ?_) | (refine AOps.nil (hK _ _ ?_); clear hK K') | refine AOps.e (EStep.boxW rfl rfl rfl rfl rfl True.intro rfl rfl ?_) | refine AOps.e (EStep.storeW tabOk rfl rfl rfl True.intro rfl rfl True.intro rfl rfl rfl rfl rfl rfl rfl ?_) | refine AOps.e (EStep.allocW tabOk rfl rfl rfl rfl rfl rfl ?_) | (refine AWP.condW rfl True.intro (fun hc => ?_) (fun hc => ?_) <;> (first | (simp only [decide_eq_true_eq] at hc) | (simp only [decide_eq_false_iff_not, Int.not_lt, Int.not_le] at hc) | skip)) | refine AWP.block ?_ | refine AWP.exit ?_ | refine AWP.skip ?_ | refine AWP.ret ?_ | refine AWP.drawK2 (by decide +kernel) (by kernel_rfl) (by decide +kernel) rfl (fun K' hK => ?_) | refine AWP.drawL2 (by kernel_rfl) (by decide +kernel) rfl (fun K' hK => ?_) | (refine AQ.nil (hK _ ?_); clear hK K') | refine AQ.nil ?_ | refine AQ.q rfl rfl (fun hg => by first | exact std0 | exact PRun.callW (h1) rfl rfl nd rfl nds | exact PRun.callW (h2) rfl rfl nd rfl nds | exact std1) (by exact rfl) ?_)
  refine AWP.loopW (ι := Nat) (fun k => [(7, .sl 1 (x.map fun n => [AV.int n]) .no), (8, .sl 1 (y.map fun n => [AV.int n]) .no), (9, .int k)]) (fun _ => [.var (encN a), .var (encN b)]) (fun k => k ≤ x.length ∧ ∀ j, j < k → x.getD j default = y.getD j default) (fun k => x.length - k) 0 ⟨Nat.zero_le _, fun j h => absurd h (by omega)⟩ ⟨rfl, rfl, rfl, True.intro⟩ rfl ?_
  rintro k ⟨hk, hall⟩
  by_cases hlt : k < x.length
  · repeat' (first | refine AOps.q rfl rfl rfl (fun hg => by first | exact std0 | exact std1) (by exact rfl) ?_ | refine AWP.seq ?_ | refine AWP.regionK (fun K' hK => ?_) | (refine AOps.nil (hK _ _ ?_); clear hK K') | refine AOps.e (EStep.boxW rfl rfl rfl rfl rfl True.intro rfl rfl ?_) | refine AOps.e (EStep.storeW tabOk rfl rfl rfl True.intro rfl rfl True.intro rfl rfl rfl rfl rfl rfl rfl ?_) | refine AOps.e (EStep.allocW tabOk rfl rfl rfl rfl rfl rfl ?_) | (refine AWP.condW rfl True.intro (fun hc => ?_) (fun hc => ?_) <;> (first | (simp only [decide_eq_true_eq] at hc) | (simp only [decide_eq_false_iff_not, Int.not_lt, Int.not_le] at hc) | skip)) | refine AWP.block ?_ | refine AWP.exit ?_ | refine AWP.skip ?_ | refine AWP.ret ?_ | refine AWP.drawK2 (by decide +kernel) (by kernel_rfl) (by decide +kernel) rfl (fun K' hK => ?_) | refine AWP.drawL2 (by kernel_rfl) (by decide +kernel) rfl (fun K' hK => ?_) | (refine AQ.nil (hK _ ?_); clear hK K') | refine AQ.nil ?_ | refine AQ.q rfl rfl (fun hg => by first | exact std0 | exact std1) (by exact rfl) ?_)
    all_goals (first | (exfalso; omega) | skip)
    · refine ⟨.inr rfl, Ent.b ?_⟩
      have h5 : x.getD k default ≠ y.getD k default := by
        have := bneT hc
        rw [Int.toNat_natCast] at this
        simpa using this
      rw [cmpK_diff (by omega) hlt hall h5, Int.toNat_natCast, decide_eq_decide]
      omega
    · refine ⟨k + 1, ⟨by omega, fun j hj => lt_succ_cases hall ?_ hj⟩, by omega, ⟨rfl, rfl, rfl, True.intro⟩, rfl⟩
      have := bneF hc
      rw [Int.toNat_natCast] at this
      simpa using this
  · repeat' (first | refine AOps.q rfl rfl rfl (fun hg => by first | exact std0 | exact std1) (by exact rfl) ?_ | refine AWP.seq ?_ | refine AWP.regionK (fun K' hK => ?_) | (refine AOps.nil (hK _ _ ?_); clear hK K') | refine AOps.e (EStep.boxW rfl rfl rfl rfl rfl True.intro rfl rfl ?_) | refine AOps.e (EStep.storeW tabOk rfl rfl rfl True.intro rfl rfl True.intro rfl rfl rfl rfl rfl rfl rfl ?_) | refine AOps.e (EStep.allocW tabOk rfl rfl rfl rfl rfl rfl ?_) | (refine AWP.condW rfl True.intro (fun hc => ?_) (fun hc => ?_) <;> (first | (simp only [decide_eq_true_eq] at hc) | (simp only [decide_eq_false_iff_not, Int.not_lt, Int.not_le] at hc) | skip)) | refine AWP.block ?_ | refine AWP.exit ?_ | refine AWP.skip ?_ | refine AWP.ret ?_ | refine AWP.drawK2 (by decide +kernel) (by kernel_rfl) (by decide +kernel) rfl (fun K' hK => ?_) | refine AWP.drawL2 (by kernel_rfl) (by decide +kernel) rfl (fun K' hK => ?_) | (refine AQ.nil (hK _ ?_); clear hK K') | refine AQ.nil ?_ | refine AQ.q rfl rfl (fun hg => by first | exact std0 | exact std1) (by exact rfl) ?_)
    all_goals (first | (exfalso; omega) | skip)
    refine ⟨.inr rfl, Ent.b ?_⟩
    rw [cmpK_same (by omega) fun j hj => hall j (by omega)]; rfl
theorem gp {k : Nat} (h : (decide ((k : Int) > 0) == true) = true) : 0 < k := by simp at h; omega
theorem all_mem {α : Type} [Inhabited α] {p : α → Bool} {l : List α} (h : ∀ x ∈ l, p x = true) {k : Nat} (hk : k < l.length) : p (l.getD k default) = true := h _ (by rw [getD_lt hk]; exact List.getElem_mem hk)
set_option maxRecDepth 20000 in
theorem put_spec (bars : List Bar) (l : List Note) (n : Note) (hl : bars.length ≤ 9223372036854775807) (hll : l.length ≤ 1000000) (hb : barsOk bars = true) (hn : noteOk bars n = true) (hal : ∀ x ∈ l, noteOk bars x = true) :
    PCall Tryd.prog 61 [.sl 4 (bars.map encB) .no, .sl 12 (l.map encN) .no, .agg (encN n)] (.sl 12 ((putL (idxAL bars) l n).map encN) .no) := by
  refine PCall.body Tryd.func61 rfl rfl Tryd.ntmps61 rfl rfl ?_
  repeat' (first | refine AOps.q rfl rfl rfl (fun hg => by first | exact std0 | exact std1) (by exact rfl) ?_ | refine AWP.seq ?_ | refine AWP.regionK (fun K' hK => ?_) | (refine AOps.nil (hK _ _ ?_); clear hK K') | refine AOps.e (EStep.boxW rfl rfl rfl rfl rfl True.intro rfl rfl ?_) | refine AOps.e (EStep.storeW tabOk rfl rfl rfl True.intro rfl rfl True.intro rfl rfl rfl rfl rfl rfl rfl ?_) | refine AOps.e (EStep.allocW tabOk rfl rfl rfl rfl rfl rfl ?_) | (refine AWP.condW rfl True.intro (fun hc => ?_) (fun hc => ?_) <;> (first | (simp only [decide_eq_true_eq] at hc) | (simp only [decide_eq_false_iff_not, Int.not_lt, Int.not_le] at hc) | skip)) | refine AWP.block ?_ | refine AWP.exit ?_ | refine AWP.skip ?_ | refine AWP.ret ?_ | refine AWP.drawK2 (by decide +kernel) (by kernel_rfl) (by decide +kernel) rfl (fun K' hK => ?_) | refine AWP.drawL2 (by kernel_rfl) (by decide +kernel) rfl (fun K' hK => ?_) | (refine AQ.nil (hK _ ?_); clear hK K') | refine AQ.nil ?_ | refine AQ.q rfl rfl (fun hg => by first | exact std0 | exact std1) (by exact rfl) ?_)
  refine AWP.loopW (ι := Nat) (fun k => [(0, .sl 4 (bars.map encB) .no), (1, .sl 12 (l.map encN) .no), (5, .ptr 0 0), (7, .int k)]) (fun _ => [.var (encN n)]) (fun k => k ≤ l.length ∧ putAt (idxAL bars) n l k = putAt (idxAL bars) n l l.length) (fun k => k) l.length ⟨Nat.le_refl _, rfl⟩ ⟨rfl, rfl, rfl, rfl, True.intro⟩ rfl ?_
  rintro k ⟨hk, hput⟩
  have hbf : 0 < k → PCall Tryd.prog 30 [.sl 4 (bars.map encB) .no, .agg (encN n), .agg (encN (l.getD ((k : Int) - 1).toNat default))] (.b (bef (idxAL bars) n (l.getD ((k : Int) - 1).toNat default))) := fun h => before_spec bars n _ hl hb hn (all_mem hal (by omega))
  repeat' (first | refine AOps.q rfl rfl rfl (fun hg => by first | exact std0 | exact PRun.indexMW tabOk rfl rfl nd rfl nd rfl rfl (by have := gp hg; omega) | exact PRun.callW (hbf (gp hg)) rfl rfl nd rfl nds | exact std1) (by exact rfl) ?_ | refine AWP.seq ?_ | refine AWP.regionK (fun K' hK => ?_) | (refine AOps.nil (hK _ _ ?_); clear hK K') | refine AOps.e (EStep.boxW rfl rfl rfl rfl rfl True.intro rfl rfl ?_) | refine AOps.e (EStep.storeW tabOk rfl rfl rfl True.intro rfl rfl True.intro rfl rfl rfl rfl rfl rfl rfl ?_) | refine AOps.e (EStep.allocW tabOk rfl rfl rfl rfl rfl rfl ?_) | (refine AWP.condW rfl True.intro (fun hc => ?_) (fun hc => ?_) <;> (first | (simp only [decide_eq_true_eq] at hc) | (simp only [decide_eq_false_iff_not, Int.not_lt, Int.not_le] at hc) | skip)) | refine AWP.block ?_ | refine AWP.exit ?_ | refine AWP.skip ?_ | refine AWP.ret ?_ | refine AWP.drawK2 (by decide +kernel) (by kernel_rfl) (by decide +kernel) rfl (fun K' hK => ?_) | refine AWP.drawL2 (by kernel_rfl) (by decide +kernel) rfl (fun K' hK => ?_) | (refine AQ.nil (hK _ ?_); clear hK K') | refine AQ.nil ?_ | refine AQ.q rfl rfl (fun hg => by first | exact std0 | exact PRun.indexMW tabOk rfl rfl nd rfl nd rfl rfl (by have := gp hg; omega) | exact PRun.callW (hbf (gp hg)) rfl rfl nd rfl nds | exact std1) (by exact rfl) ?_)
  · simp only [Bool.and_eq_true, decide_eq_true_eq] at hc
    obtain ⟨k, rfl⟩ : ∃ j, k = j + 1 := ⟨k - 1, by omega⟩
    have e : (((k + 1 : Nat) : Int) - 1).toNat = k := by omega
    rw [e] at hc
    refine ⟨k, ⟨by omega, ?_⟩, by omega, ⟨rfl, rfl, rfl, ?_, True.intro⟩, rfl⟩
    · rw [← hput]; conv => rhs; unfold putAt
      rw [if_pos hc.2]
    · show AV.int (((k + 1 : Nat) : Int) - 1) = AV.int k
      congr 2; omega
  · have hat : putAt (idxAL bars) n l l.length = k := by
      rw [← hput]
      cases k with
      | zero => rfl
      | succ k =>
        have e : (((k + 1 : Nat) : Int) - 1).toNat = k := by omega
        rw [e] at hc
        unfold putAt
        rw [if_neg]
        intro h
        rw [h] at hc; simp at hc
    repeat' (first | refine AOps.q rfl rfl rfl (fun hg => by first | exact std0 | exact PRun.sliceLoM tabOk rfl rfl nd rfl nd rfl (by omega) | exact PRun.sliceHiM tabOk rfl rfl nd rfl nd rfl (by omega) | exact PRun.sliceM tabOk rfl rfl nd rfl nd rfl nd rfl (by omega) | exact PRun.buildSlW tabOk rfl rfl nds | exact std1) (by exact rfl) ?_ | refine AWP.seq ?_ | refine AWP.regionK (fun K' hK => ?_) | (refine AOps.nil (hK _ _ ?_); clear hK K') | refine AOps.e (EStep.boxW rfl rfl rfl rfl rfl True.intro rfl rfl ?_) | refine AOps.e (EStep.storeW tabOk rfl rfl rfl True.intro rfl rfl True.intro rfl rfl rfl rfl rfl rfl rfl ?_) | refine AOps.e (EStep.allocW tabOk rfl rfl rfl rfl rfl rfl ?_) | refine AOps.e (EStep.appendOwn' tabOk rfl rfl rfl (by decide) (Rd.w rfl True.intro) rfl (Rd.w rfl True.intro) (.sl rfl (by first | (intro x hx; rcases List.mem_singleton.1 hx with rfl; rfl) | exact one_encN _)) (LOk.of (tabOk.get rfl)) (LOk.of (tabOk.get rfl)) rfl rfl (by simp only [List.length_map, List.length_append, List.length_cons, List.length_nil, List.length_take, List.length_drop]; omega) (by simp only [List.length_map, List.length_append, List.length_cons, List.length_nil, List.length_take, List.length_drop]; omega) ?_) | refine AOps.e (EStep.appendNil (s0 := 25) tabOk rfl rfl rfl rfl rfl rfl True.intro (by simp) (.sl rfl (one_encN _)) (LOk.of (tabOk.get rfl)) (LOk.of (tabOk.get rfl)) rfl rfl (by simp only [List.length_map, List.length_take]; omega) (by simp only [List.length_map, List.length_take]; omega) ?_) | (refine AWP.condW rfl True.intro (fun hc => ?_) (fun hc => ?_) <;> (first | (simp only [decide_eq_true_eq] at hc) | (simp only [decide_eq_false_iff_not, Int.not_lt, Int.not_le] at hc) | skip)) | refine AWP.block ?_ | refine AWP.exit ?_ | refine AWP.skip ?_ | refine AWP.ret ?_ | refine AWP.drawK2 (by decide +kernel) (by kernel_rfl) (by decide +kernel) rfl (fun K' hK => ?_) | refine AWP.drawL2 (by kernel_rfl) (by decide +kernel) rfl (fun K' hK => ?_) | (refine AQ.nil (hK _ ?_); clear hK K') | refine AQ.nil ?_ | refine AQ.q rfl rfl (fun hg => by first | exact std0 | exact PRun.sliceLoM tabOk rfl rfl nd rfl nd rfl (by omega) | exact PRun.sliceHiM tabOk rfl rfl nd rfl nd rfl (by omega) | exact PRun.sliceM tabOk rfl rfl nd rfl nd rfl nd rfl (by omega) | exact PRun.buildSlW tabOk rfl rfl nds | exact std1) (by exact rfl) ?_)
    refine ⟨.inr rfl, Ent.of ?_⟩
    unfold putL
    rw [hat]
    simp only [List.map_append, Int.toNat_natCast]
    rfl
theorem sorted7_spec (bars : List Bar) (l : List Note) (hl : bars.length ≤ 9223372036854775807) (hll : l.length ≤ 1000000) (hb : barsOk bars = true) (hal : ∀ x ∈ l, noteOk bars x = true) :
    PCall Tryd.prog 50 [.sl 4 (bars.map encB) .no, .sl 12 (l.map encN) .no] (.sl 12 ((putsL (idxAL bars) l).map encN) .no) := by
  refine PCall.body Tryd.func50 rfl rfl Tryd.ntmps50 rfl rfl ?_
  repeat' (first | refine AOps.q rfl rfl rfl (fun hg => by first | exact std0 | exact std1) (by exact rfl) ?_ | refine AWP.seq ?_ | refine AWP.regionK (fun K' hK => ?_) | (refine AOps.nil (hK _ _ ?_); clear hK K') | refine AOps.e (EStep.boxW rfl rfl rfl rfl rfl True.intro rfl rfl ?_) | refine AOps.e (EStep.storeW tabOk rfl rfl rfl True.intro rfl rfl True.intro rfl rfl rfl rfl rfl rfl rfl ?_) | refine AOps.e (EStep.allocW tabOk rfl rfl rfl rfl rfl rfl ?_) | (refine AWP.condW rfl True.intro (fun hc => ?_) (fun hc => ?_) <;> (first | (simp only [decide_eq_true_eq] at hc) | (simp only [decide_eq_false_iff_not, Int.not_lt, Int.not_le] at hc) | skip)) | refine AWP.block ?_ | refine AWP.exit ?_ | refine AWP.skip ?_ | refine AWP.ret ?_ | refine AWP.drawK2 (by decide +kernel) (by kernel_rfl) (by decide +kernel) rfl (fun K' hK => ?_) | refine AWP.drawL2 (by kernel_rfl) (by decide +kernel) rfl (fun K' hK => ?_) | (refine AQ.nil (hK _ ?_); clear hK K') | refine AQ.nil ?_ | refine AQ.q rfl rfl (fun hg => by first | exact std0 | exact std1) (by exact rfl) ?_)
  refine AWP.nilNo 5 12 rfl ?_
  refine AWP.loopW (ι := Nat) (fun k => [(0, .sl 4 (bars.map encB) .no), (1, .sl 12 (l.map encN) .no), (5, .sl 12 ((putsL (idxAL bars) (l.take k)).map encN) .no), (6, .int k)]) (fun _ => []) (fun k => k ≤ l.length) (fun k => l.length - k) 0 (Nat.zero_le _) ⟨rfl, rfl, rfl, rfl, True.intro⟩ rfl ?_
  intro k hk
  have hm : ∀ x ∈ putsL (idxAL bars) (l.take k), x ∈ l := fun x hx => List.mem_of_mem_take ((puts_perm (idxAL bars) (l.take k)).mem_iff.1 hx)
  have hlen : (putsL (idxAL bars) (l.take k)).length ≤ l.length := by rw [(puts_perm (idxAL bars) (l.take k)).length_eq, List.length_take]; omega
  by_cases hlt : k < l.length
  · have hp := put_spec bars (putsL (idxAL bars) (l.take k)) (l.getD k default) hl (by omega) hb (all_mem hal hlt) (fun x hx => hal x (hm x hx))
    repeat' (first | refine AOps.q rfl rfl rfl (fun hg => by first | exact std0 | exact PRun.callW (hp) rfl rfl nd rfl nds | exact std1) (by exact rfl) ?_ | refine AWP.seq ?_ | refine AWP.regionK (fun K' hK => ?_) | (refine AOps.nil (hK _ _ ?_); clear hK K') | refine AOps.e (EStep.boxW rfl rfl rfl rfl rfl True.intro rfl rfl ?_) | refine AOps.e (EStep.storeW tabOk rfl rfl rfl True.intro rfl rfl True.intro rfl rfl rfl rfl rfl rfl rfl ?_) | refine AOps.e (EStep.allocW tabOk rfl rfl rfl rfl rfl rfl ?_) | (refine AWP.condW rfl True.intro (fun hc => ?_) (fun hc => ?_) <;> (first | (simp only [decide_eq_true_eq] at hc) | (simp only [decide_eq_false_iff_not, Int.not_lt, Int.not_le] at hc) | skip)) | refine AWP.block ?_ | refine AWP.exit ?_ | refine AWP.skip ?_ | refine AWP.ret ?_ | refine AWP.drawK2 (by decide +kernel) (by kernel_rfl) (by decide +kernel) rfl (fun K' hK => ?_) | refine AWP.drawL2 (by kernel_rfl) (by decide +kernel) rfl (fun K' hK => ?_) | (refine AQ.nil (hK _ ?_); clear hK K') | refine AQ.nil ?_ | refine AQ.q rfl rfl (fun hg => by first | exact std0 | exact PRun.callW (hp) rfl rfl nd rfl nds | exact std1) (by exact rfl) ?_)
    all_goals (first | (exfalso; omega) | skip)
    refine ⟨k + 1, by omega, by omega, ⟨rfl, rfl, ?_, rfl, True.intro⟩, rfl⟩
    have e : l.take (k + 1) = l.take k ++ [l.getD k default] := by
      rw [List.take_add_one, getD_lt hlt]; simp [hlt]
    show AV.sl 12 ((putL (idxAL bars) (putsL (idxAL bars) (l.take k)) (l.getD k default)).map encN) .no = AV.sl 12 ((putsL (idxAL bars) (l.take (k + 1))).map encN) .no
    rw [e]; unfold putsL; rw [List.foldl_append]; rfl
  · repeat' (first | refine AOps.q rfl rfl rfl (fun hg => by first | exact std0 | exact std1) (by exact rfl) ?_ | refine AWP.seq ?_ | refine AWP.regionK (fun K' hK => ?_) | (refine AOps.nil (hK _ _ ?_); clear hK K') | refine AOps.e (EStep.boxW rfl rfl rfl rfl rfl True.intro rfl rfl ?_) | refine AOps.e (EStep.storeW tabOk rfl rfl rfl True.intro rfl rfl True.intro rfl rfl rfl rfl rfl rfl rfl ?_) | refine AOps.e (EStep.allocW tabOk rfl rfl rfl rfl rfl rfl ?_) | (refine AWP.condW rfl True.intro (fun hc => ?_) (fun hc => ?_) <;> (first | (simp only [decide_eq_true_eq] at hc) | (simp only [decide_eq_false_iff_not, Int.not_lt, Int.not_le] at hc) | skip)) | refine AWP.block ?_ | refine AWP.exit ?_ | refine AWP.skip ?_ | refine AWP.ret ?_ | refine AWP.drawK2 (by decide +kernel) (by kernel_rfl) (by decide +kernel) rfl (fun K' hK => ?_) | refine AWP.drawL2 (by kernel_rfl) (by decide +kernel) rfl (fun K' hK => ?_) | (refine AQ.nil (hK _ ?_); clear hK K') | refine AQ.nil ?_ | refine AQ.q rfl rfl (fun hg => by first | exact std0 | exact std1) (by exact rfl) ?_)
    all_goals (first | (exfalso; omega) | skip)
    refine ⟨.inr rfl, Ent.of ?_⟩
    rw [List.take_of_length_le (by omega)]; rfl
end Go.Proofs.YtnmdmmfdnnmdfaaDoor
