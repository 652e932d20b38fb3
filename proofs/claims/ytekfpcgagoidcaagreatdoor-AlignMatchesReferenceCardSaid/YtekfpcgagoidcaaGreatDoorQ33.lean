/- Contracts by content: the reference of align: has, fits, together. No statement is proved here. -/
import Derived.Test.YtekfpcgagoidcaaGreatDoorQ32
set_option linter.unusedVariables false
set_option linter.unusedSimpArgs false
namespace Go.Proofs.YtekfpcgagoidcaaGreatDoor.Al
open Go.Ab Go.Sort
attribute [local irreducible] AWP AOps EStep AQ PStep PRun PCall TCall VCall
theorem any_at {α : Type} [Inhabited α] {q : α → Bool} {l : List α} {k : Nat} (hk : k < l.length) (h : q (l.getD k default) = true) : l.any q = true :=
  List.any_eq_true.2 ⟨_, by rw [getD_lt hk]; exact List.getElem_mem hk, h⟩
theorem any_no {α : Type} [Inhabited α] {q : α → Bool} {l : List α} (h : ∀ j, j < l.length → q (l.getD j default) = false) : l.any q = false := by
  rw [List.any_eq_false]
  intro x hx
  obtain ⟨j, hj, rfl⟩ := List.mem_iff_getElem.1 hx
  have := h j hj
  rw [getD_lt hj] at this
  rw [this]; decide
set_option maxHeartbeats 16000000 in
set_option maxRecDepth 20000 in
theorem has1_spec (l : PL) (hl : l.length ≤ 9223372036854775807) (id : Int) : PCall Tryz.prog 96 [.sl 2 (l.map encPr) .no, .int id, .b true] (.b (fstIn l id)) := by
  refine PCall.body Tryz.func96 rfl rfl Tryz.ntmps96 rfl rfl ?_
  repeat' (first | refine AOps.q rfl rfl rfl (fun hg => by exact std0) (by exact rfl) ?_ | refine AWP.seq ?_ | refine AWP.regionK (fun K' hK => ?_) | (refine AOps.nil (hK _ _ ?_); clear hK K') | refine AWP.block ?_)
  refine AWP.loopW (ι := Nat) (fun k => [(0, .sl 2 (l.map encPr) .no), (1, .int id), (2, .b true), (7, .int k)]) (fun _ => []) (fun k => k ≤ l.length ∧ ∀ j, j < k → ((l.getD j default).1 == id) = false) (fun k => l.length - k) 0 ⟨Nat.zero_le _, fun j h => absurd h (by omega)⟩ ⟨rfl, rfl, rfl, rfl, True.intro⟩ rfl ?_
  rintro k ⟨hk, hall⟩
  by_cases hlt : k < l.length
  · obtain ⟨z, hz⟩ : ∃ z, l.getD k default = z := ⟨_, rfl⟩
    repeat' (first | refine AOps.q rfl rfl rfl (fun hg => by first | exact iX encPr l ((k : Nat) : Int) hz (hb := by omega) | exact std0 | exact std1) (by exact rfl) ?_ | refine AWP.seq ?_ | refine AWP.regionK (fun K' hK => ?_) | (refine AOps.nil (hK _ _ ?_); clear hK K') | (refine AWP.condW rfl True.intro (fun hc => ?_) (fun hc => ?_) <;> (first | (simp only [dEt] at hc) | (simp only [dEf, iNl, iNe] at hc) | skip)) | refine AWP.block ?_ | refine AWP.exit ?_ | refine AWP.skip ?_ | refine AWP.ret ?_)
    all_goals (first | (exfalso; omega) | (exfalso; simp at hc; done) | (exfalso; simp at hc; omega) | (exfalso; simp only [dEf, dEt] at hc; omega) | (rename_i h0; exfalso; simp at h0; done) | (rename_i h0; exfalso; simp at h0; omega) | skip)
    · exact ⟨.inr rfl, Ent.b (Eq.symm (any_at hlt (by rw [hz]; simp only [Int.toNat_natCast, Bool.or_eq_true, Bool.and_eq_true, Bool.or_eq_false_iff, Bool.and_eq_false_iff, dEt, dEf, Bool.not_eq_true', Bool.not_eq_false', beq_iff_eq, beq_eq_false_iff_ne, bne_iff_ne, bne_eq_false_iff_eq, gt_iff_lt, ge_iff_le, ne_eq] at hc; simpa using hc)))⟩
    · exact ⟨k + 1, ⟨by omega, fun j hj => lt_succ_cases hall (by rw [hz]; simp only [Int.toNat_natCast, Bool.or_eq_true, Bool.and_eq_true, Bool.or_eq_false_iff, Bool.and_eq_false_iff, dEt, dEf, Bool.not_eq_true', Bool.not_eq_false', beq_iff_eq, beq_eq_false_iff_ne, bne_iff_ne, bne_eq_false_iff_eq, gt_iff_lt, ge_iff_le, ne_eq] at hc; simpa using hc) hj⟩, by omega, ⟨rfl, rfl, rfl, rfl, True.intro⟩, rfl⟩
  · repeat' (first | refine AOps.q rfl rfl rfl (fun hg => by first | exact std0 | exact std1) (by exact rfl) ?_ | refine AWP.seq ?_ | refine AWP.regionK (fun K' hK => ?_) | (refine AOps.nil (hK _ _ ?_); clear hK K') | (refine AWP.condW rfl True.intro (fun hc => ?_) (fun hc => ?_) <;> (first | (simp only [dEt] at hc) | (simp only [dEf, iNl, iNe] at hc) | skip)) | refine AWP.block ?_ | refine AWP.exit ?_ | refine AWP.skip ?_ | refine AWP.ret ?_)
    all_goals (first | (exfalso; omega) | (exfalso; simp at hc; done) | (exfalso; simp at hc; omega) | (exfalso; simp only [dEf, dEt] at hc; omega) | (rename_i h0; exfalso; simp at h0; done) | (rename_i h0; exfalso; simp at h0; omega) | skip)
    exact ⟨.inr rfl, Ent.b (Eq.symm (any_no fun j hj => hall j (by omega)))⟩
set_option maxHeartbeats 16000000 in
set_option maxRecDepth 20000 in
theorem has2_spec (l : PL) (hl : l.length ≤ 9223372036854775807) (id : Int) : PCall Tryz.prog 96 [.sl 2 (l.map encPr) .no, .int id, .b false] (.b (sndIn l id)) := by
  refine PCall.body Tryz.func96 rfl rfl Tryz.ntmps96 rfl rfl ?_
  repeat' (first | refine AOps.q rfl rfl rfl (fun hg => by exact std0) (by exact rfl) ?_ | refine AWP.seq ?_ | refine AWP.regionK (fun K' hK => ?_) | (refine AOps.nil (hK _ _ ?_); clear hK K') | refine AWP.block ?_)
  refine AWP.loopW (ι := Nat) (fun k => [(0, .sl 2 (l.map encPr) .no), (1, .int id), (2, .b false), (7, .int k)]) (fun _ => []) (fun k => k ≤ l.length ∧ ∀ j, j < k → ((l.getD j default).2 == id) = false) (fun k => l.length - k) 0 ⟨Nat.zero_le _, fun j h => absurd h (by omega)⟩ ⟨rfl, rfl, rfl, rfl, True.intro⟩ rfl ?_
  rintro k ⟨hk, hall⟩
  by_cases hlt : k < l.length
  · obtain ⟨z, hz⟩ : ∃ z, l.getD k default = z := ⟨_, rfl⟩
    repeat' (first | refine AOps.q rfl rfl rfl (fun hg => by first | exact iX encPr l ((k : Nat) : Int) hz (hb := by omega) | exact std0 | exact std1) (by exact rfl) ?_ | refine AWP.seq ?_ | refine AWP.regionK (fun K' hK => ?_) | (refine AOps.nil (hK _ _ ?_); clear hK K') | (refine AWP.condW rfl True.intro (fun hc => ?_) (fun hc => ?_) <;> (first | (simp only [dEt] at hc) | (simp only [dEf, iNl, iNe] at hc) | skip)) | refine AWP.block ?_ | refine AWP.exit ?_ | refine AWP.skip ?_ | refine AWP.ret ?_)
    all_goals (first | (exfalso; omega) | (exfalso; simp at hc; done) | (exfalso; simp at hc; omega) | (exfalso; simp only [dEf, dEt] at hc; omega) | (rename_i h0; exfalso; simp at h0; done) | (rename_i h0; exfalso; simp at h0; omega) | skip)
    · exact ⟨.inr rfl, Ent.b (Eq.symm (any_at hlt (by rw [hz]; simp only [Int.toNat_natCast, Bool.or_eq_true, Bool.and_eq_true, Bool.or_eq_false_iff, Bool.and_eq_false_iff, dEt, dEf, Bool.not_eq_true', Bool.not_eq_false', beq_iff_eq, beq_eq_false_iff_ne, bne_iff_ne, bne_eq_false_iff_eq, gt_iff_lt, ge_iff_le, ne_eq] at hc; simpa using hc)))⟩
    · exact ⟨k + 1, ⟨by omega, fun j hj => lt_succ_cases hall (by rw [hz]; simp only [Int.toNat_natCast, Bool.or_eq_true, Bool.and_eq_true, Bool.or_eq_false_iff, Bool.and_eq_false_iff, dEt, dEf, Bool.not_eq_true', Bool.not_eq_false', beq_iff_eq, beq_eq_false_iff_ne, bne_iff_ne, bne_eq_false_iff_eq, gt_iff_lt, ge_iff_le, ne_eq] at hc; simpa using hc) hj⟩, by omega, ⟨rfl, rfl, rfl, rfl, True.intro⟩, rfl⟩
  · repeat' (first | refine AOps.q rfl rfl rfl (fun hg => by first | exact std0 | exact std1) (by exact rfl) ?_ | refine AWP.seq ?_ | refine AWP.regionK (fun K' hK => ?_) | (refine AOps.nil (hK _ _ ?_); clear hK K') | (refine AWP.condW rfl True.intro (fun hc => ?_) (fun hc => ?_) <;> (first | (simp only [dEt] at hc) | (simp only [dEf, iNl, iNe] at hc) | skip)) | refine AWP.block ?_ | refine AWP.exit ?_ | refine AWP.skip ?_ | refine AWP.ret ?_)
    all_goals (first | (exfalso; omega) | (exfalso; simp at hc; done) | (exfalso; simp at hc; omega) | (exfalso; simp only [dEf, dEt] at hc; omega) | (rename_i h0; exfalso; simp at h0; done) | (rename_i h0; exfalso; simp at h0; omega) | skip)
    exact ⟨.inr rfl, Ent.b (Eq.symm (any_no fun j hj => hall j (by omega)))⟩
set_option maxHeartbeats 16000000 in
set_option maxRecDepth 20000 in
theorem fits_spec (x y : Note) (r : Nat) (h1 : 1 ≤ r) (h3 : r ≤ 3) : PCall Tryz.prog 95 [.agg (encN x), .agg (encN y), .int r] (.b (ruleF r x y)) := by
  have h2 := alike12_spec x y
  refine PCall.body Tryz.func95 rfl rfl Tryz.ntmps95 rfl rfl ?_
  have h4 : r = 1 ∨ r = 2 ∨ r = 3 := by omega
  rcases h4 with rfl | rfl | rfl
  · repeat' (first | refine AOps.q rfl rfl rfl (fun hg => by exact std0) (by exact rfl) ?_ | refine AWP.seq ?_ | refine AWP.regionK (fun K' hK => ?_) | (refine AOps.nil (hK _ _ ?_); clear hK K') | refine AOps.e (EStep.boxW rfl rfl rfl rfl rfl True.intro rfl rfl ?_) | (refine AWP.condW rfl True.intro (fun hc => ?_) (fun hc => ?_) <;> (first | (simp only [dEt] at hc) | (simp only [dEf, iNl, iNe] at hc) | skip)) | refine AWP.skip ?_ | refine AWP.ret ?_)
    all_goals (first | (exfalso; omega) | (exfalso; simp at hc; done) | (exfalso; simp at hc; omega) | (exfalso; simp only [dEf, dEt] at hc; omega) | (rename_i h0; exfalso; simp at h0; done) | (rename_i h0; exfalso; simp at h0; omega) | skip)
    exact ⟨.inr rfl, Ent.b rfl⟩
  · repeat' (first | refine AOps.q rfl rfl rfl (fun hg => by first | exact std0 | exact PRun.callW (h2) rfl rfl nd rfl nds) (by exact rfl) ?_ | refine AWP.seq ?_ | refine AWP.regionK (fun K' hK => ?_) | (refine AOps.nil (hK _ _ ?_); clear hK K') | refine AOps.e (EStep.boxW rfl rfl rfl rfl rfl True.intro rfl rfl ?_) | (refine AWP.condW rfl True.intro (fun hc => ?_) (fun hc => ?_) <;> (first | (simp only [dEt] at hc) | (simp only [dEf, iNl, iNe] at hc) | skip)) | refine AWP.skip ?_ | refine AWP.ret ?_)
    all_goals (first | (exfalso; omega) | (exfalso; simp at hc; done) | (exfalso; simp at hc; omega) | (exfalso; simp only [dEf, dEt] at hc; omega) | (rename_i h0; exfalso; simp at h0; done) | (rename_i h0; exfalso; simp at h0; omega) | skip)
    exact ⟨.inr rfl, Ent.b rfl⟩
  · repeat' (first | refine AOps.q rfl rfl rfl (fun hg => by first | exact std0 | exact PRun.eqN flRtA rfl rfl nd rfl nd rfl) (by exact rfl) ?_ | refine AWP.seq ?_ | refine AWP.regionK (fun K' hK => ?_) | (refine AOps.nil (hK _ _ ?_); clear hK K') | refine AOps.e (EStep.boxW rfl rfl rfl rfl rfl True.intro rfl rfl ?_) | (refine AWP.condW rfl True.intro (fun hc => ?_) (fun hc => ?_) <;> (first | (simp only [dEt] at hc) | (simp only [dEf, iNl, iNe] at hc) | skip)) | refine AWP.skip ?_ | refine AWP.ret ?_)
    all_goals (first | (exfalso; omega) | (exfalso; simp at hc; done) | (exfalso; simp at hc; omega) | (exfalso; simp only [dEf, dEt] at hc; omega) | (rename_i h0; exfalso; simp at h0; done) | (rename_i h0; exfalso; simp at h0; omega) | skip)
    refine ⟨.inr rfl, Ent.b ?_⟩
    show _ = f3 x y
    unfold f3
    rw [← eqRa_eq]
    simp only [Bool.and_assoc]; rfl
def tgR (a b : List Note) : Nat → PL
  | 0 => []
  | r + 1 => matchL (ruleF (r + 1)) a b (tgR a b r)
theorem tgR_three (a b : List Note) : tgR a b 3 = three a b [] := rfl
theorem stepM_len (f : Note → Note → Bool) (b : List Note) (ps : PL) (x : Note) : (stepM f b ps x).length ≤ ps.length + 1 := by
  unfold stepM
  split
  · omega
  · split
    · simp
    · omega
theorem matchL_len (f : Note → Note → Bool) (b : List Note) : ∀ (l : List Note) (ps : PL), (matchL f l b ps).length ≤ ps.length + l.length
  | [], ps => Nat.le_refl _
  | x :: l, ps => by
    have h1 := matchL_len f b l (stepM f b ps x)
    have h2 := stepM_len f b ps x
    show (matchL f l b (stepM f b ps x)).length ≤ _
    rw [List.length_cons]; omega
theorem tgR_len (a b : List Note) : ∀ r, (tgR a b r).length ≤ r * a.length
  | 0 => by simp [tgR]
  | r + 1 => by
    have h1 := matchL_len (ruleF (r + 1)) b a (tgR a b r)
    have h2 := tgR_len a b r
    show (matchL _ a b _).length ≤ _
    rw [Nat.add_mul]; omega
theorem matchL_take {f : Note → Note → Bool} {a b : List Note} {ps : PL} {k : Nat} (h : k < a.length) {x : Note} (hx : a.getD k default = x) : matchL f (a.take (k + 1)) b ps = stepM f b (matchL f (a.take k) b ps) x := by
  unfold matchL; rw [takeS h, hx, List.foldl_append]; rfl
theorem foldK_take {f : Note → Note → Bool} {x : Note} {b : List Note} {ps : PL} {k : Nat} (h : k < b.length) {y : Note} (hy : b.getD k default = y) : (b.take (k + 1)).foldl (stepK f x) ps = stepK f x ((b.take k).foldl (stepK f x) ps) y := by
  rw [takeS h, hy, List.foldl_append]; rfl
set_option maxHeartbeats 16000000 in
set_option maxRecDepth 20000 in
theorem together_spec (a b : List Note) (ha : a.length ≤ 1000000) (hb : b.length ≤ 1000000) : PCall Tryz.prog 64 [.sl 12 (a.map encN) .no, .sl 12 (b.map encN) .no] (.sl 2 ((three a b []).map encPr) .no) := by
  rw [← tgR_three]
  refine PCall.body Tryz.func64 rfl rfl Tryz.ntmps64 rfl rfl ?_
  repeat' (first | refine AOps.q rfl rfl rfl (fun hg => by exact std0) (by exact rfl) ?_ | refine AWP.seq ?_ | refine AWP.regionK (fun K' hK => ?_) | (refine AOps.nil (hK _ _ ?_); clear hK K') | refine AWP.block ?_)
  refine AWP.ownNil (d := 5) (sz := 2) rfl ?_
  skip
  refine AWP.loopD (ι := Nat) (fun q => [(0, .sl 12 (a.map encN) .no), (1, .sl 12 (b.map encN) .no), (5, .sl 2 ((tgR a b q).map encPr) (.own 0)), (6, .int (q + 1 : Nat))]) (fun q => [.own 2 ((tgR a b q).map encPr).length])
    (fun q => q ≤ 3) (fun q => 3 - q) 1 (fun _ => rfl) 0 (Nat.zero_le _) ⟨rfl, rfl, rfl, rfl, True.intro⟩ rfl (fun _ _ => rfl) (fun _ _ => rfl) ?_
  intro q hq
  have hl0 := tgR_len a b q
  have hl1 : q * a.length ≤ 3 * a.length := Nat.mul_le_mul_right _ hq
  by_cases hlt : q < 3
  · have hst : tgR a b (q + 1) = matchL (ruleF (q + 1)) a b (tgR a b q) := rfl
    generalize tgR a b q = p0 at *
    repeat' (first | refine AOps.q rfl rfl rfl (fun hg => by exact std0) (by exact rfl) ?_ | refine AWP.seq ?_ | refine AWP.regionK (fun K' hK => ?_) | (refine AOps.nil (hK _ _ ?_); clear hK K') | (refine AWP.condW rfl True.intro (fun hc => ?_) (fun hc => ?_) <;> (first | (simp only [dEt] at hc) | (simp only [dEf, iNl, iNe] at hc) | skip)) | refine AWP.block ?_ | refine AWP.exit ?_ | refine AWP.skip ?_ | refine AWP.ret ?_)
    all_goals (first | (exfalso; omega) | (exfalso; simp at hc; done) | (exfalso; simp at hc; omega) | (exfalso; simp only [dEf, dEt] at hc; omega) | (rename_i h0; exfalso; simp at h0; done) | (rename_i h0; exfalso; simp at h0; omega) | skip)
    refine AWP.loopD (ι := Nat) (fun i => [(0, .sl 12 (a.map encN) .no), (1, .sl 12 (b.map encN) .no), (5, .sl 2 ((matchL (ruleF (q + 1)) (a.take i) b p0).map encPr) (.own 0)), (6, .int (q + 1 : Nat)), (7, .int i)]) (fun i => [.own 2 ((matchL (ruleF (q + 1)) (a.take i) b p0).map encPr).length])
      (fun i => i ≤ a.length) (fun i => a.length - i) 1 (fun _ => rfl) 0 (Nat.zero_le _) ⟨rfl, rfl, rfl, rfl, rfl, True.intro⟩ rfl (fun _ _ => rfl) (fun _ _ => rfl) ?_
    intro i hi
    have hl2 := matchL_len (ruleF (q + 1)) b (a.take i) p0
    rw [List.length_take] at hl2
    by_cases hlt2 : i < a.length
    · obtain ⟨x, hx⟩ : ∃ x, a.getD i default = x := ⟨_, rfl⟩
      have hm := matchL_take (f := ruleF (q + 1)) (b := b) (ps := p0) hlt2 hx
      rw [← foldK] at hm
      generalize matchL (ruleF (q + 1)) (a.take i) b p0 = p1 at *
      repeat' (first | refine AOps.q rfl rfl rfl (fun hg => by first | exact std0 | exact std1) (by exact rfl) ?_ | refine AWP.seq ?_ | refine AWP.regionK (fun K' hK => ?_) | (refine AOps.nil (hK _ _ ?_); clear hK K') | (refine AWP.condW rfl True.intro (fun hc => ?_) (fun hc => ?_) <;> (first | (simp only [dEt] at hc) | (simp only [dEf, iNl, iNe] at hc) | skip)) | refine AWP.block ?_ | refine AWP.exit ?_ | refine AWP.skip ?_)
      all_goals (first | (exfalso; omega) | (exfalso; simp at hc; done) | (exfalso; simp at hc; omega) | (exfalso; simp only [dEf, dEt] at hc; omega) | (rename_i h0; exfalso; simp at h0; done) | (rename_i h0; exfalso; simp at h0; omega) | skip)
      refine AWP.loopD (ι := Nat) (fun k => [(0, .sl 12 (a.map encN) .no), (1, .sl 12 (b.map encN) .no), (5, .sl 2 (((b.take k).foldl (stepK (ruleF (q + 1)) x) p1).map encPr) (.own 0)), (6, .int (q + 1 : Nat)), (7, .int i), (8, .int k)]) (fun k => [.own 2 (((b.take k).foldl (stepK (ruleF (q + 1)) x) p1).map encPr).length])
        (fun k => k ≤ b.length) (fun k => b.length - k) 1 (fun _ => rfl) 0 (Nat.zero_le _) ⟨rfl, rfl, rfl, rfl, rfl, rfl, True.intro⟩ rfl (fun _ _ => rfl) (fun _ _ => rfl) ?_
      intro k hk
      have hl3 := stepM_len (ruleF (q + 1)) (b.take k) p1 x
      rw [← foldK] at hl3
      by_cases hlt3 : k < b.length
      · obtain ⟨y, hy⟩ : ∃ y, b.getD k default = y := ⟨_, rfl⟩
        have hf := foldK_take (f := ruleF (q + 1)) (x := x) (ps := p1) hlt3 hy
        generalize (b.take k).foldl (stepK (ruleF (q + 1)) x) p1 = p2 at *
        have c1 := fits_spec x y (q + 1) (by omega) (by omega)
        have c2 := has1_spec p2 (by omega) x.id
        have c3 := has2_spec p2 (by omega) y.id
        repeat' (first | refine AOps.q rfl rfl rfl (fun hg => by first | exact std0 | exact std1) (by exact rfl) ?_ | refine AWP.seq ?_ | refine AWP.regionK (fun K' hK => ?_) | (refine AOps.nil (hK _ _ ?_); clear hK K') | (refine AWP.condW rfl True.intro (fun hc => ?_) (fun hc => ?_) <;> (first | (simp only [dEt] at hc) | (simp only [dEf, iNl, iNe] at hc) | skip)) | refine AWP.block ?_ | refine AWP.exit ?_ | refine AWP.skip ?_ | refine AWP.drawK2 (by decide +kernel) (by kernel_rfl) (by decide +kernel) rfl (fun K' hK => ?_) | (refine AQ.nil (hK _ ?_); clear hK K') | refine AQ.q rfl rfl (fun hg => by first | exact iX encN b ((k : Nat) : Int) hy (hb := by omega) | exact iX encN a ((i : Nat) : Int) hx (hb := by omega) | exact std0 | exact PRun.callW (c1) rfl rfl nd rfl nds | exact PRun.callW (c2) rfl rfl nd rfl nds | exact PRun.callW (c3) rfl rfl nd rfl nds) (by exact rfl) ?_)
        all_goals (first | (exfalso; omega) | (exfalso; simp at hc; done) | (exfalso; simp at hc; omega) | (exfalso; simp only [dEf, dEt] at hc; omega) | (rename_i h0; exfalso; simp at h0; done) | (rename_i h0; exfalso; simp at h0; omega) | skip)
        · rw [show stepK (ruleF (q + 1)) x p2 y = p2 ++ [(x.id, y.id)] by unfold stepK; rw [if_pos]; simp only [Int.toNat_natCast, Bool.or_eq_true, Bool.and_eq_true, Bool.or_eq_false_iff, Bool.and_eq_false_iff, dEt, dEf, Bool.not_eq_true', Bool.not_eq_false', beq_iff_eq, beq_eq_false_iff_ne, bne_iff_ne, bne_eq_false_iff_eq, gt_iff_lt, ge_iff_le, ne_eq] at hc; simp [hc]] at hf
          refine AWP.drawYM effOp (fun j => match j with | 0 => [.own 2 (p2.map encPr).length] | _ => [.own 2 (p2.map encPr ++ [[AV.int x.id, AV.int y.id]]).length]) rfl (by kernel_rfl) (by decide +kernel) rfl (by decide +kernel) (fun K' hK => ?_)
          repeat' (first
            | refine YQ.q (a := 0) (b := 0) rfl (by decide +kernel) (by decide +kernel) rfl rfl rfl (fun k h1 h2 hg => by (have hk : k = 0 := (by omega)); (rcases hk with rfl) <;> (first | exact iX encN b ((k : Nat) : Int) hy (hb := by omega) | exact iX encN a ((i : Nat) : Int) hx (hb := by omega) | exact std0 | exact PRun.buildW tabOk rfl rfl nds | exact PRun.buildSlW tabOk rfl rfl nds | exact std1)) (by exact rfl) ?_
            | refine YQ.q (a := 0) (b := 1) rfl (by decide +kernel) (by decide +kernel) rfl rfl rfl (fun k h1 h2 hg => by (have hk : k = 0 ∨ k = 1 := (by omega)); (rcases hk with rfl | rfl) <;> (first | exact iX encN b ((k : Nat) : Int) hy (hb := by omega) | exact iX encN a ((i : Nat) : Int) hx (hb := by omega) | exact std0 | exact PRun.buildW tabOk rfl rfl nds | exact PRun.buildSlW tabOk rfl rfl nds | exact std1)) (by exact rfl) ?_
            | refine YQ.q (a := 1) (b := 1) rfl (by decide +kernel) (by decide +kernel) rfl rfl rfl (fun k h1 h2 hg => by (have hk : k = 1 := (by omega)); (rcases hk with rfl) <;> (first | exact iX encN b ((k : Nat) : Int) hy (hb := by omega) | exact iX encN a ((i : Nat) : Int) hx (hb := by omega) | exact std0 | exact PRun.buildW tabOk rfl rfl nds | exact PRun.buildSlW tabOk rfl rfl nds | exact std1)) (by exact rfl) ?_
            | refine YQ.q (a := 0) (b := 2) rfl (by decide +kernel) (by decide +kernel) rfl rfl rfl (fun k h1 h2 hg => by (have hk : k = 0 ∨ k = 1 ∨ k = 2 := (by omega)); (rcases hk with rfl | rfl | rfl) <;> (first | exact iX encN b ((k : Nat) : Int) hy (hb := by omega) | exact iX encN a ((i : Nat) : Int) hx (hb := by omega) | exact std0 | exact PRun.buildW tabOk rfl rfl nds | exact PRun.buildSlW tabOk rfl rfl nds | exact std1)) (by exact rfl) ?_
            | refine YQ.q (a := 1) (b := 2) rfl (by decide +kernel) (by decide +kernel) rfl rfl rfl (fun k h1 h2 hg => by (have hk : k = 1 ∨ k = 2 := (by omega)); (rcases hk with rfl | rfl) <;> (first | exact iX encN b ((k : Nat) : Int) hy (hb := by omega) | exact iX encN a ((i : Nat) : Int) hx (hb := by omega) | exact std0 | exact PRun.buildW tabOk rfl rfl nds | exact PRun.buildSlW tabOk rfl rfl nds | exact std1)) (by exact rfl) ?_
            | refine YQ.q (a := 2) (b := 2) rfl (by decide +kernel) (by decide +kernel) rfl rfl rfl (fun k h1 h2 hg => by (have hk : k = 2 := (by omega)); (rcases hk with rfl) <;> (first | exact iX encN b ((k : Nat) : Int) hy (hb := by omega) | exact iX encN a ((i : Nat) : Int) hx (hb := by omega) | exact std0 | exact PRun.buildW tabOk rfl rfl nds | exact PRun.buildSlW tabOk rfl rfl nds | exact std1)) (by exact rfl) ?_)
          refine YQ.e (v := .sl 2 (p2.map encPr ++ [[AV.int x.id, AV.int y.id]]) (.own 0)) (d := some 68) rfl rfl rfl ?_ ?_
          · intro env' he
            exact EStep.appendOwn' (l := 0) tabOk rfl rfl rfl (by decide) (Rd.w ((rdv_congr (he 55 (by decide +kernel))).trans rfl) (by rw [rdn_congr (he 55 (by decide +kernel))]; first | exact True.intro | exact rfl)) rfl (Rd.w ((rdv_congr (he 67 (by decide +kernel))).trans rfl) (by rw [rdn_congr (he 67 (by decide +kernel))]; first | exact True.intro | exact rfl)) (.sl rfl (by intro z hz; rcases List.mem_singleton.1 hz with rfl; rfl)) (LOk.of (tabOk.get rfl)) (LOk.of (tabOk.get rfl)) rfl rfl (by simp only [List.length_map, List.length_append, List.length_cons, List.length_nil]; omega) (by simp only [List.length_map, List.length_append, List.length_cons, List.length_nil]; omega) ⟨rfl, rfl⟩
          repeat' (first
            | refine YQ.q (a := 0) (b := 0) rfl (by decide +kernel) (by decide +kernel) rfl rfl rfl (fun k h1 h2 hg => by (have hk : k = 0 := (by omega)); (rcases hk with rfl) <;> (first | exact std0 | exact std1)) (by exact rfl) ?_
            | refine YQ.q (a := 0) (b := 1) rfl (by decide +kernel) (by decide +kernel) rfl rfl rfl (fun k h1 h2 hg => by (have hk : k = 0 ∨ k = 1 := (by omega)); (rcases hk with rfl | rfl) <;> (first | exact std0 | exact std1)) (by exact rfl) ?_
            | refine YQ.q (a := 1) (b := 1) rfl (by decide +kernel) (by decide +kernel) rfl rfl rfl (fun k h1 h2 hg => by (have hk : k = 1 := (by omega)); (rcases hk with rfl) <;> (first | exact std0 | exact std1)) (by exact rfl) ?_
            | refine YQ.q (a := 0) (b := 2) rfl (by decide +kernel) (by decide +kernel) rfl rfl rfl (fun k h1 h2 hg => by (have hk : k = 0 ∨ k = 1 ∨ k = 2 := (by omega)); (rcases hk with rfl | rfl | rfl) <;> (first | exact std0 | exact std1)) (by exact rfl) ?_
            | refine YQ.q (a := 1) (b := 2) rfl (by decide +kernel) (by decide +kernel) rfl rfl rfl (fun k h1 h2 hg => by (have hk : k = 1 ∨ k = 2 := (by omega)); (rcases hk with rfl | rfl) <;> (first | exact std0 | exact std1)) (by exact rfl) ?_
            | refine YQ.q (a := 2) (b := 2) rfl (by decide +kernel) (by decide +kernel) rfl rfl rfl (fun k h1 h2 hg => by (have hk : k = 2 := (by omega)); (rcases hk with rfl) <;> (first | exact std0 | exact std1)) (by exact rfl) ?_)
          refine YQ.nil (hK _ _ ?_)
          clear hK K'
          show AWP _ _ _ _ _ [.own 2 (p2.map encPr ++ [[AV.int x.id, AV.int y.id]]).length]
          repeat' (first | refine AOps.q rfl rfl rfl (fun hg => by exact std0) (by exact rfl) ?_ | refine AWP.regionK (fun K' hK => ?_) | (refine AOps.nil (hK _ _ ?_); clear hK K'))
          exact ⟨k + 1, hlt3, by omega, ⟨rfl, rfl, (by rw [hf, List.map_append]; rfl), rfl, rfl, rfl, True.intro⟩, (by rw [hf, List.map_append]; rfl)⟩
        · rw [show stepK (ruleF (q + 1)) x p2 y = p2 by unfold stepK; rw [if_neg]; intro hh; revert hc; (simp only [Int.toNat_natCast, Bool.or_eq_true, Bool.and_eq_true, Bool.or_eq_false_iff, Bool.and_eq_false_iff, dEt, dEf, Bool.not_eq_true', Bool.not_eq_false', beq_iff_eq, beq_eq_false_iff_ne, bne_iff_ne, bne_eq_false_iff_eq, gt_iff_lt, ge_iff_le, ne_eq] at hh); simp [hh]] at hf
          exact ⟨k + 1, hlt3, by omega, ⟨rfl, rfl, (by rw [hf]; rfl), rfl, rfl, rfl, True.intro⟩, (by rw [hf]; rfl)⟩
      · obtain rfl : k = b.length := by omega
        rw [List.take_length] at *
        repeat' (first | refine AOps.q rfl rfl rfl (fun hg => by first | exact std0 | exact std1) (by exact rfl) ?_ | refine AWP.seq ?_ | refine AWP.regionK (fun K' hK => ?_) | (refine AOps.nil (hK _ _ ?_); clear hK K') | (refine AWP.condW rfl True.intro (fun hc => ?_) (fun hc => ?_) <;> (first | (simp only [dEt] at hc) | (simp only [dEf, iNl, iNe] at hc) | skip)) | refine AWP.block ?_ | refine AWP.exit ?_ | refine AWP.skip ?_ | refine AWP.drawK2 (by decide +kernel) (by kernel_rfl) (by decide +kernel) rfl (fun K' hK => ?_) | refine AQ.q rfl rfl (fun hg => by first | exact std0 | exact std1) (by exact rfl) ?_)
        all_goals (first | (exfalso; omega) | (exfalso; simp at hc; done) | (exfalso; simp at hc; omega) | (exfalso; simp only [dEf, dEt] at hc; omega) | (rename_i h0; exfalso; simp at h0; done) | (rename_i h0; exfalso; simp at h0; omega) | skip)
        exact ⟨i + 1, hlt2, by omega, ⟨rfl, rfl, (by rw [hm]; rfl), rfl, rfl, True.intro⟩, (by rw [hm]; rfl)⟩
    · obtain rfl : i = a.length := by omega
      rw [List.take_length] at *
      repeat' (first | refine AOps.q rfl rfl rfl (fun hg => by first | exact std0 | exact std1) (by exact rfl) ?_ | refine AWP.seq ?_ | refine AWP.regionK (fun K' hK => ?_) | (refine AOps.nil (hK _ _ ?_); clear hK K') | (refine AWP.condW rfl True.intro (fun hc => ?_) (fun hc => ?_) <;> (first | (simp only [dEt] at hc) | (simp only [dEf, iNl, iNe] at hc) | skip)) | refine AWP.block ?_ | refine AWP.exit ?_ | refine AWP.skip ?_)
      all_goals (first | (exfalso; omega) | (exfalso; simp at hc; done) | (exfalso; simp at hc; omega) | (exfalso; simp only [dEf, dEt] at hc; omega) | (rename_i h0; exfalso; simp at h0; done) | (rename_i h0; exfalso; simp at h0; omega) | skip)
      exact ⟨q + 1, hlt, by omega, ⟨rfl, rfl, (by rw [hst]; rfl), rfl, True.intro⟩, (by rw [hst]; rfl)⟩
  · obtain rfl : q = 3 := by omega
    repeat' (first | refine AOps.q rfl rfl rfl (fun hg => by exact std0) (by exact rfl) ?_ | refine AWP.seq ?_ | refine AWP.regionK (fun K' hK => ?_) | (refine AOps.nil (hK _ _ ?_); clear hK K') | (refine AWP.condW rfl True.intro (fun hc => ?_) (fun hc => ?_) <;> (first | (simp only [dEt] at hc) | (simp only [dEf, iNl, iNe] at hc) | skip)) | refine AWP.block ?_ | refine AWP.exit ?_ | refine AWP.skip ?_ | refine AWP.ret ?_)
    all_goals (first | (exfalso; omega) | (exfalso; simp at hc; done) | (exfalso; simp at hc; omega) | (exfalso; simp only [dEf, dEt] at hc; omega) | (rename_i h0; exfalso; simp at h0; done) | (rename_i h0; exfalso; simp at h0; omega) | skip)
    exact ⟨.inr rfl, Ent.of rfl⟩
end Go.Proofs.YtekfpcgagoidcaaGreatDoor.Al

