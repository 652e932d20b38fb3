/- Contracts by content: the reference of align: proves, Check. No statement is proved here. -/
import Derived.Test.YtekfpcgagoidcaaGreatDoorQ29
set_option linter.unusedVariables false
set_option linter.unusedSimpArgs false
namespace Go.Ab
theorem PRun.noB {P : Program} {o : Oper} {env : Env} {σ : Store} {v : AV} {x : Bool} (h : (x && false) = true) : PRun P o env σ v := absurd h (by cases x <;> decide)
theorem PRun.noB2 {P : Program} {o : Oper} {env : Env} {σ : Store} {v : AV} {x : Bool} (h : ((x && false) == true) = true) : PRun P o env σ v := absurd h (by cases x <;> decide)
end Go.Ab
namespace Go.Proofs.YtekfpcgagoidcaaGreatDoor.Al
open Go.Ab Go.Sort
attribute [local irreducible] AWP AOps EStep AQ PStep PRun PCall TCall VCall
theorem tab_len {c : Nat → Nat → Int} {n m : Nat} {t : List (List Int)} {v : Bool} (h : t.length ≠ n + 1) : (tabOkB c n m t && v) = false := by unfold tabOkB; rw [decide_eq_false h]; rfl
theorem tab_row {c : Nat → Nat → Int} {n m : Nat} {t : List (List Int)} {v : Bool} {i : Nat} (hi : i < n + 1) (h : rowOk c m t i = false) : (tabOkB c n m t && v) = false := by
  unfold tabOkB
  have : (List.range (n + 1)).all (rowOk c m t) = false := by
    rw [List.all_eq_false]; exact ⟨i, List.mem_range.2 hi, by rw [h]; decide⟩
  rw [this]; simp
theorem row_len {c : Nat → Nat → Int} {m : Nat} {t : List (List Int)} {i : Nat} (h : (t.getD i []).length ≠ m + 1) : rowOk c m t i = false := by unfold rowOk; rw [decide_eq_false h]; rfl
theorem row_cell {c : Nat → Nat → Int} {m : Nat} {t : List (List Int)} {i k : Nat} (hk : k < m + 1) (h : cellOk c t i k = false) : rowOk c m t i = false := by
  unfold rowOk
  have : (List.range (m + 1)).all (cellOk c t i) = false := by
    rw [List.all_eq_false]; exact ⟨k, List.mem_range.2 hk, by rw [h]; decide⟩
  rw [this]; simp
theorem row_yes {c : Nat → Nat → Int} {m : Nat} {t : List (List Int)} {i : Nat} (hl : (t.getD i []).length = m + 1) (h : ∀ k, k < m + 1 → cellOk c t i k = true) : rowOk c m t i = true := by
  unfold rowOk
  rw [decide_eq_true hl, List.all_eq_true.2 fun k hk => h k (List.mem_range.1 hk)]; rfl
theorem tab_yes {c : Nat → Nat → Int} {n m : Nat} {t : List (List Int)} (hl : t.length = n + 1) (h : ∀ i, i < n + 1 → rowOk c m t i = true) : tabOkB c n m t = (get2 t 0 0 == 0) := by
  unfold tabOkB
  rw [decide_eq_true hl, List.all_eq_true.2 fun k hk => h k (List.mem_range.1 hk)]; rfl
theorem rows_of {c : Nat → Nat → Int} {m : Nat} {t : List (List Int)} {i : Nat} (h : ∀ j, j < i → rowOk c m t j = true) : Rows m t i := fun j hj => by
  have := h j hj
  unfold rowOk at this
  simp only [Bool.and_eq_true, dEt, List.all_eq_true] at this
  refine ⟨this.1, fun k hk => ?_⟩
  have := cellOk_iff.1 (this.2 k (List.mem_range.2 hk))
  exact ⟨this.1, this.2.1⟩
theorem bnd_of {c : Nat → Nat → Int} {t : List (List Int)} {i n : Nat} (h : ∀ k, k < n → cellOk c t i k = true) : Bnd t i n := fun k hk => by
  have := cellOk_iff.1 (h k hk)
  exact ⟨this.1, this.2.1⟩
theorem lt_succ_all {p : Nat → Prop} {n : Nat} (h : ∀ j, j < n → p j) (hn : p n) : ∀ j, j < n + 1 → p j := fun j hj => by
  rcases Nat.lt_or_ge j n with g | g
  · exact h j g
  · obtain rfl : j = n := by omega
    exact hn
set_option maxHeartbeats 16000000 in
set_option maxRecDepth 20000 in
theorem proves_spec (a b : Score) (ha : a.Small) (hb : b.Small) (t : List (List Int)) (cst : Int) (ht : t.length ≤ 9223372036854775807) :
    PCall Tryz.prog 58 [.agg (encS a), .agg (encS b), .sl 1 (t.map encRow) .no, .int cst] (.b (tabOkB (costR a b) a.bars.length b.bars.length t && (get2 t a.bars.length b.bars.length == cst))) := by
  have ha1 := ha.1
  have hb1 := hb.1
  refine PCall.body Tryz.func58 rfl rfl Tryz.ntmps58 rfl rfl ?_
  repeat' (first | refine AOps.q rfl rfl rfl (fun hg => by first | exact std0 | exact std1) (by exact rfl) ?_ | refine AWP.seq ?_ | refine AWP.regionK (fun K' hK => ?_) | (refine AOps.nil (hK _ _ ?_); clear hK K') | refine AOps.e (EStep.boxW rfl rfl rfl rfl rfl True.intro rfl rfl ?_) | (refine AWP.condW rfl True.intro (fun hc => ?_) (fun hc => ?_) <;> (first | (simp only [dEt] at hc) | (simp only [dEf, iNl, iNe] at hc) | skip)) | refine AWP.block ?_ | refine AWP.skip ?_ | refine AWP.ret ?_)
  · exact ⟨.inr rfl, Ent.b (Eq.symm (tab_len (by simp only [Int.toNat_natCast, Bool.or_eq_true, Bool.and_eq_true, Bool.or_eq_false_iff, Bool.and_eq_false_iff, dEt, dEf, Bool.not_eq_true', Bool.not_eq_false', beq_iff_eq, beq_eq_false_iff_ne, bne_iff_ne, bne_eq_false_iff_eq, gt_iff_lt, ge_iff_le, ne_eq] at hc; omega)))⟩
  have hlen : t.length = a.bars.length + 1 := by simp only [Int.toNat_natCast, Bool.or_eq_true, Bool.and_eq_true, Bool.or_eq_false_iff, Bool.and_eq_false_iff, dEt, dEf, Bool.not_eq_true', Bool.not_eq_false', beq_iff_eq, beq_eq_false_iff_ne, bne_iff_ne, bne_eq_false_iff_eq, gt_iff_lt, ge_iff_le, ne_eq] at hc; omega
  clear hc
  refine AWP.loopD (ι := Nat) (fun i => [(2, .sl 1 (t.map encRow) .no), (3, .int cst), (4, .ptr 0 0), (5, .ptr 1 0), (9, .int i)]) (fun _ => [.var (encS a), .var (encS b)])
    (fun i => i ≤ a.bars.length + 1 ∧ ∀ j, j < i → rowOk (costR a b) b.bars.length t j = true) (fun i => a.bars.length + 1 - i) 2 (fun _ => rfl) 0 ⟨Nat.zero_le _, fun j h => absurd h (Nat.not_lt_zero _)⟩ ⟨rfl, rfl, rfl, rfl, rfl, True.intro⟩ rfl (fun _ _ => rfl) (fun _ _ => rfl) ?_
  rintro i ⟨hi, hRw⟩
  have hRs := rows_of hRw
  by_cases hlt : i < a.bars.length + 1
  · obtain ⟨r, hr⟩ : ∃ r, t.getD i [] = r := ⟨_, rfl⟩
    have hr' : t.getD ((i : Nat) : Int).toNat default = r := hr
    by_cases hrl : r.length = b.bars.length + 1
    · repeat' (first | refine AOps.q rfl rfl rfl (fun hg => by first | exact std0 | exact std1) (by exact rfl) ?_ | refine AWP.seq ?_ | refine AWP.regionK (fun K' hK => ?_) | (refine AOps.nil (hK _ _ ?_); clear hK K') | (refine AWP.condW rfl True.intro (fun hc => ?_) (fun hc => ?_) <;> (first | (simp only [dEt] at hc) | (simp only [dEf, iNl, iNe] at hc) | skip)) | refine AWP.block ?_ | refine AWP.exit ?_ | refine AWP.skip ?_ | refine AWP.ret ?_ | refine AWP.drawK2 (by decide +kernel) (by kernel_rfl) (by decide +kernel) rfl (fun K' hK => ?_) | (refine AQ.nil (hK _ ?_); clear hK K') | refine AQ.q rfl rfl (fun hg => by first | exact iX encRow t ((i : Nat) : Int) hr' (hb := by omega) | exact std0 | exact std1) (by exact rfl) ?_)
      all_goals (first | (exfalso; omega) | (exfalso; simp at hc; done) | (exfalso; simp at hc; omega) | (exfalso; simp only [dEf, dEt] at hc; omega) | (rename_i h0; exfalso; simp at h0; done) | (rename_i h0; exfalso; simp at h0; omega) | skip)
      clear hc
      refine AWP.loopD (ι := Nat) (fun k => [(2, .sl 1 (t.map encRow) .no), (3, .int cst), (4, .ptr 0 0), (5, .ptr 1 0), (9, .int i), (10, .int k)]) (fun _ => [.var (encS a), .var (encS b)])
        (fun k => k ≤ b.bars.length + 1 ∧ ∀ j, j < k → cellOk (costR a b) t i j = true) (fun k => b.bars.length + 1 - k) 2 (fun _ => rfl) 0 ⟨Nat.zero_le _, fun j h => absurd h (Nat.not_lt_zero _)⟩ ⟨rfl, rfl, rfl, rfl, rfl, rfl, True.intro⟩ rfl (fun _ _ => rfl) (fun _ _ => rfl) ?_
      rintro k ⟨hk, hCl⟩
      have hBd := bnd_of hCl
      by_cases hlk : k < b.bars.length + 1
      · have hbs := cellOk_iff (c := costR a b) (t := t) (i := i) (k := k)
        obtain ⟨v, hv⟩ : ∃ v, get2 t i k = v := ⟨_, rfl⟩
        have hv' : r.getD k 0 = v := by rw [← hv, ← hr]; rfl
        rw [hv] at hbs
        rcases Nat.eq_zero_or_pos i with hi0 | hi0 <;> rcases Nat.eq_zero_or_pos k with hk0 | hk0
        · subst hi0
          subst hk0
          repeat' (first | refine AOps.q rfl rfl rfl (fun hg => by first | exact iX encRow t ((0 : Nat) : Int) hr (hb := by omega) | exact std0 | exact std1) (by exact rfl) ?_ | refine AWP.seq ?_ | refine AWP.regionK (fun K' hK => ?_) | (refine AOps.nil (hK _ _ ?_); clear hK K') | (refine AWP.condW rfl True.intro (fun hc => ?_) (fun hc => ?_) <;> (first | (simp only [dEt] at hc) | (simp only [dEf, iNl, iNe] at hc) | skip)) | refine AWP.block ?_ | refine AWP.exit ?_ | refine AWP.skip ?_ | refine AWP.ret ?_ | refine AWP.drawK2 (by decide +kernel) (by kernel_rfl) (by decide +kernel) rfl (fun K' hK => ?_) | (refine AQ.nil (hK _ ?_); clear hK K') | refine AQ.q rfl rfl (fun hg => by first | exact iX encI r ((0 : Nat) : Int) hv' (hb := by omega) | exact iX encRow t ((0 : Nat) : Int) hr (hb := by omega) | exact std0 | exact (Bool.noConfusion (show false = true from hg) : PRun _ _ _ _ (.b false)) | exact PRun.noB (v := .b false) hg) (by exact rfl) ?_)
          all_goals (first | (exfalso; omega) | (exfalso; simp at hc; done) | (exfalso; simp at hc; omega) | (exfalso; simp only [dEf, dEt] at hc; omega) | (rename_i h0; exfalso; simp at h0; done) | (rename_i h0; exfalso; simp at h0; omega) | skip)
          all_goals (try (rename_i h1 h2; (try simp only [Int.toNat_natCast, Bool.or_eq_true, Bool.and_eq_true, Bool.or_eq_false_iff, Bool.and_eq_false_iff, dEt, dEf, Bool.not_eq_true', Bool.not_eq_false', beq_iff_eq, beq_eq_false_iff_ne, bne_iff_ne, bne_eq_false_iff_eq, gt_iff_lt, ge_iff_le, ne_eq] at h1); (try simp only [Int.toNat_natCast, Bool.or_eq_true, Bool.and_eq_true, Bool.or_eq_false_iff, Bool.and_eq_false_iff, dEt, dEf, Bool.not_eq_true', Bool.not_eq_false', beq_iff_eq, beq_eq_false_iff_ne, bne_iff_ne, bne_eq_false_iff_eq, gt_iff_lt, ge_iff_le, ne_eq] at h2)))
          all_goals (try simp only [Int.toNat_natCast, Bool.or_eq_true, Bool.and_eq_true, Bool.or_eq_false_iff, Bool.and_eq_false_iff, dEt, dEf, Bool.not_eq_true', Bool.not_eq_false', beq_iff_eq, beq_eq_false_iff_ne, bne_iff_ne, bne_eq_false_iff_eq, gt_iff_lt, ge_iff_le, ne_eq] at hc)
          all_goals (first | (exact ⟨.inr rfl, Ent.b (Eq.symm (tab_row hlt (row_cell hlk (Bool.eq_false_iff.2 fun hh => by have hh2 := hbs.1 hh; omega))))⟩) | (exact ⟨0 + 1, ⟨hlk, lt_succ_all hCl (hbs.2 (by omega))⟩, by omega, ⟨rfl, rfl, rfl, rfl, rfl, rfl, True.intro⟩, rfl⟩))
        · subst hi0
          obtain ⟨k, rfl⟩ : ∃ j, k = j + 1 := ⟨k - 1, by omega⟩
          obtain ⟨w, hw⟩ : ∃ w, get2 t 0 k = w := ⟨_, rfl⟩
          obtain ⟨w1, w2⟩ := hBd k (Nat.lt_succ_self _)
          rw [hw] at w1 w2
          have hw' : r.getD k 0 = w := by rw [← hw, ← hr]; rfl
          rw [show k + 1 - 1 = k from rfl, hw] at hbs
          repeat' (first | refine AOps.q rfl rfl rfl (fun hg => by first | exact iX encRow t ((0 : Nat) : Int) hr (hb := by omega) | exact std0 | exact std1) (by exact rfl) ?_ | refine AWP.seq ?_ | refine AWP.regionK (fun K' hK => ?_) | (refine AOps.nil (hK _ _ ?_); clear hK K') | (refine AWP.condW rfl True.intro (fun hc => ?_) (fun hc => ?_) <;> (first | (simp only [dEt] at hc) | (simp only [dEf, iNl, iNe] at hc) | skip)) | refine AWP.block ?_ | refine AWP.exit ?_ | refine AWP.skip ?_ | refine AWP.ret ?_ | refine AWP.drawK2 (by decide +kernel) (by kernel_rfl) (by decide +kernel) rfl (fun K' hK => ?_) | (refine AQ.nil (hK _ ?_); clear hK K') | refine AQ.q rfl rfl (fun hg => by first | exact iX encI r ((k : Nat) : Int) hw' (hb := by omega) | exact PRun.eq (v := .int ((((k + 1 : Nat) : Int)) - 1)) (PRun.step tabOk rfl sd) (congrArg AV.int (show (((k + 1 : Nat) : Int) - 1) = ((k : Nat) : Int) by omega)) | exact iX encI r ((k + 1 : Nat) : Int) hv' (hb := by omega) | exact iX encRow t ((0 : Nat) : Int) hr (hb := by omega) | exact std0 | exact (Bool.noConfusion (show false = true from hg) : PRun _ _ _ _ (.b false)) | exact PRun.noB (v := .b false) hg) (by exact rfl) ?_)
          all_goals (first | (exfalso; omega) | (exfalso; simp at hc; done) | (exfalso; simp at hc; omega) | (exfalso; simp only [dEf, dEt] at hc; omega) | (rename_i h0; exfalso; simp at h0; done) | (rename_i h0; exfalso; simp at h0; omega) | skip)
          all_goals (try (rename_i h1 h2; (try simp only [Int.toNat_natCast, Bool.or_eq_true, Bool.and_eq_true, Bool.or_eq_false_iff, Bool.and_eq_false_iff, dEt, dEf, Bool.not_eq_true', Bool.not_eq_false', beq_iff_eq, beq_eq_false_iff_ne, bne_iff_ne, bne_eq_false_iff_eq, gt_iff_lt, ge_iff_le, ne_eq] at h1); (try simp only [Int.toNat_natCast, Bool.or_eq_true, Bool.and_eq_true, Bool.or_eq_false_iff, Bool.and_eq_false_iff, dEt, dEf, Bool.not_eq_true', Bool.not_eq_false', beq_iff_eq, beq_eq_false_iff_ne, bne_iff_ne, bne_eq_false_iff_eq, gt_iff_lt, ge_iff_le, ne_eq] at h2)))
          all_goals (try simp only [Int.toNat_natCast, Bool.or_eq_true, Bool.and_eq_true, Bool.or_eq_false_iff, Bool.and_eq_false_iff, dEt, dEf, Bool.not_eq_true', Bool.not_eq_false', beq_iff_eq, beq_eq_false_iff_ne, bne_iff_ne, bne_eq_false_iff_eq, gt_iff_lt, ge_iff_le, ne_eq] at hc)
          all_goals (first | (exact ⟨.inr rfl, Ent.b (Eq.symm (tab_row hlt (row_cell hlk (Bool.eq_false_iff.2 fun hh => by have hh2 := hbs.1 hh; omega))))⟩) | (exact ⟨k + 1 + 1, ⟨hlk, lt_succ_all hCl (hbs.2 (by omega))⟩, by omega, ⟨rfl, rfl, rfl, rfl, rfl, rfl, True.intro⟩, rfl⟩))
        · obtain ⟨i, rfl⟩ : ∃ j, i = j + 1 := ⟨i - 1, by omega⟩
          obtain ⟨q, hq⟩ : ∃ q, t.getD i [] = q := ⟨_, rfl⟩
          obtain ⟨rw1, rw2⟩ := hRs i (Nat.lt_succ_self _)
          rw [hq] at rw1
          subst hk0
          obtain ⟨u, hu⟩ : ∃ u, get2 t i 0 = u := ⟨_, rfl⟩
          obtain ⟨u1, u2⟩ := rw2 0 (by omega)
          rw [hu] at u1 u2
          have hu' : q.getD 0 0 = u := by rw [← hu, ← hq]; rfl
          rw [show i + 1 - 1 = i from rfl, hu] at hbs
          repeat' (first | refine AOps.q rfl rfl rfl (fun hg => by first | exact iX encRow t ((i + 1 : Nat) : Int) hr (hb := by omega) | exact std0 | exact std1) (by exact rfl) ?_ | refine AWP.seq ?_ | refine AWP.regionK (fun K' hK => ?_) | (refine AOps.nil (hK _ _ ?_); clear hK K') | (refine AWP.condW rfl True.intro (fun hc => ?_) (fun hc => ?_) <;> (first | (simp only [dEt] at hc) | (simp only [dEf, iNl, iNe] at hc) | skip)) | refine AWP.block ?_ | refine AWP.exit ?_ | refine AWP.skip ?_ | refine AWP.ret ?_ | refine AWP.drawK2 (by decide +kernel) (by kernel_rfl) (by decide +kernel) rfl (fun K' hK => ?_) | (refine AQ.nil (hK _ ?_); clear hK K') | refine AQ.q rfl rfl (fun hg => by first | exact iX encI q ((0 : Nat) : Int) hu' (hb := by omega) | exact iX encRow t ((i : Nat) : Int) hq (hb := by omega) | exact PRun.eq (v := .int ((((i + 1 : Nat) : Int)) - 1)) (PRun.step tabOk rfl sd) (congrArg AV.int (show (((i + 1 : Nat) : Int) - 1) = ((i : Nat) : Int) by omega)) | exact iX encI r ((0 : Nat) : Int) hv' (hb := by omega) | exact iX encRow t ((i + 1 : Nat) : Int) hr (hb := by omega) | exact std0 | exact PRun.noB (v := .b false) hg | exact PRun.noB2 (v := .b false) hg) (by exact rfl) ?_)
          all_goals (first | (exfalso; omega) | (exfalso; simp at hc; done) | (exfalso; simp at hc; omega) | (exfalso; simp only [dEf, dEt] at hc; omega) | (rename_i h0; exfalso; simp at h0; done) | (rename_i h0; exfalso; simp at h0; omega) | skip)
          all_goals (try (rename_i h1 h2; (try simp only [Int.toNat_natCast, Bool.or_eq_true, Bool.and_eq_true, Bool.or_eq_false_iff, Bool.and_eq_false_iff, dEt, dEf, Bool.not_eq_true', Bool.not_eq_false', beq_iff_eq, beq_eq_false_iff_ne, bne_iff_ne, bne_eq_false_iff_eq, gt_iff_lt, ge_iff_le, ne_eq] at h1); (try simp only [Int.toNat_natCast, Bool.or_eq_true, Bool.and_eq_true, Bool.or_eq_false_iff, Bool.and_eq_false_iff, dEt, dEf, Bool.not_eq_true', Bool.not_eq_false', beq_iff_eq, beq_eq_false_iff_ne, bne_iff_ne, bne_eq_false_iff_eq, gt_iff_lt, ge_iff_le, ne_eq] at h2)))
          all_goals (try simp only [Int.toNat_natCast, Bool.or_eq_true, Bool.and_eq_true, Bool.or_eq_false_iff, Bool.and_eq_false_iff, dEt, dEf, Bool.not_eq_true', Bool.not_eq_false', beq_iff_eq, beq_eq_false_iff_ne, bne_iff_ne, bne_eq_false_iff_eq, gt_iff_lt, ge_iff_le, ne_eq] at hc)
          all_goals (first | (exact ⟨.inr rfl, Ent.b (Eq.symm (tab_row hlt (row_cell hlk (Bool.eq_false_iff.2 fun hh => by have hh2 := hbs.1 hh; omega))))⟩) | (exact ⟨0 + 1, ⟨hlk, lt_succ_all hCl (hbs.2 (by omega))⟩, by omega, ⟨rfl, rfl, rfl, rfl, rfl, rfl, True.intro⟩, rfl⟩))
        · obtain ⟨i, rfl⟩ : ∃ j, i = j + 1 := ⟨i - 1, by omega⟩
          obtain ⟨q, hq⟩ : ∃ q, t.getD i [] = q := ⟨_, rfl⟩
          obtain ⟨rw1, rw2⟩ := hRs i (Nat.lt_succ_self _)
          rw [hq] at rw1
          obtain ⟨k, rfl⟩ : ∃ j, k = j + 1 := ⟨k - 1, by omega⟩
          obtain ⟨u, hu⟩ : ∃ u, get2 t i (k + 1) = u := ⟨_, rfl⟩
          obtain ⟨u1, u2⟩ := rw2 (k + 1) (by omega)
          rw [hu] at u1 u2
          have hu' : q.getD (k + 1) 0 = u := by rw [← hu, ← hq]; rfl
          rw [show i + 1 - 1 = i from rfl, hu] at hbs
          obtain ⟨w, hw⟩ : ∃ w, get2 t (i + 1) k = w := ⟨_, rfl⟩
          obtain ⟨w1, w2⟩ := hBd k (Nat.lt_succ_self _)
          rw [hw] at w1 w2
          have hw' : r.getD k 0 = w := by rw [← hw, ← hr]; rfl
          rw [show k + 1 - 1 = k from rfl, hw] at hbs
          obtain ⟨x, hx⟩ : ∃ x, get2 t i k = x := ⟨_, rfl⟩
          obtain ⟨x1, x2⟩ := rw2 k (by omega)
          rw [hx] at x1 x2 hbs
          have hx' : q.getD k 0 = x := by rw [← hx, ← hq]; rfl
          have c1 := costR_in a b i k
          have hc0 := cost12_spec a b ha hb i k (by omega) (by omega)
          generalize costR a b i k = C at c1 hc0 hbs
          repeat' (first | refine AOps.q rfl rfl rfl (fun hg => by first | exact iX encRow t ((i + 1 : Nat) : Int) hr (hb := by omega) | exact std0 | exact std1) (by exact rfl) ?_ | refine AWP.seq ?_ | refine AWP.regionK (fun K' hK => ?_) | (refine AOps.nil (hK _ _ ?_); clear hK K') | (refine AWP.condW rfl True.intro (fun hc => ?_) (fun hc => ?_) <;> (first | (simp only [dEt] at hc) | (simp only [dEf, iNl, iNe] at hc) | skip)) | refine AWP.block ?_ | refine AWP.exit ?_ | refine AWP.skip ?_ | refine AWP.ret ?_ | refine AWP.drawK2 (by decide +kernel) (by kernel_rfl) (by decide +kernel) rfl (fun K' hK => ?_) | (refine AQ.nil (hK _ ?_); clear hK K') | refine AQ.q rfl rfl (fun hg => by first | exact iX encI q ((k : Nat) : Int) hx' (hb := by omega) | exact iX encI r ((k : Nat) : Int) hw' (hb := by omega) | exact PRun.eq (v := .int ((((k + 1 : Nat) : Int)) - 1)) (PRun.step tabOk rfl sd) (congrArg AV.int (show (((k + 1 : Nat) : Int) - 1) = ((k : Nat) : Int) by omega)) | exact iX encI q ((k + 1 : Nat) : Int) hu' (hb := by omega) | exact iX encRow t ((i : Nat) : Int) hq (hb := by omega) | exact PRun.eq (v := .int ((((i + 1 : Nat) : Int)) - 1)) (PRun.step tabOk rfl sd) (congrArg AV.int (show (((i + 1 : Nat) : Int) - 1) = ((i : Nat) : Int) by omega)) | exact iX encI r ((k + 1 : Nat) : Int) hv' (hb := by omega) | exact iX encRow t ((i + 1 : Nat) : Int) hr (hb := by omega) | exact std0 | exact PRun.callW (hc0) rfl rfl nd rfl nds) (by exact rfl) ?_)
          all_goals (first | (exfalso; omega) | (exfalso; simp at hc; done) | (exfalso; simp at hc; omega) | (exfalso; simp only [dEf, dEt] at hc; omega) | (rename_i h0; exfalso; simp at h0; done) | (rename_i h0; exfalso; simp at h0; omega) | skip)
          all_goals (try (rename_i h1 h2; (try simp only [Int.toNat_natCast, Bool.or_eq_true, Bool.and_eq_true, Bool.or_eq_false_iff, Bool.and_eq_false_iff, dEt, dEf, Bool.not_eq_true', Bool.not_eq_false', beq_iff_eq, beq_eq_false_iff_ne, bne_iff_ne, bne_eq_false_iff_eq, gt_iff_lt, ge_iff_le, ne_eq] at h1); (try simp only [Int.toNat_natCast, Bool.or_eq_true, Bool.and_eq_true, Bool.or_eq_false_iff, Bool.and_eq_false_iff, dEt, dEf, Bool.not_eq_true', Bool.not_eq_false', beq_iff_eq, beq_eq_false_iff_ne, bne_iff_ne, bne_eq_false_iff_eq, gt_iff_lt, ge_iff_le, ne_eq] at h2)))
          all_goals (try simp only [Int.toNat_natCast, Bool.or_eq_true, Bool.and_eq_true, Bool.or_eq_false_iff, Bool.and_eq_false_iff, dEt, dEf, Bool.not_eq_true', Bool.not_eq_false', beq_iff_eq, beq_eq_false_iff_ne, bne_iff_ne, bne_eq_false_iff_eq, gt_iff_lt, ge_iff_le, ne_eq] at hc)
          all_goals (first | (exact ⟨.inr rfl, Ent.b (Eq.symm (tab_row hlt (row_cell hlk (Bool.eq_false_iff.2 fun hh => by have hh2 := hbs.1 hh; omega))))⟩) | (exact ⟨k + 1 + 1, ⟨hlk, lt_succ_all hCl (hbs.2 (by omega))⟩, by omega, ⟨rfl, rfl, rfl, rfl, rfl, rfl, True.intro⟩, rfl⟩))
      · obtain rfl : k = b.bars.length + 1 := by omega
        repeat' (first | refine AOps.q rfl rfl rfl (fun hg => by first | exact iX encRow t ((i : Nat) : Int) hr' (hb := by omega) | exact std0 | exact std1) (by exact rfl) ?_ | refine AWP.seq ?_ | refine AWP.regionK (fun K' hK => ?_) | (refine AOps.nil (hK _ _ ?_); clear hK K') | (refine AWP.condW rfl True.intro (fun hc => ?_) (fun hc => ?_) <;> (first | (simp only [dEt] at hc) | (simp only [dEf, iNl, iNe] at hc) | skip)) | refine AWP.block ?_ | refine AWP.exit ?_ | refine AWP.skip ?_ | refine AWP.ret ?_ | refine AWP.drawK2 (by decide +kernel) (by kernel_rfl) (by decide +kernel) rfl (fun K' hK => ?_) | (refine AQ.nil (hK _ ?_); clear hK K') | refine AQ.q rfl rfl (fun hg => by first | exact iX encRow t ((i : Nat) : Int) hr' (hb := by omega) | exact std0 | exact std1) (by exact rfl) ?_)
        all_goals (first | (exfalso; omega) | (exfalso; simp at hc; done) | (exfalso; simp at hc; omega) | (exfalso; simp only [dEf, dEt] at hc; omega) | (rename_i h0; exfalso; simp at h0; done) | (rename_i h0; exfalso; simp at h0; omega) | skip)
        exact ⟨i + 1, ⟨hlt, lt_succ_all hRw (row_yes (by rw [hr]; exact hrl) hCl)⟩, by omega, ⟨rfl, rfl, rfl, rfl, rfl, True.intro⟩, rfl⟩
    · repeat' (first | refine AOps.q rfl rfl rfl (fun hg => by first | exact std0 | exact std1) (by exact rfl) ?_ | refine AWP.seq ?_ | refine AWP.regionK (fun K' hK => ?_) | (refine AOps.nil (hK _ _ ?_); clear hK K') | (refine AWP.condW rfl True.intro (fun hc => ?_) (fun hc => ?_) <;> (first | (simp only [dEt] at hc) | (simp only [dEf, iNl, iNe] at hc) | skip)) | refine AWP.block ?_ | refine AWP.exit ?_ | refine AWP.skip ?_ | refine AWP.ret ?_ | refine AWP.drawK2 (by decide +kernel) (by kernel_rfl) (by decide +kernel) rfl (fun K' hK => ?_) | (refine AQ.nil (hK _ ?_); clear hK K') | refine AQ.q rfl rfl (fun hg => by first | exact iX encRow t ((i : Nat) : Int) hr' (hb := by omega) | exact std0 | exact std1) (by exact rfl) ?_)
      all_goals (first | (exfalso; omega) | (exfalso; simp at hc; done) | (exfalso; simp at hc; omega) | (exfalso; simp only [dEf, dEt] at hc; omega) | (rename_i h0; exfalso; simp at h0; done) | (rename_i h0; exfalso; simp at h0; omega) | skip)
      · exact ⟨.inr rfl, Ent.b (Eq.symm (tab_row hlt (row_len (by rw [hr]; exact hrl))))⟩
  · obtain rfl : i = a.bars.length + 1 := by omega
    obtain ⟨q, hq⟩ : ∃ q, t.getD 0 [] = q := ⟨_, rfl⟩
    have hq1 := (hRs 0 (Nat.succ_pos _)).1
    rw [hq] at hq1
    obtain ⟨v, hv⟩ : ∃ v, q.getD 0 0 = v := ⟨_, rfl⟩
    obtain ⟨r, hr⟩ : ∃ r, t.getD a.bars.length [] = r := ⟨_, rfl⟩
    have hr1 := (hRs a.bars.length (Nat.lt_succ_self _)).1
    rw [hr] at hr1
    obtain ⟨w, hw⟩ : ∃ w, r.getD b.bars.length 0 = w := ⟨_, rfl⟩
    rw [tab_yes hlen hRw, show get2 t 0 0 = v by rw [← hv, ← hq]; rfl, show get2 t a.bars.length b.bars.length = w by rw [← hw, ← hr]; rfl]
    repeat' (first | refine AOps.q rfl rfl rfl (fun hg => by first | exact std0 | exact std1) (by exact rfl) ?_ | refine AWP.seq ?_ | refine AWP.regionK (fun K' hK => ?_) | (refine AOps.nil (hK _ _ ?_); clear hK K') | (refine AWP.condW rfl True.intro (fun hc => ?_) (fun hc => ?_) <;> (first | (simp only [dEt] at hc) | (simp only [dEf, iNl, iNe] at hc) | skip)) | refine AWP.block ?_ | refine AWP.exit ?_ | refine AWP.skip ?_ | refine AWP.ret ?_ | refine AWP.drawK2 (by decide +kernel) (by kernel_rfl) (by decide +kernel) rfl (fun K' hK => ?_) | (refine AQ.nil (hK _ ?_); clear hK K') | refine AQ.q rfl rfl (fun hg => by first | exact iX encI r ((b.bars.length : Nat) : Int) hw (hb := by omega) | exact iX encRow t ((a.bars.length : Nat) : Int) hr (hb := by omega) | exact iX encI q (0 : Int) hv (hb := by omega) | exact iX encRow t (0 : Int) hq (hb := by omega) | exact std0 | exact std1) (by exact rfl) ?_)
    all_goals (first | (exfalso; omega) | (exfalso; simp at hc; done) | (exfalso; simp at hc; omega) | (exfalso; simp only [dEf, dEt] at hc; omega) | (rename_i h0; exfalso; simp at h0; done) | (rename_i h0; exfalso; simp at h0; omega) | skip)
    exact ⟨.inr rfl, Ent.b rfl⟩
set_option maxHeartbeats 16000000 in
set_option maxRecDepth 20000 in
theorem rCheck_spec (a b : Score) (ha : a.Small) (hb : b.Small) (x : Algn) (hx : x.pairs.length ≤ 1000000) (hx2 : x.table.length ≤ 9223372036854775807) :
    PCall Tryz.prog 23 [.agg (encS a), .agg (encS b), .agg (encA x)] (.tup [.b (checkR a b x).1, .int (checkR a b x).2]) := by
  have ha1 := ha.1
  have hb1 := hb.1
  have v1 := valid8_spec a ha
  have v2 := valid8_spec b hb
  have v3 := long12_spec a b ha hb
  have v4 := rPairs_spec a b ha hb x.pairs hx
  have v5 := proves_spec a b ha hb x.table x.cost hx2
  refine PCall.body Tryz.func23 rfl rfl Tryz.ntmps23 rfl rfl ?_
  by_cases hok : scoreOk a = true ∧ scoreOk b = true
  · rw [hok.1] at v1
    rw [hok.2] at v2
    have hR : checkR a b x = if a.bars.length > 200 ∨ b.bars.length > 200 then (false, 2) else if pOk a.bars.length b.bars.length (-1) (-1) x.pairs = true ∧ totI (costR a b) a.bars.length b.bars.length x.pairs = x.cost ∧ tabOkB (costR a b) a.bars.length b.bars.length x.table = true then (get2 x.table a.bars.length b.bars.length == x.cost, 0) else (false, 0) := if_pos hok
    rw [hR]
    by_cases hlg : a.bars.length > 200 ∨ b.bars.length > 200
    · rw [decide_eq_true hlg] at v3
      rw [if_pos hlg]
      repeat' (first | refine AOps.q rfl rfl rfl (fun hg => by first | exact std0 | exact PRun.callW (v1) rfl rfl nd rfl nds | exact PRun.callW (v2) rfl rfl nd rfl nds | exact PRun.callW (v3) rfl rfl nd rfl nds) (by exact rfl) ?_ | refine AWP.seq ?_ | refine AWP.regionK (fun K' hK => ?_) | (refine AOps.nil (hK _ _ ?_); clear hK K') | refine AOps.e (EStep.boxW rfl rfl rfl rfl rfl True.intro rfl rfl ?_) | (refine AWP.condW rfl True.intro (fun hc => ?_) (fun hc => ?_) <;> (first | (simp only [dEt] at hc) | (simp only [dEf, iNl, iNe] at hc) | skip)) | refine AWP.skip ?_ | refine AWP.ret ?_ | refine AWP.drawK2 (by decide +kernel) (by kernel_rfl) (by decide +kernel) rfl (fun K' hK => ?_) | refine AQ.q rfl rfl (fun hg => by exact std0) (by exact rfl) ?_)
      all_goals (first | (exfalso; omega) | (exfalso; simp at hc; done) | (exfalso; simp at hc; omega) | (exfalso; simp only [dEf, dEt] at hc; omega) | (rename_i h0; exfalso; simp at h0; done) | (rename_i h0; exfalso; simp at h0; omega) | skip)
      exact ⟨.inr rfl, Ent.rfl' _⟩
    · rw [decide_eq_false hlg] at v3
      rw [if_neg hlg]
      cases hp : pOk a.bars.length b.bars.length (-1) (-1) x.pairs with
      | false =>
        rw [hp] at v4
        rw [if_neg (fun h => Bool.noConfusion h.1)]
        repeat' (first | refine AOps.q rfl rfl rfl (fun hg => by first | exact std0 | exact PRun.callW (v1) rfl rfl nd rfl nds | exact PRun.callW (v2) rfl rfl nd rfl nds | exact PRun.callW (v3) rfl rfl nd rfl nds) (by exact rfl) ?_ | refine AWP.seq ?_ | refine AWP.regionK (fun K' hK => ?_) | (refine AOps.nil (hK _ _ ?_); clear hK K') | refine AOps.e (EStep.boxW rfl rfl rfl rfl rfl True.intro rfl rfl ?_) | (refine AWP.condW rfl True.intro (fun hc => ?_) (fun hc => ?_) <;> (first | (simp only [dEt] at hc) | (simp only [dEf, iNl, iNe] at hc) | skip)) | refine AWP.skip ?_ | refine AWP.ret ?_ | refine AWP.drawK2 (by decide +kernel) (by kernel_rfl) (by decide +kernel) rfl (fun K' hK => ?_) | (refine AQ.nil (hK _ ?_); clear hK K') | refine AQ.q rfl rfl (fun hg => by first | exact std0 | exact PRun.callW (v4) rfl rfl nd rfl nds | exact (Bool.noConfusion (show false = true from hg) : PRun _ _ _ _ (.b false))) (by exact rfl) ?_)
        all_goals (first | (exfalso; omega) | (exfalso; simp at hc; done) | (exfalso; simp at hc; omega) | (exfalso; simp only [dEf, dEt] at hc; omega) | (rename_i h0; exfalso; simp at h0; done) | (rename_i h0; exfalso; simp at h0; omega) | skip)
        exact ⟨.inr rfl, Ent.rfl' _⟩
      | true =>
        rw [hp] at v4
        have v6 := rTotal_spec a b ha hb x.pairs hx hp
        by_cases ht : totI (costR a b) a.bars.length b.bars.length x.pairs = x.cost
        · have e : (if true = true ∧ totI (costR a b) a.bars.length b.bars.length x.pairs = x.cost ∧ tabOkB (costR a b) a.bars.length b.bars.length x.table = true then (get2 x.table a.bars.length b.bars.length == x.cost, (0 : Int)) else (false, 0)) = (tabOkB (costR a b) a.bars.length b.bars.length x.table && (get2 x.table a.bars.length b.bars.length == x.cost), 0) := by
            cases htb : tabOkB (costR a b) a.bars.length b.bars.length x.table with
            | false => rw [if_neg (fun h => Bool.noConfusion h.2.2)]; rfl
            | true => rw [if_pos ⟨rfl, ht, rfl⟩]; rfl
          rw [e]
          generalize (tabOkB (costR a b) a.bars.length b.bars.length x.table && (get2 x.table a.bars.length b.bars.length == x.cost)) = g at *
          repeat' (first | refine AOps.q rfl rfl rfl (fun hg => by first | exact std0 | exact PRun.callW (v1) rfl rfl nd rfl nds | exact PRun.callW (v2) rfl rfl nd rfl nds | exact PRun.callW (v3) rfl rfl nd rfl nds | exact PRun.callW (v5) rfl rfl nd rfl nds) (by exact rfl) ?_ | refine AWP.seq ?_ | refine AWP.regionK (fun K' hK => ?_) | (refine AOps.nil (hK _ _ ?_); clear hK K') | refine AOps.e (EStep.boxW rfl rfl rfl rfl rfl True.intro rfl rfl ?_) | (refine AWP.condW rfl True.intro (fun hc => ?_) (fun hc => ?_) <;> (first | (simp only [dEt] at hc) | (simp only [dEf, iNl, iNe] at hc) | skip)) | refine AWP.skip ?_ | refine AWP.ret ?_ | refine AWP.drawK2 (by decide +kernel) (by kernel_rfl) (by decide +kernel) rfl (fun K' hK => ?_) | (refine AQ.nil (hK _ ?_); clear hK K') | refine AQ.q rfl rfl (fun hg => by first | exact std0 | exact PRun.callW (v4) rfl rfl nd rfl nds | exact PRun.callW (v6) rfl rfl nd rfl nds) (by exact rfl) ?_)
          all_goals (first | (exfalso; omega) | (exfalso; simp at hc; done) | (exfalso; simp at hc; omega) | (exfalso; simp only [dEf, dEt] at hc; omega) | (rename_i h0; exfalso; simp at h0; done) | (rename_i h0; exfalso; simp at h0; omega) | skip)
          all_goals (first | (exact ⟨.inr rfl, Ent.rfl' _⟩) | (exfalso; simp at hc; exact hc ht))
        · rw [if_neg (fun h => ht h.2.1)]
          repeat' (first | refine AOps.q rfl rfl rfl (fun hg => by first | exact std0 | exact PRun.callW (v1) rfl rfl nd rfl nds | exact PRun.callW (v2) rfl rfl nd rfl nds | exact PRun.callW (v3) rfl rfl nd rfl nds | exact PRun.callW (v5) rfl rfl nd rfl nds) (by exact rfl) ?_ | refine AWP.seq ?_ | refine AWP.regionK (fun K' hK => ?_) | (refine AOps.nil (hK _ _ ?_); clear hK K') | refine AOps.e (EStep.boxW rfl rfl rfl rfl rfl True.intro rfl rfl ?_) | (refine AWP.condW rfl True.intro (fun hc => ?_) (fun hc => ?_) <;> (first | (simp only [dEt] at hc) | (simp only [dEf, iNl, iNe] at hc) | skip)) | refine AWP.skip ?_ | refine AWP.ret ?_ | refine AWP.drawK2 (by decide +kernel) (by kernel_rfl) (by decide +kernel) rfl (fun K' hK => ?_) | (refine AQ.nil (hK _ ?_); clear hK K') | refine AQ.q rfl rfl (fun hg => by first | exact std0 | exact PRun.callW (v4) rfl rfl nd rfl nds | exact PRun.callW (v6) rfl rfl nd rfl nds) (by exact rfl) ?_)
          all_goals (first | (exfalso; omega) | (exfalso; simp at hc; done) | (exfalso; simp at hc; omega) | (exfalso; simp only [dEf, dEt] at hc; omega) | (rename_i h0; exfalso; simp at h0; done) | (rename_i h0; exfalso; simp at h0; omega) | skip)
          all_goals (first | (exact ⟨.inr rfl, Ent.rfl' _⟩) | (exfalso; simp at hc; exact ht hc))
  · have hR : checkR a b x = (false, 1) := if_neg hok
    rw [hR]
    generalize scoreOk a = s1 at *
    generalize scoreOk b = s2 at *
    repeat' (first | refine AOps.q rfl rfl rfl (fun hg => by first | exact std0 | exact PRun.callW (v1) rfl rfl nd rfl nds | exact PRun.callW (v2) rfl rfl nd rfl nds) (by exact rfl) ?_ | refine AWP.seq ?_ | refine AWP.regionK (fun K' hK => ?_) | (refine AOps.nil (hK _ _ ?_); clear hK K') | refine AOps.e (EStep.boxW rfl rfl rfl rfl rfl True.intro rfl rfl ?_) | (refine AWP.condW rfl True.intro (fun hc => ?_) (fun hc => ?_) <;> (first | (simp only [dEt] at hc) | (simp only [dEf, iNl, iNe] at hc) | skip)) | refine AWP.skip ?_ | refine AWP.ret ?_)
    all_goals (first | (exfalso; omega) | (exfalso; simp at hc; done) | (exfalso; simp at hc; omega) | (exfalso; simp only [dEf, dEt] at hc; omega) | (rename_i h0; exfalso; simp at h0; done) | (rename_i h0; exfalso; simp at h0; omega) | skip)
    all_goals (first | (exact ⟨.inr rfl, Ent.rfl' _⟩) | (exfalso; cases s1 <;> cases s2 <;> simp at hc <;> exact hok ⟨rfl, rfl⟩))
end Go.Proofs.YtekfpcgagoidcaaGreatDoor.Al

