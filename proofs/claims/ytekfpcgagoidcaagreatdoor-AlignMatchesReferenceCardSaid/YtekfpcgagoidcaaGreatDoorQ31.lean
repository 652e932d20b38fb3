/- Contracts by content: the reference of align: table. No statement is proved here. -/
import Derived.Test.YtekfpcgagoidcaaGreatDoorQ29
set_option linter.unusedVariables false
set_option linter.unusedSimpArgs false
namespace Go.Proofs.YtekfpcgagoidcaaGreatDoor.Al
open Go.Ab Go.Sort
attribute [local irreducible] AWP AOps EStep AQ PStep PRun PCall TCall VCall
set_option maxHeartbeats 16000000 in
set_option maxRecDepth 20000 in
theorem rTable_spec (a b : Score) (ha : a.Small) (hb : b.Small) : PCall Tryz.prog 52 [.agg (encS a), .agg (encS b)] (.sl 1 ((tableL (costR a b) (a.bars.length + 1) (b.bars.length + 1)).map encRow) .no) := by
  have ha1 := ha.1
  have hb1 := hb.1
  refine PCall.body Tryz.func52 rfl rfl Tryz.ntmps52 rfl rfl ?_
  repeat' (first | refine AOps.q rfl rfl rfl (fun hg => by exact std0) (by exact rfl) ?_ | refine AWP.seq ?_ | refine AWP.regionK (fun K' hK => ?_) | (refine AOps.nil (hK _ _ ?_); clear hK K') | refine AOps.e (EStep.boxW rfl rfl rfl rfl rfl True.intro rfl rfl ?_) | refine AWP.block ?_)
  refine AWP.ownNil (d := 5) (sz := 1) rfl ?_
  refine AWP.loopD (ι := Nat) (fun i => [(2, .ptr 0 0), (3, .ptr 1 0), (5, .sl 1 ((tableL (costR a b) i (b.bars.length + 1)).map encRow) (.own 2)), (6, .int i)]) (fun i => [.var (encS a), .var (encS b), .own 1 ((tableL (costR a b) i (b.bars.length + 1)).map encRow).length])
    (fun i => i ≤ a.bars.length + 1) (fun i => a.bars.length + 1 - i) 3 (fun _ => rfl) 0 (Nat.zero_le _) ⟨rfl, rfl, rfl, rfl, True.intro⟩ rfl (fun _ _ => rfl) (fun _ _ => rfl) ?_
  intro i hi
  have l1 := tableL_len (costR a b) i (b.bars.length + 1)
  have et := tabE (costR a b) i (b.bars.length + 1)
  by_cases hlt : i < a.bars.length + 1
  · repeat' (first | refine AOps.q rfl rfl rfl (fun hg => by first | exact std0 | exact std1) (by exact rfl) ?_ | refine AWP.seq ?_ | refine AWP.regionK (fun K' hK => ?_) | (refine AOps.nil (hK _ _ ?_); clear hK K') | (refine AWP.condW rfl True.intro (fun hc => ?_) (fun hc => ?_) <;> (first | (simp only [dEt] at hc) | (simp only [dEf, iNl, iNe] at hc) | skip)) | refine AWP.block ?_ | refine AWP.exit ?_ | refine AWP.skip ?_ | refine AWP.ret ?_)
    all_goals (first | (exfalso; omega) | (exfalso; simp at hc; done) | (exfalso; simp at hc; omega) | (exfalso; simp only [dEf, dEt] at hc; omega) | (rename_i h0; exfalso; simp at h0; done) | (rename_i h0; exfalso; simp at h0; omega) | skip)
    refine AWP.ownNil (d := 7) (sz := 1) rfl ?_
    skip
    refine AWP.loopD (ι := Nat) (fun k => [(2, .ptr 0 0), (3, .ptr 1 0), (5, .sl 1 ((tableL (costR a b) i (b.bars.length + 1)).map encRow) (.own 2)), (6, .int i), (7, .sl 1 ((rowL (costR a b) i k).map encI) (.own 3)), (8, .int k)])
      (fun k => [.var (encS a), .var (encS b), .own 1 ((tableL (costR a b) i (b.bars.length + 1)).map encRow).length, .own 1 ((rowL (costR a b) i k).map encI).length])
      (fun k => k ≤ b.bars.length + 1) (fun k => b.bars.length + 1 - k) 4 (fun _ => rfl) 0 (Nat.zero_le _) ⟨rfl, rfl, rfl, rfl, rfl, rfl, True.intro⟩ rfl (fun _ _ => rfl) (fun _ _ => rfl) ?_
    intro k hk
    have l2 := rowL_len (costR a b) i k
    by_cases hlk : k < b.bars.length + 1
    · have er := rowE (costR a b) i k
      have t0 := T_in a b i k
      rcases Nat.eq_zero_or_pos i with hi0 | hi0 <;> rcases Nat.eq_zero_or_pos k with hk0 | hk0
      · subst hi0
        subst hk0
        have tS := T_zero (c := costR a b) 0
        obtain ⟨y, hy⟩ : ∃ y, T (costR a b) 0 0 = y := ⟨_, rfl⟩
        rw [hy] at er t0
        rw [hy] at tS
        repeat' (first | refine AOps.q rfl rfl rfl (fun hg => by first | exact std0 | exact (Bool.noConfusion (show false = true from hg) : PRun _ _ _ _ (.b false)) | exact PRun.buildSlW tabOk rfl rfl nds | exact std1) (by exact rfl) ?_ | refine AWP.seq ?_ | refine AWP.regionK (fun K' hK => ?_) | (refine AOps.nil (hK _ _ ?_); clear hK K') | refine AOps.e (EStep.appendOwn' tabOk rfl rfl rfl (by decide) (Rd.w rfl True.intro) rfl (Rd.w rfl True.intro) (.sl rfl (by first | (intro x hx; rcases List.mem_singleton.1 hx with rfl; rfl) | exact one_encN _)) (LOk.of (tabOk.get rfl)) (LOk.of (tabOk.get rfl)) rfl rfl (by simp only [List.length_map, List.length_append, List.length_cons, List.length_nil, List.length_take, List.length_drop]; omega) (by simp only [List.length_map, List.length_append, List.length_cons, List.length_nil, List.length_take, List.length_drop]; omega) ?_) | (refine AWP.condW rfl True.intro (fun hc => ?_) (fun hc => ?_) <;> (first | (simp only [dEt] at hc) | (simp only [dEf, iNl, iNe] at hc) | skip)) | refine AWP.block ?_ | refine AWP.exit ?_ | refine AWP.skip ?_ | refine AWP.drawK2 (by decide +kernel) (by kernel_rfl) (by decide +kernel) rfl (fun K' hK => ?_) | (refine AQ.nil (hK _ ?_); clear hK K') | refine AQ.q rfl rfl (fun hg => by first | exact std0 | exact (Bool.noConfusion (show false = true from hg) : PRun _ _ _ _ (.b false)) | fail) (by exact rfl) ?_)
        all_goals (first | (exfalso; omega) | (exfalso; simp at hc; done) | (exfalso; simp at hc; omega) | (exfalso; simp only [dEf, dEt] at hc; omega) | (rename_i h0; exfalso; simp at h0; done) | (rename_i h0; exfalso; simp at h0; omega) | skip)
        all_goals (try (rename_i h1 h2; (try simp only [Int.toNat_natCast, Bool.or_eq_true, Bool.and_eq_true, Bool.or_eq_false_iff, Bool.and_eq_false_iff, dEt, dEf, Bool.not_eq_true', Bool.not_eq_false', beq_iff_eq, beq_eq_false_iff_ne, bne_iff_ne, bne_eq_false_iff_eq, gt_iff_lt, ge_iff_le, ne_eq] at h1); (try simp only [Int.toNat_natCast, Bool.or_eq_true, Bool.and_eq_true, Bool.or_eq_false_iff, Bool.and_eq_false_iff, dEt, dEf, Bool.not_eq_true', Bool.not_eq_false', beq_iff_eq, beq_eq_false_iff_ne, bne_iff_ne, bne_eq_false_iff_eq, gt_iff_lt, ge_iff_le, ne_eq] at h2)))
        all_goals (try simp only [Int.toNat_natCast, Bool.or_eq_true, Bool.and_eq_true, Bool.or_eq_false_iff, Bool.and_eq_false_iff, dEt, dEf, Bool.not_eq_true', Bool.not_eq_false', beq_iff_eq, beq_eq_false_iff_ne, bne_iff_ne, bne_eq_false_iff_eq, gt_iff_lt, ge_iff_le, ne_eq] at hc)
        all_goals (first | (obtain rfl : y = 2 * (((0 : Nat) : Int) + ((0 : Nat) : Int)) := (by omega); exact ⟨0 + 1, hlk, by omega, ⟨rfl, rfl, rfl, rfl, (by show _ = AV.sl 1 ((rowL (costR a b) 0 (0 + 1)).map encI) (.own 3); rw [er]; rfl), rfl, True.intro⟩, (by show _ = [_, _, _, AObj.own 1 ((rowL (costR a b) 0 (0 + 1)).map encI).length]; rw [er]; rfl)⟩))
      · subst hi0
        obtain ⟨k, rfl⟩ : ∃ j, k = j + 1 := ⟨k - 1, by omega⟩
        have tS := T_zero (c := costR a b) (k + 1)
        have tW := T_zero (c := costR a b) k
        have a2 := T_in a b 0 k
        obtain ⟨w, hw⟩ : ∃ w, T (costR a b) 0 k = w := ⟨_, rfl⟩
        have hw0 : (rowL (costR a b) 0 (k + 1)).getD ((k : Nat) : Int).toNat default = w := by rw [← hw]; exact rowL_get (by omega) _
        obtain ⟨y, hy⟩ : ∃ y, T (costR a b) 0 (k + 1) = y := ⟨_, rfl⟩
        rw [hy] at er t0
        rw [hy] at tS
        rw [hw] at tW
        rw [hw] at a2
        repeat' (first | refine AOps.q rfl rfl rfl (fun hg => by first | exact PRun.eq (PRun.binW rfl rfl nd rfl nd rfl) (show AV.b (decide (((k + 1 : Nat) : Int) > 0)) = AV.b true from congrArg AV.b (decide_eq_true (by omega))) | exact iX encI (rowL (costR a b) 0 (k + 1)) ((k : Nat) : Int) hw0 (hb := by rw [l2]; omega) | exact PRun.eq (v := .int ((((k + 1 : Nat) : Int)) - 1)) (PRun.step tabOk rfl sd) (congrArg AV.int (show (((k + 1 : Nat) : Int) - 1) = ((k : Nat) : Int) by omega)) | exact std0 | exact (Bool.noConfusion (show false = true from hg) : PRun _ _ _ _ (.b false)) | exact PRun.buildSlW tabOk rfl rfl nds | exact std1) (by exact rfl) ?_ | refine AWP.seq ?_ | refine AWP.regionK (fun K' hK => ?_) | (refine AOps.nil (hK _ _ ?_); clear hK K') | refine AOps.e (EStep.appendOwn' tabOk rfl rfl rfl (by decide) (Rd.w rfl True.intro) rfl (Rd.w rfl True.intro) (.sl rfl (by first | (intro x hx; rcases List.mem_singleton.1 hx with rfl; rfl) | exact one_encN _)) (LOk.of (tabOk.get rfl)) (LOk.of (tabOk.get rfl)) rfl rfl (by simp only [List.length_map, List.length_append, List.length_cons, List.length_nil, List.length_take, List.length_drop]; omega) (by simp only [List.length_map, List.length_append, List.length_cons, List.length_nil, List.length_take, List.length_drop]; omega) ?_) | (refine AWP.condW rfl True.intro (fun hc => ?_) (fun hc => ?_) <;> (first | (simp only [dEt] at hc) | (simp only [dEf, iNl, iNe] at hc) | skip)) | refine AWP.block ?_ | refine AWP.exit ?_ | refine AWP.skip ?_ | refine AWP.drawK2 (by decide +kernel) (by kernel_rfl) (by decide +kernel) rfl (fun K' hK => ?_) | (refine AQ.nil (hK _ ?_); clear hK K') | refine AQ.q rfl rfl (fun hg => by first | exact PRun.eq (PRun.binW rfl rfl nd rfl nd rfl) (show AV.b (decide (((k + 1 : Nat) : Int) > 0)) = AV.b true from congrArg AV.b (decide_eq_true (by omega))) | exact PRun.eq (v := .int ((((k + 1 : Nat) : Int)) - 1)) (PRun.step tabOk rfl sd) (congrArg AV.int (show (((k + 1 : Nat) : Int) - 1) = ((k : Nat) : Int) by omega)) | exact std0 | exact (Bool.noConfusion (show false = true from hg) : PRun _ _ _ _ (.b false)) | fail) (by exact rfl) ?_)
        all_goals (first | (exfalso; omega) | (exfalso; simp at hc; done) | (exfalso; simp at hc; omega) | (exfalso; simp only [dEf, dEt] at hc; omega) | (rename_i h0; exfalso; simp at h0; done) | (rename_i h0; exfalso; simp at h0; omega) | skip)
        all_goals (try (rename_i h1 h2; (try simp only [Int.toNat_natCast, Bool.or_eq_true, Bool.and_eq_true, Bool.or_eq_false_iff, Bool.and_eq_false_iff, dEt, dEf, Bool.not_eq_true', Bool.not_eq_false', beq_iff_eq, beq_eq_false_iff_ne, bne_iff_ne, bne_eq_false_iff_eq, gt_iff_lt, ge_iff_le, ne_eq] at h1); (try simp only [Int.toNat_natCast, Bool.or_eq_true, Bool.and_eq_true, Bool.or_eq_false_iff, Bool.and_eq_false_iff, dEt, dEf, Bool.not_eq_true', Bool.not_eq_false', beq_iff_eq, beq_eq_false_iff_ne, bne_iff_ne, bne_eq_false_iff_eq, gt_iff_lt, ge_iff_le, ne_eq] at h2)))
        all_goals (try simp only [Int.toNat_natCast, Bool.or_eq_true, Bool.and_eq_true, Bool.or_eq_false_iff, Bool.and_eq_false_iff, dEt, dEf, Bool.not_eq_true', Bool.not_eq_false', beq_iff_eq, beq_eq_false_iff_ne, bne_iff_ne, bne_eq_false_iff_eq, gt_iff_lt, ge_iff_le, ne_eq] at hc)
        all_goals (first | (obtain rfl : y = w + 2 := (by omega); exact ⟨(k + 1) + 1, hlk, by omega, ⟨rfl, rfl, rfl, rfl, (by show _ = AV.sl 1 ((rowL (costR a b) 0 ((k + 1) + 1)).map encI) (.own 3); rw [er]; rfl), rfl, True.intro⟩, (by show _ = [_, _, _, AObj.own 1 ((rowL (costR a b) 0 ((k + 1) + 1)).map encI).length]; rw [er]; rfl)⟩) | (obtain rfl : y = 2 * (((0 : Nat) : Int) + ((k + 1 : Nat) : Int)) := (by omega); exact ⟨(k + 1) + 1, hlk, by omega, ⟨rfl, rfl, rfl, rfl, (by show _ = AV.sl 1 ((rowL (costR a b) 0 ((k + 1) + 1)).map encI) (.own 3); rw [er]; rfl), rfl, True.intro⟩, (by show _ = [_, _, _, AObj.own 1 ((rowL (costR a b) 0 ((k + 1) + 1)).map encI).length]; rw [er]; rfl)⟩))
      · obtain ⟨i, rfl⟩ : ∃ j, i = j + 1 := ⟨i - 1, by omega⟩
        subst hk0
        have tS := T_left (c := costR a b) (i + 1)
        have tU := T_left (c := costR a b) i
        have a1 := T_in a b i 0
        obtain ⟨r, hr⟩ : ∃ r, rowL (costR a b) i (b.bars.length + 1) = r := ⟨_, rfl⟩
        have hr0 : (tableL (costR a b) (i + 1) (b.bars.length + 1)).getD ((i : Nat) : Int).toNat default = r := by rw [← hr]; exact tableL_get (by omega) _
        have hrl : r.length = b.bars.length + 1 := by rw [← hr]; exact rowL_len _ _ _
        obtain ⟨u, hu⟩ : ∃ u, T (costR a b) i 0 = u := ⟨_, rfl⟩
        have hu0 : r.getD ((0 : Nat) : Int).toNat default = u := by rw [← hr, ← hu]; exact rowL_get (by omega) _
        obtain ⟨y, hy⟩ : ∃ y, T (costR a b) (i + 1) 0 = y := ⟨_, rfl⟩
        rw [hy] at er t0
        rw [hy] at tS
        rw [hu] at tU
        rw [hu] at a1
        repeat' (first | refine AOps.q rfl rfl rfl (fun hg => by first | exact PRun.eq (PRun.binW rfl rfl nd rfl nd rfl) (show AV.b (decide (((i + 1 : Nat) : Int) > 0)) = AV.b true from congrArg AV.b (decide_eq_true (by omega))) | exact iX encI r ((0 : Nat) : Int) hu0 (hb := by rw [hrl]; omega) | exact iX encRow (tableL (costR a b) (i + 1) (b.bars.length + 1)) ((i : Nat) : Int) hr0 (hb := by rw [l1]; omega) | exact PRun.eq (v := .int ((((i + 1 : Nat) : Int)) - 1)) (PRun.step tabOk rfl sd) (congrArg AV.int (show (((i + 1 : Nat) : Int) - 1) = ((i : Nat) : Int) by omega)) | exact std0 | exact (Bool.noConfusion (show false = true from hg) : PRun _ _ _ _ (.b false)) | exact PRun.buildSlW tabOk rfl rfl nds | exact std1) (by exact rfl) ?_ | refine AWP.seq ?_ | refine AWP.regionK (fun K' hK => ?_) | (refine AOps.nil (hK _ _ ?_); clear hK K') | refine AOps.e (EStep.appendOwn' tabOk rfl rfl rfl (by decide) (Rd.w rfl True.intro) rfl (Rd.w rfl True.intro) (.sl rfl (by first | (intro x hx; rcases List.mem_singleton.1 hx with rfl; rfl) | exact one_encN _)) (LOk.of (tabOk.get rfl)) (LOk.of (tabOk.get rfl)) rfl rfl (by simp only [List.length_map, List.length_append, List.length_cons, List.length_nil, List.length_take, List.length_drop]; omega) (by simp only [List.length_map, List.length_append, List.length_cons, List.length_nil, List.length_take, List.length_drop]; omega) ?_) | (refine AWP.condW rfl True.intro (fun hc => ?_) (fun hc => ?_) <;> (first | (simp only [dEt] at hc) | (simp only [dEf, iNl, iNe] at hc) | skip)) | refine AWP.block ?_ | refine AWP.exit ?_ | refine AWP.skip ?_ | refine AWP.drawK2 (by decide +kernel) (by kernel_rfl) (by decide +kernel) rfl (fun K' hK => ?_) | (refine AQ.nil (hK _ ?_); clear hK K') | refine AQ.q rfl rfl (fun hg => by first | exact PRun.eq (PRun.binW rfl rfl nd rfl nd rfl) (show AV.b (decide (((i + 1 : Nat) : Int) > 0)) = AV.b true from congrArg AV.b (decide_eq_true (by omega))) | exact iX encRow (tableL (costR a b) (i + 1) (b.bars.length + 1)) ((i : Nat) : Int) hr0 (hb := by rw [l1]; omega) | exact PRun.eq (v := .int ((((i + 1 : Nat) : Int)) - 1)) (PRun.step tabOk rfl sd) (congrArg AV.int (show (((i + 1 : Nat) : Int) - 1) = ((i : Nat) : Int) by omega)) | exact std0 | exact (Bool.noConfusion (show false = true from hg) : PRun _ _ _ _ (.b false)) | fail) (by exact rfl) ?_)
        all_goals (first | (exfalso; omega) | (exfalso; simp at hc; done) | (exfalso; simp at hc; omega) | (exfalso; simp only [dEf, dEt] at hc; omega) | (rename_i h0; exfalso; simp at h0; done) | (rename_i h0; exfalso; simp at h0; omega) | skip)
        all_goals (try (rename_i h1 h2; (try simp only [Int.toNat_natCast, Bool.or_eq_true, Bool.and_eq_true, Bool.or_eq_false_iff, Bool.and_eq_false_iff, dEt, dEf, Bool.not_eq_true', Bool.not_eq_false', beq_iff_eq, beq_eq_false_iff_ne, bne_iff_ne, bne_eq_false_iff_eq, gt_iff_lt, ge_iff_le, ne_eq] at h1); (try simp only [Int.toNat_natCast, Bool.or_eq_true, Bool.and_eq_true, Bool.or_eq_false_iff, Bool.and_eq_false_iff, dEt, dEf, Bool.not_eq_true', Bool.not_eq_false', beq_iff_eq, beq_eq_false_iff_ne, bne_iff_ne, bne_eq_false_iff_eq, gt_iff_lt, ge_iff_le, ne_eq] at h2)))
        all_goals (try simp only [Int.toNat_natCast, Bool.or_eq_true, Bool.and_eq_true, Bool.or_eq_false_iff, Bool.and_eq_false_iff, dEt, dEf, Bool.not_eq_true', Bool.not_eq_false', beq_iff_eq, beq_eq_false_iff_ne, bne_iff_ne, bne_eq_false_iff_eq, gt_iff_lt, ge_iff_le, ne_eq] at hc)
        all_goals (first | (obtain rfl : y = u + 2 := (by omega); exact ⟨0 + 1, hlk, by omega, ⟨rfl, rfl, rfl, rfl, (by show _ = AV.sl 1 ((rowL (costR a b) (i + 1) (0 + 1)).map encI) (.own 3); rw [er]; rfl), rfl, True.intro⟩, (by show _ = [_, _, _, AObj.own 1 ((rowL (costR a b) (i + 1) (0 + 1)).map encI).length]; rw [er]; rfl)⟩) | (obtain rfl : y = 2 * (((i + 1 : Nat) : Int) + ((0 : Nat) : Int)) := (by omega); exact ⟨0 + 1, hlk, by omega, ⟨rfl, rfl, rfl, rfl, (by show _ = AV.sl 1 ((rowL (costR a b) (i + 1) (0 + 1)).map encI) (.own 3); rw [er]; rfl), rfl, True.intro⟩, (by show _ = [_, _, _, AObj.own 1 ((rowL (costR a b) (i + 1) (0 + 1)).map encI).length]; rw [er]; rfl)⟩))
      · obtain ⟨i, rfl⟩ : ∃ j, i = j + 1 := ⟨i - 1, by omega⟩
        obtain ⟨k, rfl⟩ : ∃ j, k = j + 1 := ⟨k - 1, by omega⟩
        have tS := T_succ (c := costR a b) i k
        have a1 := T_in a b i (k + 1)
        obtain ⟨r, hr⟩ : ∃ r, rowL (costR a b) i (b.bars.length + 1) = r := ⟨_, rfl⟩
        have hr0 : (tableL (costR a b) (i + 1) (b.bars.length + 1)).getD ((i : Nat) : Int).toNat default = r := by rw [← hr]; exact tableL_get (by omega) _
        have hrl : r.length = b.bars.length + 1 := by rw [← hr]; exact rowL_len _ _ _
        obtain ⟨u, hu⟩ : ∃ u, T (costR a b) i (k + 1) = u := ⟨_, rfl⟩
        have hu0 : r.getD ((k + 1 : Nat) : Int).toNat default = u := by rw [← hr, ← hu]; exact rowL_get (by omega) _
        have a2 := T_in a b (i + 1) k
        obtain ⟨w, hw⟩ : ∃ w, T (costR a b) (i + 1) k = w := ⟨_, rfl⟩
        have hw0 : (rowL (costR a b) (i + 1) (k + 1)).getD ((k : Nat) : Int).toNat default = w := by rw [← hw]; exact rowL_get (by omega) _
        have a3 := T_in a b i k
        obtain ⟨x, hx⟩ : ∃ x, T (costR a b) i k = x := ⟨_, rfl⟩
        have hx0 : r.getD ((k : Nat) : Int).toNat default = x := by rw [← hr, ← hx]; exact rowL_get (by omega) _
        have hc0 := cost12_spec a b ha hb i k (by omega) (by omega)
        have c1 := costR_in a b i k
        obtain ⟨y, hy⟩ : ∃ y, T (costR a b) (i + 1) (k + 1) = y := ⟨_, rfl⟩
        rw [hy] at er t0
        rw [hy, hu, hw, hx] at tS
        rw [hu] at a1
        rw [hw] at a2
        rw [hx] at a3
        generalize costR a b i k = C at c1 hc0 tS
        repeat' (first | refine AOps.q rfl rfl rfl (fun hg => by first | exact PRun.eq (PRun.binW rfl rfl nd rfl nd rfl) (show AV.b (decide (((k + 1 : Nat) : Int) > 0)) = AV.b true from congrArg AV.b (decide_eq_true (by omega))) | exact PRun.eq (PRun.binW rfl rfl nd rfl nd rfl) (show AV.b (decide (((i + 1 : Nat) : Int) > 0)) = AV.b true from congrArg AV.b (decide_eq_true (by omega))) | exact iX encI (rowL (costR a b) (i + 1) (k + 1)) ((k : Nat) : Int) hw0 (hb := by rw [l2]; omega) | exact PRun.eq (v := .int ((((k + 1 : Nat) : Int)) - 1)) (PRun.step tabOk rfl sd) (congrArg AV.int (show (((k + 1 : Nat) : Int) - 1) = ((k : Nat) : Int) by omega)) | exact iX encI r ((k + 1 : Nat) : Int) hu0 (hb := by rw [hrl]; omega) | exact iX encRow (tableL (costR a b) (i + 1) (b.bars.length + 1)) ((i : Nat) : Int) hr0 (hb := by rw [l1]; omega) | exact PRun.eq (v := .int ((((i + 1 : Nat) : Int)) - 1)) (PRun.step tabOk rfl sd) (congrArg AV.int (show (((i + 1 : Nat) : Int) - 1) = ((i : Nat) : Int) by omega)) | exact std0 | exact PRun.buildSlW tabOk rfl rfl nds | exact std1) (by exact rfl) ?_ | refine AWP.seq ?_ | refine AWP.regionK (fun K' hK => ?_) | (refine AOps.nil (hK _ _ ?_); clear hK K') | refine AOps.e (EStep.appendOwn' tabOk rfl rfl rfl (by decide) (Rd.w rfl True.intro) rfl (Rd.w rfl True.intro) (.sl rfl (by first | (intro x hx; rcases List.mem_singleton.1 hx with rfl; rfl) | exact one_encN _)) (LOk.of (tabOk.get rfl)) (LOk.of (tabOk.get rfl)) rfl rfl (by simp only [List.length_map, List.length_append, List.length_cons, List.length_nil, List.length_take, List.length_drop]; omega) (by simp only [List.length_map, List.length_append, List.length_cons, List.length_nil, List.length_take, List.length_drop]; omega) ?_) | (refine AWP.condW rfl True.intro (fun hc => ?_) (fun hc => ?_) <;> (first | (simp only [dEt] at hc) | (simp only [dEf, iNl, iNe] at hc) | skip)) | refine AWP.block ?_ | refine AWP.exit ?_ | refine AWP.skip ?_ | refine AWP.drawK2 (by decide +kernel) (by kernel_rfl) (by decide +kernel) rfl (fun K' hK => ?_) | (refine AQ.nil (hK _ ?_); clear hK K') | refine AQ.q rfl rfl (fun hg => by first | exact PRun.eq (PRun.binW rfl rfl nd rfl nd rfl) (show AV.b (decide (((k + 1 : Nat) : Int) > 0)) = AV.b true from congrArg AV.b (decide_eq_true (by omega))) | exact PRun.eq (PRun.binW rfl rfl nd rfl nd rfl) (show AV.b (decide (((i + 1 : Nat) : Int) > 0)) = AV.b true from congrArg AV.b (decide_eq_true (by omega))) | exact iX encI r ((k : Nat) : Int) hx0 (hb := by rw [hrl]; omega) | exact PRun.eq (v := .int ((((k + 1 : Nat) : Int)) - 1)) (PRun.step tabOk rfl sd) (congrArg AV.int (show (((k + 1 : Nat) : Int) - 1) = ((k : Nat) : Int) by omega)) | exact iX encRow (tableL (costR a b) (i + 1) (b.bars.length + 1)) ((i : Nat) : Int) hr0 (hb := by rw [l1]; omega) | exact PRun.eq (v := .int ((((i + 1 : Nat) : Int)) - 1)) (PRun.step tabOk rfl sd) (congrArg AV.int (show (((i + 1 : Nat) : Int) - 1) = ((i : Nat) : Int) by omega)) | exact std0 | exact PRun.callW (hc0) rfl rfl nd rfl nds) (by exact rfl) ?_)
        all_goals (first | (exfalso; omega) | (exfalso; simp at hc; done) | (exfalso; simp at hc; omega) | (exfalso; simp only [dEf, dEt] at hc; omega) | (rename_i h0; exfalso; simp at h0; done) | (rename_i h0; exfalso; simp at h0; omega) | skip)
        all_goals (try (rename_i h1 h2; (try simp only [Int.toNat_natCast, Bool.or_eq_true, Bool.and_eq_true, Bool.or_eq_false_iff, Bool.and_eq_false_iff, dEt, dEf, Bool.not_eq_true', Bool.not_eq_false', beq_iff_eq, beq_eq_false_iff_ne, bne_iff_ne, bne_eq_false_iff_eq, gt_iff_lt, ge_iff_le, ne_eq] at h1); (try simp only [Int.toNat_natCast, Bool.or_eq_true, Bool.and_eq_true, Bool.or_eq_false_iff, Bool.and_eq_false_iff, dEt, dEf, Bool.not_eq_true', Bool.not_eq_false', beq_iff_eq, beq_eq_false_iff_ne, bne_iff_ne, bne_eq_false_iff_eq, gt_iff_lt, ge_iff_le, ne_eq] at h2)))
        all_goals (try simp only [Int.toNat_natCast, Bool.or_eq_true, Bool.and_eq_true, Bool.or_eq_false_iff, Bool.and_eq_false_iff, dEt, dEf, Bool.not_eq_true', Bool.not_eq_false', beq_iff_eq, beq_eq_false_iff_ne, bne_iff_ne, bne_eq_false_iff_eq, gt_iff_lt, ge_iff_le, ne_eq] at hc)
        all_goals (try simp only [reduceCtorEq, false_or, or_false, true_and, and_true] at h1 h2 hc)
        all_goals (try simp only [reduceCtorEq, false_or, or_false, true_and, and_true] at h1)
        all_goals (try simp only [reduceCtorEq, false_or, or_false, true_and, and_true] at h2)
        all_goals (try simp only [reduceCtorEq, false_or, or_false, true_and, and_true] at hc)
        all_goals (first | (obtain rfl : y = x + C := (by omega); exact ⟨(k + 1) + 1, hlk, by omega, ⟨rfl, rfl, rfl, rfl, (by show _ = AV.sl 1 ((rowL (costR a b) (i + 1) ((k + 1) + 1)).map encI) (.own 3); rw [er]; rfl), rfl, True.intro⟩, (by show _ = [_, _, _, AObj.own 1 ((rowL (costR a b) (i + 1) ((k + 1) + 1)).map encI).length]; rw [er]; rfl)⟩) | (obtain rfl : y = w + 2 := (by omega); exact ⟨(k + 1) + 1, hlk, by omega, ⟨rfl, rfl, rfl, rfl, (by show _ = AV.sl 1 ((rowL (costR a b) (i + 1) ((k + 1) + 1)).map encI) (.own 3); rw [er]; rfl), rfl, True.intro⟩, (by show _ = [_, _, _, AObj.own 1 ((rowL (costR a b) (i + 1) ((k + 1) + 1)).map encI).length]; rw [er]; rfl)⟩) | (obtain rfl : y = u + 2 := (by omega); exact ⟨(k + 1) + 1, hlk, by omega, ⟨rfl, rfl, rfl, rfl, (by show _ = AV.sl 1 ((rowL (costR a b) (i + 1) ((k + 1) + 1)).map encI) (.own 3); rw [er]; rfl), rfl, True.intro⟩, (by show _ = [_, _, _, AObj.own 1 ((rowL (costR a b) (i + 1) ((k + 1) + 1)).map encI).length]; rw [er]; rfl)⟩) | (obtain rfl : y = 2 * (((i + 1 : Nat) : Int) + ((k + 1 : Nat) : Int)) := (by omega); exact ⟨(k + 1) + 1, hlk, by omega, ⟨rfl, rfl, rfl, rfl, (by show _ = AV.sl 1 ((rowL (costR a b) (i + 1) ((k + 1) + 1)).map encI) (.own 3); rw [er]; rfl), rfl, True.intro⟩, (by show _ = [_, _, _, AObj.own 1 ((rowL (costR a b) (i + 1) ((k + 1) + 1)).map encI).length]; rw [er]; rfl)⟩))
    · obtain rfl : k = b.bars.length + 1 := by omega
      repeat' (first | refine AOps.q rfl rfl rfl (fun hg => by first | exact std0 | exact PRun.buildSlW tabOk rfl rfl nds | exact std1) (by exact rfl) ?_ | refine AWP.seq ?_ | refine AWP.regionK (fun K' hK => ?_) | (refine AOps.nil (hK _ _ ?_); clear hK K') | refine AOps.e (EStep.appendOwn' tabOk rfl rfl rfl (by decide) (Rd.w rfl True.intro) rfl (Rd.w rfl True.intro) (.sl rfl (by first | (intro x hx; rcases List.mem_singleton.1 hx with rfl; rfl) | exact one_encN _)) (LOk.of (tabOk.get rfl)) (LOk.of (tabOk.get rfl)) rfl rfl (by simp only [List.length_map, List.length_append, List.length_cons, List.length_nil, List.length_take, List.length_drop]; omega) (by simp only [List.length_map, List.length_append, List.length_cons, List.length_nil, List.length_take, List.length_drop]; omega) ?_) | (refine AWP.condW rfl True.intro (fun hc => ?_) (fun hc => ?_) <;> (first | (simp only [dEt] at hc) | (simp only [dEf, iNl, iNe] at hc) | skip)) | refine AWP.block ?_ | refine AWP.exit ?_ | refine AWP.skip ?_ | refine AWP.drawK2 (by decide +kernel) (by kernel_rfl) (by decide +kernel) rfl (fun K' hK => ?_) | refine AQ.q rfl rfl (fun hg => by first | exact std0 | exact std1) (by exact rfl) ?_)
      all_goals (first | (exfalso; omega) | (exfalso; simp at hc; done) | (exfalso; simp at hc; omega) | (exfalso; simp only [dEf, dEt] at hc; omega) | (rename_i h0; exfalso; simp at h0; done) | (rename_i h0; exfalso; simp at h0; omega) | skip)
      refine ⟨i + 1, hlt, by omega, ⟨rfl, rfl, ?_, rfl, True.intro⟩, ?_⟩
      · show _ = AV.sl 1 ((tableL (costR a b) (i + 1) (b.bars.length + 1)).map encRow) (.own 2)
        rw [et]; rfl
      · show _ = [_, _, AObj.own 1 ((tableL (costR a b) (i + 1) (b.bars.length + 1)).map encRow).length]
        rw [et]; rfl
  · obtain rfl : i = a.bars.length + 1 := by omega
    refine AWP.unownA 5 rfl ?_
    repeat' (first | refine AOps.q rfl rfl rfl (fun hg => by first | exact std0 | exact std1) (by exact rfl) ?_ | refine AWP.seq ?_ | refine AWP.regionK (fun K' hK => ?_) | (refine AOps.nil (hK _ _ ?_); clear hK K') | (refine AWP.condW rfl True.intro (fun hc => ?_) (fun hc => ?_) <;> (first | (simp only [dEt] at hc) | (simp only [dEf, iNl, iNe] at hc) | skip)) | refine AWP.block ?_ | refine AWP.exit ?_ | refine AWP.skip ?_ | refine AWP.ret ?_)
    all_goals (first | (exfalso; omega) | (exfalso; simp at hc; done) | (exfalso; simp at hc; omega) | (exfalso; simp only [dEf, dEt] at hc; omega) | (rename_i h0; exfalso; simp at h0; done) | (rename_i h0; exfalso; simp at h0; omega) | skip)
    exact ⟨.inr rfl, Ent.of rfl⟩
end Go.Proofs.YtekfpcgagoidcaaGreatDoor.Al

