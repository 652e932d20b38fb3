/- Contracts by content: the reference of align: Cost, Pairs, Total. No statement is proved here. -/
import Derived.Test.YtekfpcgagoidcaaGreatDoorQ23
import Derived.Test.YtekfpcgagoidcaaGreatDoorQ25
set_option linter.unusedVariables false
set_option linter.unusedSimpArgs false
namespace Go.Proofs.YtekfpcgagoidcaaGreatDoor.Al
open Go.Ab Go.Sort
attribute [local irreducible] AWP AOps EStep AQ PStep PRun PCall TCall VCall
set_option maxHeartbeats 16000000 in
set_option maxRecDepth 20000 in
theorem rCost_spec (a b : Score) (ha : a.Small) (hb : b.Small) (i k : Int) : PCall Tryz.prog 18 [.agg (encS a), .agg (encS b), .int i, .int k] (.tup [.int (costI a b i k).1, .int (costI a b i k).2]) := by
  have ha1 := ha.1
  have hb1 := hb.1
  have v1 := valid8_spec a ha
  have v2 := valid8_spec b hb
  refine PCall.body Tryz.func18 rfl rfl Tryz.ntmps18 rfl rfl ?_
  by_cases hin : scoreOk a = true ∧ scoreOk b = true ∧ 0 ≤ i ∧ i < a.bars.length ∧ 0 ≤ k ∧ k < b.bars.length
  · have hr : costI a b i k = (costR a b i.toNat k.toNat, 0) := if_pos hin
    obtain ⟨s1, s2, i1, i2, k1, k2⟩ := hin
    rw [hr]
    rw [s1] at v1
    rw [s2] at v2
    obtain ⟨i, rfl⟩ := Int.eq_ofNat_of_zero_le i1
    obtain ⟨k, rfl⟩ := Int.eq_ofNat_of_zero_le k1
    have hc0 := cost12_spec a b ha hb i k (by omega) (by omega)
    repeat' (first | refine AOps.q rfl rfl rfl (fun hg => by first | exact std0 | exact PRun.callW (v1) rfl rfl nd rfl nds | exact PRun.callW (v2) rfl rfl nd rfl nds | exact PRun.callW (hc0) rfl rfl nd rfl nds | exact std1) (by exact rfl) ?_ | refine AWP.seq ?_ | refine AWP.regionK (fun K' hK => ?_) | (refine AOps.nil (hK _ _ ?_); clear hK K') | refine AOps.e (EStep.boxW rfl rfl rfl rfl rfl True.intro rfl rfl ?_) | (refine AWP.condW rfl True.intro (fun hc => ?_) (fun hc => ?_) <;> (first | (simp only [dEt] at hc) | (simp only [dEf, iNl, iNe] at hc) | skip)) | refine AWP.skip ?_ | refine AWP.ret ?_)
    · exfalso
      simp at hc
      omega
    · exact ⟨.inr rfl, Ent.rfl' _⟩
  · have hr : costI a b i k = (0, 1) := if_neg hin
    rw [hr]
    generalize scoreOk a = s1 at *
    generalize scoreOk b = s2 at *
    repeat' (first | refine AOps.q rfl rfl rfl (fun hg => by first | exact std0 | exact PRun.callW (v1) rfl rfl nd rfl nds | exact PRun.callW (v2) rfl rfl nd rfl nds | exact std1) (by exact rfl) ?_ | refine AWP.seq ?_ | refine AWP.regionK (fun K' hK => ?_) | (refine AOps.nil (hK _ _ ?_); clear hK K') | refine AOps.e (EStep.boxW rfl rfl rfl rfl rfl True.intro rfl rfl ?_) | (refine AWP.condW rfl True.intro (fun hc => ?_) (fun hc => ?_) <;> (first | (simp only [dEt] at hc) | (simp only [dEf, iNl, iNe] at hc) | skip)) | refine AWP.skip ?_ | refine AWP.ret ?_)
    · exact ⟨.inr rfl, Ent.rfl' _⟩
    · exfalso
      cases s1 <;> cases s2 <;> simp at hc <;> exact hin ⟨rfl, rfl, by omega, by omega, by omega, by omega⟩
def lastP (l : PL) (k : Nat) : Int × Int := if k = 0 then (-1, -1) else l.getD (k - 1) default
set_option maxHeartbeats 16000000 in
set_option maxRecDepth 20000 in
theorem rPairs_spec (a b : Score) (ha : a.Small) (hb : b.Small) (l : PL) (hl : l.length ≤ 1000000) : PCall Tryz.prog 56 [.agg (encS a), .agg (encS b), .sl 2 (l.map encPr) .no] (.b (pOk a.bars.length b.bars.length (-1) (-1) l)) := by
  have ha1 := ha.1
  have hb1 := hb.1
  refine PCall.body Tryz.func56 rfl rfl Tryz.ntmps56 rfl rfl ?_
  repeat' (first | refine AOps.q rfl rfl rfl (fun hg => by exact std0) (by exact rfl) ?_ | refine AWP.seq ?_ | refine AWP.regionK (fun K' hK => ?_) | (refine AOps.nil (hK _ _ ?_); clear hK K') | refine AOps.e (EStep.boxW rfl rfl rfl rfl rfl True.intro rfl rfl ?_) | refine AWP.block ?_)
  refine AWP.loopD (ι := Nat) (fun k => [(2, .sl 2 (l.map encPr) .no), (3, .ptr 0 0), (4, .ptr 1 0), (7, .int k)]) (fun _ => [.var (encS a), .var (encS b)])
    (fun k => k ≤ l.length ∧ pOk a.bars.length b.bars.length (-1) (-1) l = pOk a.bars.length b.bars.length (lastP l k).1 (lastP l k).2 (l.drop k) ∧ -1 ≤ (lastP l k).1 ∧ -1 ≤ (lastP l k).2) (fun k => l.length - k) 2 (fun _ => rfl) 0 ⟨Nat.zero_le _, rfl, (by show (-1 : Int) ≤ -1; decide), (by show (-1 : Int) ≤ -1; decide)⟩ ⟨rfl, rfl, rfl, rfl, True.intro⟩ rfl (fun _ _ => rfl) (fun _ _ => rfl) ?_
  rintro k ⟨hk, hp, q1, q2⟩
  by_cases hlt : k < l.length
  · obtain ⟨z, hz⟩ : ∃ z, l.getD k default = z := ⟨_, rfl⟩
    rw [drop_at hlt, hz] at hp
    rcases Nat.eq_zero_or_pos k with h0 | h0
    · subst h0
      have hL : lastP l 0 = (-1, -1) := rfl
      rw [hL] at hp q1 q2
      repeat' (first | refine AOps.q rfl rfl rfl (fun hg => by first | exact std0 | exact std1) (by exact rfl) ?_ | refine AWP.seq ?_ | refine AWP.regionK (fun K' hK => ?_) | (refine AOps.nil (hK _ _ ?_); clear hK K') | (refine AWP.condW rfl True.intro (fun hc => ?_) (fun hc => ?_) <;> (first | (simp only [dEt] at hc) | (simp only [dEf, iNl, iNe] at hc) | skip)) | refine AWP.block ?_ | refine AWP.exit ?_ | refine AWP.skip ?_ | refine AWP.ret ?_ | refine AWP.drawK2 (by decide +kernel) (by kernel_rfl) (by decide +kernel) rfl (fun K' hK => ?_) | (refine AQ.nil (hK _ ?_); clear hK K') | refine AQ.q rfl rfl (fun hg => by first | exact iX encPr l ((0 : Nat) : Int) hz (hb := by omega) | exact std0 | exact (Bool.noConfusion (show false = true from hg) : PRun _ _ _ _ (.b false)) | exact std1) (by exact rfl) ?_)
      all_goals (first | (exfalso; omega) | (exfalso; simp at hc; done) | (exfalso; simp at hc; omega) | (exfalso; simp only [dEf, dEt] at hc; omega) | (rename_i h0; exfalso; simp at h0; done) | (rename_i h0; exfalso; simp at h0; omega) | skip)
      · exact ⟨.inr rfl, Ent.b (Eq.symm (by rw [hp]; refine pOk_bad ?_; (try dsimp only); (simp only [Int.toNat_natCast, Bool.or_eq_true, Bool.and_eq_true, Bool.or_eq_false_iff, Bool.and_eq_false_iff, dEt, dEf, Bool.not_eq_true', Bool.not_eq_false', beq_iff_eq, beq_eq_false_iff_ne, bne_iff_ne, bne_eq_false_iff_eq, gt_iff_lt, ge_iff_le, ne_eq] at hc); omega))⟩
      · rename_i h1
        (try simp only [Int.toNat_natCast, Bool.or_eq_true, Bool.and_eq_true, Bool.or_eq_false_iff, Bool.and_eq_false_iff, dEt, dEf, Bool.not_eq_true', Bool.not_eq_false', beq_iff_eq, beq_eq_false_iff_ne, bne_iff_ne, bne_eq_false_iff_eq, gt_iff_lt, ge_iff_le, ne_eq] at h1)
        (try simp only [Int.toNat_natCast, Bool.or_eq_true, Bool.and_eq_true, Bool.or_eq_false_iff, Bool.and_eq_false_iff, dEt, dEf, Bool.not_eq_true', Bool.not_eq_false', beq_iff_eq, beq_eq_false_iff_ne, bne_iff_ne, bne_eq_false_iff_eq, gt_iff_lt, ge_iff_le, ne_eq] at hc)
        have hn : ¬ (z.1 ≤ ((-1, -1) : Int × Int).1 ∨ z.2 ≤ ((-1, -1) : Int × Int).2 ∨ (a.bars.length : Int) ≤ z.1 ∨ (b.bars.length : Int) ≤ z.2) := by (try dsimp only); omega
        rw [pOk_good hn] at hp
        have hL' : lastP l (0 + 1) = z := by unfold lastP; rw [if_neg (by omega)]; exact hz
        exact ⟨0 + 1, ⟨hlt, by rw [hL']; exact hp, by rw [hL']; omega, by rw [hL']; omega⟩, by omega, ⟨rfl, rfl, rfl, rfl, True.intro⟩, rfl⟩
    · obtain ⟨k, rfl⟩ : ∃ j, k = j + 1 := ⟨k - 1, by omega⟩
      obtain ⟨y, hy⟩ : ∃ y, l.getD k default = y := ⟨_, rfl⟩
      have hL : lastP l (k + 1) = y := by unfold lastP; rw [if_neg (by omega)]; exact hy
      rw [hL] at hp q1 q2
      repeat' (first | refine AOps.q rfl rfl rfl (fun hg => by first | exact std0 | exact std1) (by exact rfl) ?_ | refine AWP.seq ?_ | refine AWP.regionK (fun K' hK => ?_) | (refine AOps.nil (hK _ _ ?_); clear hK K') | (refine AWP.condW rfl True.intro (fun hc => ?_) (fun hc => ?_) <;> (first | (simp only [dEt] at hc) | (simp only [dEf, iNl, iNe] at hc) | skip)) | refine AWP.block ?_ | refine AWP.exit ?_ | refine AWP.skip ?_ | refine AWP.ret ?_ | refine AWP.drawK2 (by decide +kernel) (by kernel_rfl) (by decide +kernel) rfl (fun K' hK => ?_) | (refine AQ.nil (hK _ ?_); clear hK K') | refine AQ.q rfl rfl (fun hg => by first | exact iX encPr l ((k : Nat) : Int) hy (hb := by omega) | exact PRun.eq (v := .int ((((k + 1 : Nat) : Int)) - 1)) (PRun.step tabOk rfl sd) (congrArg AV.int (show (((k + 1 : Nat) : Int) - 1) = ((k : Nat) : Int) by omega)) | exact iX encPr l ((k + 1 : Nat) : Int) hz (hb := by omega) | exact std0 | exact std1) (by exact rfl) ?_)
      all_goals (first | (exfalso; omega) | (exfalso; simp at hc; done) | (exfalso; simp at hc; omega) | (exfalso; simp only [dEf, dEt] at hc; omega) | (rename_i h0; exfalso; simp at h0; done) | (rename_i h0; exfalso; simp at h0; omega) | skip)
      · exact ⟨.inr rfl, Ent.b (Eq.symm (by rw [hp]; refine pOk_bad ?_; (try dsimp only); (simp only [Int.toNat_natCast, Bool.or_eq_true, Bool.and_eq_true, Bool.or_eq_false_iff, Bool.and_eq_false_iff, dEt, dEf, Bool.not_eq_true', Bool.not_eq_false', beq_iff_eq, beq_eq_false_iff_ne, bne_iff_ne, bne_eq_false_iff_eq, gt_iff_lt, ge_iff_le, ne_eq] at hc); omega))⟩
      · exact ⟨.inr rfl, Ent.b (Eq.symm (by rw [hp]; refine pOk_bad ?_; (try dsimp only); (simp only [Int.toNat_natCast, Bool.or_eq_true, Bool.and_eq_true, Bool.or_eq_false_iff, Bool.and_eq_false_iff, dEt, dEf, Bool.not_eq_true', Bool.not_eq_false', beq_iff_eq, beq_eq_false_iff_ne, bne_iff_ne, bne_eq_false_iff_eq, gt_iff_lt, ge_iff_le, ne_eq] at hc); omega))⟩
      · rename_i h1
        (try simp only [Int.toNat_natCast, Bool.or_eq_true, Bool.and_eq_true, Bool.or_eq_false_iff, Bool.and_eq_false_iff, dEt, dEf, Bool.not_eq_true', Bool.not_eq_false', beq_iff_eq, beq_eq_false_iff_ne, bne_iff_ne, bne_eq_false_iff_eq, gt_iff_lt, ge_iff_le, ne_eq] at h1)
        (try simp only [Int.toNat_natCast, Bool.or_eq_true, Bool.and_eq_true, Bool.or_eq_false_iff, Bool.and_eq_false_iff, dEt, dEf, Bool.not_eq_true', Bool.not_eq_false', beq_iff_eq, beq_eq_false_iff_ne, bne_iff_ne, bne_eq_false_iff_eq, gt_iff_lt, ge_iff_le, ne_eq] at hc)
        have hn : ¬ (z.1 ≤ y.1 ∨ z.2 ≤ y.2 ∨ (a.bars.length : Int) ≤ z.1 ∨ (b.bars.length : Int) ≤ z.2) := by (try dsimp only); omega
        rw [pOk_good hn] at hp
        have hL' : lastP l ((k + 1) + 1) = z := by unfold lastP; rw [if_neg (by omega)]; exact hz
        exact ⟨(k + 1) + 1, ⟨hlt, by rw [hL']; exact hp, by rw [hL']; omega, by rw [hL']; omega⟩, by omega, ⟨rfl, rfl, rfl, rfl, True.intro⟩, rfl⟩
  · repeat' (first | refine AOps.q rfl rfl rfl (fun hg => by first | exact std0 | exact std1) (by exact rfl) ?_ | refine AWP.seq ?_ | refine AWP.regionK (fun K' hK => ?_) | (refine AOps.nil (hK _ _ ?_); clear hK K') | (refine AWP.condW rfl True.intro (fun hc => ?_) (fun hc => ?_) <;> (first | (simp only [dEt] at hc) | (simp only [dEf, iNl, iNe] at hc) | skip)) | refine AWP.block ?_ | refine AWP.exit ?_ | refine AWP.skip ?_ | refine AWP.ret ?_ | refine AWP.drawK2 (by decide +kernel) (by kernel_rfl) (by decide +kernel) rfl (fun K' hK => ?_) | (refine AQ.nil (hK _ ?_); clear hK K') | refine AQ.q rfl rfl (fun hg => by first | exact std0 | exact std1) (by exact rfl) ?_)
    all_goals (first | (exfalso; omega) | (exfalso; simp at hc; done) | (exfalso; simp at hc; omega) | (exfalso; simp only [dEf, dEt] at hc; omega) | (rename_i h0; exfalso; simp at h0; done) | (rename_i h0; exfalso; simp at h0; omega) | skip)
    refine ⟨.inr rfl, Ent.b (Eq.symm ?_)⟩
    rw [hp, List.drop_eq_nil_of_le (by omega)]; rfl
set_option maxHeartbeats 16000000 in
set_option maxRecDepth 20000 in
theorem rTotal_spec (a b : Score) (ha : a.Small) (hb : b.Small) (l : PL) (hl : l.length ≤ 1000000) (hp : pOk a.bars.length b.bars.length (-1) (-1) l = true) : PCall Tryz.prog 57 [.agg (encS a), .agg (encS b), .sl 2 (l.map encPr) .no] (.int (totI (costR a b) a.bars.length b.bars.length l)) := by
  have ha1 := ha.1
  have hb1 := hb.1
  have hps := pOk_spec (by omega) (by omega) hp
  refine PCall.body Tryz.func57 rfl rfl Tryz.ntmps57 rfl rfl ?_
  repeat' (first | refine AOps.q rfl rfl rfl (fun hg => by first | exact std0 | exact std1) (by exact rfl) ?_ | refine AWP.seq ?_ | refine AWP.regionK (fun K' hK => ?_) | (refine AOps.nil (hK _ _ ?_); clear hK K') | refine AOps.e (EStep.boxW rfl rfl rfl rfl rfl True.intro rfl rfl ?_) | refine AWP.block ?_)
  refine AWP.loopD (ι := Nat) (fun k => [(2, .sl 2 (l.map encPr) .no), (3, .ptr 0 0), (4, .ptr 1 0), (7, .int (2 * ((a.bars.length : Int) + b.bars.length - 2 * l.length) + sumK (costR a b) (l.take k))), (8, .int k)]) (fun _ => [.var (encS a), .var (encS b)])
    (fun k => k ≤ l.length) (fun k => l.length - k) 2 (fun _ => rfl) 0 (Nat.zero_le _) ⟨rfl, rfl, rfl, ?_, rfl, True.intro⟩ rfl (fun _ _ => rfl) (fun _ _ => rfl) ?_
  · show AV.int _ = AV.int (_ + sumK (costR a b) [])
    exact congrArg AV.int (by rw [show sumK (costR a b) [] = 0 from rfl]; omega)
  intro k hk
  have hsi := sumK_in a b (l.take k)
  rw [List.length_take] at hsi
  by_cases hlt : k < l.length
  · obtain ⟨z, hz⟩ : ∃ z, l.getD k default = z := ⟨_, rfl⟩
    have hzm : z ∈ l := by rw [← hz, getD_lt hlt]; exact List.getElem_mem hlt
    have hst := sumK_take (costR a b) hlt
    rw [hz] at hst
    obtain ⟨z1, z2, z3, z4⟩ := hps.2 (z.1.toNat, z.2.toNat) (List.mem_map.2 ⟨z, hzm, rfl⟩)
    have hzp : 0 ≤ z.1 ∧ 0 ≤ z.2 := by
      have h5 := ip_np (by omega) (by omega) hp
      have h6 : z ∈ ip (np l) := by rw [h5]; exact hzm
      obtain ⟨q, _, rfl⟩ := List.mem_map.1 h6
      exact ⟨Int.natCast_nonneg _, Int.natCast_nonneg _⟩
    dsimp only at z3 z4
    have c1 := costR_in a b z.1.toNat z.2.toNat
    have hc0 := cost12_spec a b ha hb z.1.toNat z.2.toNat z3 z4
    have n1 : AV.int z.1 = AV.int ((z.1.toNat : Nat) : Int) := congrArg AV.int (by omega)
    have n2 : AV.int z.2 = AV.int ((z.2.toNat : Nat) : Int) := congrArg AV.int (by omega)
    generalize sumK (costR a b) (l.take k) = sm at *
    generalize hC : costR a b z.1.toNat z.2.toNat = C at *
    repeat' (first | refine AOps.q rfl rfl rfl (fun hg => by first | exact std0 | exact std1) (by exact rfl) ?_ | refine AWP.seq ?_ | refine AWP.regionK (fun K' hK => ?_) | (refine AOps.nil (hK _ _ ?_); clear hK K') | (refine AWP.condW rfl True.intro (fun hc => ?_) (fun hc => ?_) <;> (first | (simp only [dEt] at hc) | (simp only [dEf, iNl, iNe] at hc) | skip)) | refine AWP.block ?_ | refine AWP.exit ?_ | refine AWP.skip ?_ | refine AWP.ret ?_ | refine AWP.drawK2 (by decide +kernel) (by kernel_rfl) (by decide +kernel) rfl (fun K' hK => ?_) | (refine AQ.nil (hK _ ?_); clear hK K') | refine AQ.q rfl rfl (fun hg => by first | exact PRun.eq (v := .int z.2) (PRun.step tabOk rfl sd) n2 | exact PRun.eq (v := .int z.1) (PRun.step tabOk rfl sd) n1 | exact iX encPr l ((k : Nat) : Int) hz (hb := by omega) | exact std0 | exact PRun.callW (hc0) rfl rfl nd rfl nds) (by exact rfl) ?_)
    all_goals (first | (exfalso; omega) | (exfalso; simp at hc; done) | (exfalso; simp at hc; omega) | (exfalso; simp only [dEf, dEt] at hc; omega) | (rename_i h0; exfalso; simp at h0; done) | (rename_i h0; exfalso; simp at h0; omega) | skip)
    refine ⟨k + 1, hlt, by show l.length - (k + 1) < l.length - k; omega, ⟨rfl, rfl, rfl, ?_, rfl, True.intro⟩, rfl⟩
    show _ = AV.int (2 * ((a.bars.length : Int) + b.bars.length - 2 * l.length) + sumK (costR a b) (l.take (k + 1)))
    rw [hst]
    exact congrArg AV.int (by omega)
  · repeat' (first | refine AOps.q rfl rfl rfl (fun hg => by first | exact std0 | exact std1) (by exact rfl) ?_ | refine AWP.seq ?_ | refine AWP.regionK (fun K' hK => ?_) | (refine AOps.nil (hK _ _ ?_); clear hK K') | (refine AWP.condW rfl True.intro (fun hc => ?_) (fun hc => ?_) <;> (first | (simp only [dEt] at hc) | (simp only [dEf, iNl, iNe] at hc) | skip)) | refine AWP.block ?_ | refine AWP.exit ?_ | refine AWP.skip ?_ | refine AWP.ret ?_ | refine AWP.drawK2 (by decide +kernel) (by kernel_rfl) (by decide +kernel) rfl (fun K' hK => ?_) | refine AQ.q rfl rfl (fun hg => by first | exact std0 | exact std1) (by exact rfl) ?_)
    all_goals (first | (exfalso; omega) | (exfalso; simp at hc; done) | (exfalso; simp at hc; omega) | (exfalso; simp only [dEf, dEt] at hc; omega) | (rename_i h0; exfalso; simp at h0; done) | (rename_i h0; exfalso; simp at h0; omega) | skip)
    have et : l.take k = l := List.take_of_length_le (by omega)
    rw [et]
    exact ⟨.inr rfl, Ent.int rfl⟩
end Go.Proofs.YtekfpcgagoidcaaGreatDoor.Al

