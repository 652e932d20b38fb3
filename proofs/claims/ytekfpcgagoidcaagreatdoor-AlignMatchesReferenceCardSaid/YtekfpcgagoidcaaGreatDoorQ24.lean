/- Contracts by content: align: isTable. No statement is proved here. -/
import Derived.Test.YtekfpcgagoidcaaGreatDoorQ22
import Derived.Test.YtekfpcgagoidcaaGreatDoorQ23
set_option linter.unusedVariables false
set_option linter.unusedSimpArgs false
namespace Go.Ab
theorem gOf_yesA {ops : Array Oper} {o : Oper} {env : Env} {j d : Nat} {want t : Bool} (h1 : o.guard = some (j, want)) (h2 : (ops[j]?).bind (·.dst) = some d) (h3 : env d = .prim (.bool t)) : gOf ops env o = some (.yes (t == want)) := by
  unfold gOf; rw [h1]; simp only; rw [h2]; simp only; rw [h3]
end Go.Ab
namespace Go.Proofs.YtekfpcgagoidcaaGreatDoor.Al
open Go.Ab Go.Sort
attribute [local irreducible] AWP AOps EStep AQ PStep PRun PCall TCall VCall
def isTabQ (o0 o1 o2 : AObj) (a b : Score) (al : NL) (kn : KL) (t : List (List Int)) (r : AV) (s : Store) : Prop :=
  r = .b (tabOkB (costR a b) a.bars.length b.bars.length t) ∧ s = PairS o0 o1 o2 a b al (knTab a b kn t)
def Bnd (t : List (List Int)) (i n : Nat) : Prop := ∀ j, j < n → 0 ≤ get2 t i j ∧ get2 t i j ≤ 1000
def Rows (m : Nat) (t : List (List Int)) (i : Nat) : Prop := ∀ j, j < i → (t.getD j []).length = m + 1 ∧ Bnd t j (m + 1)
theorem Bnd.succ {t : List (List Int)} {i n : Nat} (h : Bnd t i n) (hb : cellT t i n = true) : Bnd t i (n + 1) := fun j hj => by
  rcases Nat.lt_or_ge j n with h1 | h1
  · exact h j h1
  · obtain rfl : j = n := by omega
    have := cellT_iff.1 hb
    exact ⟨this.1, this.2.1⟩
theorem Rows.succ {m : Nat} {t : List (List Int)} {i : Nat} (h : Rows m t i) (hl : (t.getD i []).length = m + 1) (hb : Bnd t i (m + 1)) : Rows m t (i + 1) := fun j hj => by
  rcases Nat.lt_or_ge j i with h1 | h1
  · exact h j h1
  · obtain rfl : j = i := by omega
    exact ⟨hl, hb⟩
theorem isTab_no {o0 o1 o2 : AObj} {a b : Score} {al : NL} {kn x : KL} {t : List (List Int)} (hk : KnOk a b kn) (hl : t.length = a.bars.length + 1) (hv : visT a b b.bars.length t (a.bars.length + 1) 0 kn = (x, false)) : isTabQ o0 o1 o2 a b al kn t (.b false) (PairS o0 o1 o2 a b al x) := by
  obtain ⟨h1, h2⟩ := tab_is hk hl hv
  exact ⟨by rw [h2]; rfl, by rw [h1]⟩
set_option maxHeartbeats 16000000 in
set_option maxRecDepth 20000 in
theorem isTable_spec {o0 o1 o2 : AObj} (h3 : Pure3 o0 o1 o2) {a b : Score} (ha : Nts a) (hb : Nts b) {al : NL} (hg0 : Grp a b al) {kn : KL} (hkn : KnOk a b kn) (t : List (List Int)) :
    TCall Tryz.prog 55 [.ptr 7 0, .sl 1 (t.map encRow) .no] (PairS o0 o1 o2 a b al kn) (isTabQ o0 o1 o2 a b al kn t) := by
  have ha1 := ha.bars
  have hb1 := hb.bars
  refine TCall.body Tryz.func55 rfl rfl Tryz.ntmps55 rfl rfl ?_
  repeat' (first | refine AOps.q rfl rfl rfl (fun hg => by first | exact std0 | exact std1) (by exact rfl) ?_ | refine AWP.seq ?_ | refine AWP.regionK (fun K' hK => ?_) | (refine AOps.nil (hK _ _ ?_); clear hK K') | (refine AWP.condW rfl True.intro (fun hc => ?_) (fun hc => ?_) <;> (first | (simp only [dEt] at hc) | (simp only [dEf, iNl, iNe] at hc) | skip)) | refine AWP.block ?_ | refine AWP.skip ?_ | refine AWP.ret ?_)
  · refine ⟨.inr rfl, _, PairS o0 o1 o2 a b al kn, ?_, rfl, Nat.le_refl _, pairS_ok h3 (Nat.le_refl _) a b al _, rfl, rfl⟩
    have hne : ¬ t.length = a.bars.length + 1 := by simp only [Int.toNat_natCast, Bool.or_eq_true, Bool.and_eq_true, Bool.or_eq_false_iff, Bool.and_eq_false_iff, dEt, dEf, Bool.not_eq_true', Bool.not_eq_false', beq_iff_eq, beq_eq_false_iff_ne, bne_iff_ne, bne_eq_false_iff_eq, gt_iff_lt, ge_iff_le, ne_eq] at hc; omega
    refine ⟨?_, ?_⟩
    · unfold tabOkB; rw [decide_eq_false hne]; rfl
    · unfold knTab; rw [if_neg hne]
  have hlen : t.length = a.bars.length + 1 := by simp only [Int.toNat_natCast, Bool.or_eq_true, Bool.and_eq_true, Bool.or_eq_false_iff, Bool.and_eq_false_iff, dEt, dEf, Bool.not_eq_true', Bool.not_eq_false', beq_iff_eq, beq_eq_false_iff_ne, bne_iff_ne, bne_eq_false_iff_eq, gt_iff_lt, ge_iff_le, ne_eq] at hc; omega
  clear hc
  refine AWP.loopD (ι := Nat × KL) (fun q => [(0, .ptr 7 0), (1, .sl 1 (t.map encRow) .no), (19, .sl 1 (t.map encRow) .no), (20, .int t.length), (21, .int q.1)]) (fun q => PairS o0 o1 o2 a b al q.2)
    (fun q => q.1 ≤ a.bars.length + 1 ∧ KnOk a b q.2 ∧ visT a b b.bars.length t (a.bars.length + 1) 0 kn = visT a b b.bars.length t (a.bars.length + 1 - q.1) q.1 q.2 ∧ Rows b.bars.length t q.1) (fun q => a.bars.length + 1 - q.1) 8 (fun _ => rfl) (0, kn) ⟨Nat.zero_le _, hkn, rfl, fun j h => absurd h (Nat.not_lt_zero _)⟩ ⟨rfl, rfl, rfl, rfl, rfl, True.intro⟩ rfl (fun _ _ => rfl) (fun q _ => pairS_ok h3 (Nat.le_refl _) a b al _) ?_
  rintro ⟨i, kn1⟩ ⟨hi, hk1, hT, hRs⟩
  dsimp only at hi hk1 hT hRs
  by_cases hlt : i < a.bars.length + 1
  · obtain ⟨r, hr⟩ : ∃ r, t.getD i [] = r := ⟨_, rfl⟩
    have hr' : t.getD ((i : Nat) : Int).toNat default = r := hr
    by_cases hrl : r.length = b.bars.length + 1
    · repeat' (first | refine AOps.q rfl rfl rfl (fun hg => by first | exact iX encRow t ((i : Nat) : Int) hr' (hb := by omega) | exact std0 | exact std1) (by exact rfl) ?_ | refine AWP.seq ?_ | refine AWP.regionK (fun K' hK => ?_) | (refine AOps.nil (hK _ _ ?_); clear hK K') | (refine AWP.condW rfl True.intro (fun hc => ?_) (fun hc => ?_) <;> (first | (simp only [dEt] at hc) | (simp only [dEf, iNl, iNe] at hc) | skip)) | refine AWP.block ?_ | refine AWP.exit ?_ | refine AWP.skip ?_ | refine AWP.ret ?_)
      all_goals (first | (exfalso; omega) | (exfalso; simp at hc; done) | (exfalso; simp at hc; omega) | (exfalso; simp only [dEf, dEt] at hc; omega) | (rename_i h0; exfalso; simp at h0; done) | (rename_i h0; exfalso; simp at h0; omega) | skip)
      clear hc
      refine AWP.loopD (ι := Nat × KL) (fun q => [(0, .ptr 7 0), (1, .sl 1 (t.map encRow) .no), (5, .int i), (6, .sl 1 (r.map encI) .no), (19, .sl 1 (t.map encRow) .no), (20, .int t.length), (21, .int i), (36, .sl 1 (r.map encI) .no), (37, .int r.length), (38, .int q.1)]) (fun q => PairS o0 o1 o2 a b al q.2)
        (fun q => q.1 ≤ b.bars.length + 1 ∧ KnOk a b q.2 ∧ visRow a b t i (b.bars.length + 1) 0 kn1 = visRow a b t i (b.bars.length + 1 - q.1) q.1 q.2 ∧ Bnd t i q.1) (fun q => b.bars.length + 1 - q.1) 8 (fun _ => rfl) (0, kn1) ⟨Nat.zero_le _, hk1, rfl, fun j h => absurd h (Nat.not_lt_zero _)⟩ ⟨rfl, rfl, rfl, rfl, rfl, rfl, rfl, rfl, rfl, rfl, True.intro⟩ rfl (fun _ _ => rfl) (fun q _ => pairS_ok h3 (Nat.le_refl _) a b al _) ?_
      rintro ⟨k, kn2⟩ ⟨hk, hk2, hR, hBd⟩
      dsimp only at hk hk2 hR hBd
      by_cases hlk : k < b.bars.length + 1
      · obtain ⟨v, hv⟩ : ∃ v, get2 t i k = v := ⟨_, rfl⟩
        have hv' : r.getD ((k : Nat) : Int).toNat default = v := by rw [← hv, ← hr]; rfl
        have hno : ∀ x : KL, visRow a b t i (b.bars.length + 1 - k) k kn2 = (x, false) → isTabQ o0 o1 o2 a b al kn t (.b false) (PairS o0 o1 o2 a b al x) := fun x hx => isTab_no hkn hlen (hT.trans (visT_no hlt (by rw [hr]; exact hrl) (hR.trans hx)))
        have hbs := cellT_iff (t := t) (i := i) (k := k)
        rw [hv] at hbs
        rcases Nat.eq_zero_or_pos i with hi0 | hi0 <;> rcases Nat.eq_zero_or_pos k with hk0 | hk0
        · subst hi0
          subst hk0
          repeat' (first | refine AOps.q rfl rfl rfl (fun hg => by first | exact iX encI r ((0 : Nat) : Int) hv' (hb := by omega) | exact std0 | exact (by (exfalso; simp at hg) : PRun _ _ _ _ (.b false))) (by exact rfl) ?_ | refine AWP.seq ?_ | refine AWP.regionK (fun K' hK => ?_) | (refine AOps.nil (hK _ _ ?_); clear hK K') | (refine AWP.condW rfl True.intro (fun hc => ?_) (fun hc => ?_) <;> (first | (simp only [dEt] at hc) | (simp only [dEf, iNl, iNe] at hc) | skip)) | refine AWP.block ?_ | refine AWP.exit ?_ | refine AWP.skip ?_ | refine AWP.ret ?_ | refine AWP.drawK2 (by decide +kernel) (by kernel_rfl) (by decide +kernel) rfl (fun K' hK => ?_) | (refine AQ.nil (hK _ ?_); clear hK K') | refine AQ.q rfl rfl (fun hg => by first | exact std0 | exact (by (exfalso; simp at hg) : PRun _ _ _ _ (.b false))) (by exact rfl) ?_)
          all_goals (first | (exfalso; omega) | (exfalso; simp at hc; done) | (exfalso; simp at hc; omega) | (exfalso; simp only [dEf, dEt] at hc; omega) | (rename_i h0; exfalso; simp at h0; done) | (rename_i h0; exfalso; simp at h0; omega) | skip)
          · exact ⟨.inr rfl, _, PairS o0 o1 o2 a b al kn2, hno kn2 (visRow_bad hlk (by rw [← Bool.not_eq_true, hbs]; (simp only [Int.toNat_natCast, Bool.or_eq_true, Bool.and_eq_true, Bool.or_eq_false_iff, Bool.and_eq_false_iff, dEt, dEf, Bool.not_eq_true', Bool.not_eq_false', beq_iff_eq, beq_eq_false_iff_ne, bne_iff_ne, bne_eq_false_iff_eq, gt_iff_lt, ge_iff_le, ne_eq] at hc); omega)), rfl, Nat.le_refl _, pairS_ok h3 (Nat.le_refl _) a b al _, rfl, rfl⟩
          · rename_i h1 h2
            have hgood : cellT t 0 0 = true := by rw [hbs]; (simp only [Int.toNat_natCast, Bool.or_eq_true, Bool.and_eq_true, Bool.or_eq_false_iff, Bool.and_eq_false_iff, dEt, dEf, Bool.not_eq_true', Bool.not_eq_false', beq_iff_eq, beq_eq_false_iff_ne, bne_iff_ne, bne_eq_false_iff_eq, gt_iff_lt, ge_iff_le, ne_eq] at h1); (simp only [Int.toNat_natCast, Bool.or_eq_true, Bool.and_eq_true, Bool.or_eq_false_iff, Bool.and_eq_false_iff, dEt, dEf, Bool.not_eq_true', Bool.not_eq_false', beq_iff_eq, beq_eq_false_iff_ne, bne_iff_ne, bne_eq_false_iff_eq, gt_iff_lt, ge_iff_le, ne_eq] at h2); omega
            exact ⟨(0 + 1, kn2), ⟨hlk, hk2, hR.trans (visRow_edge hlk hgood (.inl rfl)), hBd.succ hgood⟩, by show b.bars.length + 1 - (0 + 1) < b.bars.length + 1 - 0; omega, ⟨rfl, rfl, rfl, rfl, rfl, rfl, rfl, rfl, rfl, rfl, True.intro⟩, rfl⟩
        · subst hi0
          obtain ⟨k, rfl⟩ : ∃ j, k = j + 1 := ⟨k - 1, by omega⟩
          obtain ⟨w, hw⟩ : ∃ w, get2 t 0 k = w := ⟨_, rfl⟩
          obtain ⟨w1, w2⟩ := hBd k (Nat.lt_succ_self _)
          rw [hw] at w1 w2
          have hw' : r.getD k 0 = w := by rw [← hw, ← hr]; rfl
          rw [show k + 1 - 1 = k from rfl, hw] at hbs
          repeat' (first | refine AOps.q rfl rfl rfl (fun hg => by first | exact iX encI r ((k : Nat) : Int) hw' (hb := by omega) | exact PRun.eq (v := .int (((k + 1 : Nat) : Int) - 1)) (PRun.step tabOk rfl sd) (congrArg AV.int (show (((k + 1 : Nat) : Int) - 1) = ((k : Nat) : Int) by omega)) | exact iX encI r ((k + 1 : Nat) : Int) hv' (hb := by omega) | exact std0 | exact (by (exfalso; simp at hg) : PRun _ _ _ _ (.b false))) (by exact rfl) ?_ | refine AWP.seq ?_ | refine AWP.regionK (fun K' hK => ?_) | (refine AOps.nil (hK _ _ ?_); clear hK K') | (refine AWP.condW rfl True.intro (fun hc => ?_) (fun hc => ?_) <;> (first | (simp only [dEt] at hc) | (simp only [dEf, iNl, iNe] at hc) | skip)) | refine AWP.block ?_ | refine AWP.exit ?_ | refine AWP.skip ?_ | refine AWP.ret ?_ | refine AWP.drawK2 (by decide +kernel) (by kernel_rfl) (by decide +kernel) rfl (fun K' hK => ?_) | (refine AQ.nil (hK _ ?_); clear hK K') | refine AQ.q rfl rfl (fun hg => by first | exact PRun.eq (v := .int (((k + 1 : Nat) : Int) - 1)) (PRun.step tabOk rfl sd) (congrArg AV.int (show (((k + 1 : Nat) : Int) - 1) = ((k : Nat) : Int) by omega)) | exact std0 | exact (by (exfalso; simp at hg) : PRun _ _ _ _ (.b false))) (by exact rfl) ?_)
          all_goals (first | (exfalso; omega) | (exfalso; simp at hc; done) | (exfalso; simp at hc; omega) | (exfalso; simp only [dEf, dEt] at hc; omega) | (rename_i h0; exfalso; simp at h0; done) | (rename_i h0; exfalso; simp at h0; omega) | skip)
          · exact ⟨.inr rfl, _, PairS o0 o1 o2 a b al kn2, hno kn2 (visRow_bad hlk (by rw [← Bool.not_eq_true, hbs]; (simp only [Int.toNat_natCast, Bool.or_eq_true, Bool.and_eq_true, Bool.or_eq_false_iff, Bool.and_eq_false_iff, dEt, dEf, Bool.not_eq_true', Bool.not_eq_false', beq_iff_eq, beq_eq_false_iff_ne, bne_iff_ne, bne_eq_false_iff_eq, gt_iff_lt, ge_iff_le, ne_eq] at hc); omega)), rfl, Nat.le_refl _, pairS_ok h3 (Nat.le_refl _) a b al _, rfl, rfl⟩
          · exact ⟨.inr rfl, _, PairS o0 o1 o2 a b al kn2, hno kn2 (visRow_bad hlk (by rw [← Bool.not_eq_true, hbs]; (simp only [Int.toNat_natCast, Bool.or_eq_true, Bool.and_eq_true, Bool.or_eq_false_iff, Bool.and_eq_false_iff, dEt, dEf, Bool.not_eq_true', Bool.not_eq_false', beq_iff_eq, beq_eq_false_iff_ne, bne_iff_ne, bne_eq_false_iff_eq, gt_iff_lt, ge_iff_le, ne_eq] at hc); omega)), rfl, Nat.le_refl _, pairS_ok h3 (Nat.le_refl _) a b al _, rfl, rfl⟩
          · rename_i h1 h2
            have hgood : cellT t 0 (k + 1) = true := by rw [hbs]; (simp only [Int.toNat_natCast, Bool.or_eq_true, Bool.and_eq_true, Bool.or_eq_false_iff, Bool.and_eq_false_iff, dEt, dEf, Bool.not_eq_true', Bool.not_eq_false', beq_iff_eq, beq_eq_false_iff_ne, bne_iff_ne, bne_eq_false_iff_eq, gt_iff_lt, ge_iff_le, ne_eq] at h1); (simp only [Int.toNat_natCast, Bool.or_eq_true, Bool.and_eq_true, Bool.or_eq_false_iff, Bool.and_eq_false_iff, dEt, dEf, Bool.not_eq_true', Bool.not_eq_false', beq_iff_eq, beq_eq_false_iff_ne, bne_iff_ne, bne_eq_false_iff_eq, gt_iff_lt, ge_iff_le, ne_eq] at h2); omega
            exact ⟨((k + 1) + 1, kn2), ⟨hlk, hk2, hR.trans (visRow_edge hlk hgood (.inl rfl)), hBd.succ hgood⟩, by show b.bars.length + 1 - ((k + 1) + 1) < b.bars.length + 1 - (k + 1); omega, ⟨rfl, rfl, rfl, rfl, rfl, rfl, rfl, rfl, rfl, rfl, True.intro⟩, rfl⟩
        · obtain ⟨i, rfl⟩ : ∃ j, i = j + 1 := ⟨i - 1, by omega⟩
          obtain ⟨q, hq⟩ : ∃ q, t.getD i [] = q := ⟨_, rfl⟩
          obtain ⟨rw1, rw2⟩ := hRs i (Nat.lt_succ_self _)
          rw [hq] at rw1
          subst hk0
          obtain ⟨u, hu⟩ : ∃ u, get2 t i 0 = u := ⟨_, rfl⟩
          obtain ⟨u1, u2⟩ := rw2 0 (by omega)
          rw [hu] at u1 u2
          have hu' : q.getD 0 0 = u := by rw [← hu, ← hq]; rfl
          rw [show i + 1 - 1 = i from rfl, hu] at hbs
          repeat' (first | refine AOps.q rfl rfl rfl (fun hg => by first | exact iX encI q ((0 : Nat) : Int) hu' (hb := by omega) | exact iX encRow t ((i : Nat) : Int) hq (hb := by omega) | exact PRun.eq (v := .int (((i + 1 : Nat) : Int) - 1)) (PRun.step tabOk rfl sd) (congrArg AV.int (show (((i + 1 : Nat) : Int) - 1) = ((i : Nat) : Int) by omega)) | exact iX encI r ((0 : Nat) : Int) hv' (hb := by omega) | exact std0 | exact (by (exfalso; simp at hg) : PRun _ _ _ _ (.b false))) (by exact rfl) ?_ | refine AWP.seq ?_ | refine AWP.regionK (fun K' hK => ?_) | (refine AOps.nil (hK _ _ ?_); clear hK K') | (refine AWP.condW rfl True.intro (fun hc => ?_) (fun hc => ?_) <;> (first | (simp only [dEt] at hc) | (simp only [dEf, iNl, iNe] at hc) | skip)) | refine AWP.block ?_ | refine AWP.exit ?_ | refine AWP.skip ?_ | refine AWP.ret ?_ | refine AWP.drawK2 (by decide +kernel) (by kernel_rfl) (by decide +kernel) rfl (fun K' hK => ?_) | (refine AQ.nil (hK _ ?_); clear hK K') | refine AQ.q rfl rfl (fun hg => by first | exact iX encRow t ((i : Nat) : Int) hq (hb := by omega) | exact PRun.eq (v := .int (((i + 1 : Nat) : Int) - 1)) (PRun.step tabOk rfl sd) (congrArg AV.int (show (((i + 1 : Nat) : Int) - 1) = ((i : Nat) : Int) by omega)) | exact std0 | exact (by (exfalso; simp at hg) : PRun _ _ _ _ (.b false))) (by exact rfl) ?_)
          all_goals (first | (exfalso; omega) | (exfalso; simp at hc; done) | (exfalso; simp at hc; omega) | (exfalso; simp only [dEf, dEt] at hc; omega) | (rename_i h0; exfalso; simp at h0; done) | (rename_i h0; exfalso; simp at h0; omega) | skip)
          · exact ⟨.inr rfl, _, PairS o0 o1 o2 a b al kn2, hno kn2 (visRow_bad hlk (by rw [← Bool.not_eq_true, hbs]; (simp only [Int.toNat_natCast, Bool.or_eq_true, Bool.and_eq_true, Bool.or_eq_false_iff, Bool.and_eq_false_iff, dEt, dEf, Bool.not_eq_true', Bool.not_eq_false', beq_iff_eq, beq_eq_false_iff_ne, bne_iff_ne, bne_eq_false_iff_eq, gt_iff_lt, ge_iff_le, ne_eq] at hc); omega)), rfl, Nat.le_refl _, pairS_ok h3 (Nat.le_refl _) a b al _, rfl, rfl⟩
          · exact ⟨.inr rfl, _, PairS o0 o1 o2 a b al kn2, hno kn2 (visRow_bad hlk (by rw [← Bool.not_eq_true, hbs]; (simp only [Int.toNat_natCast, Bool.or_eq_true, Bool.and_eq_true, Bool.or_eq_false_iff, Bool.and_eq_false_iff, dEt, dEf, Bool.not_eq_true', Bool.not_eq_false', beq_iff_eq, beq_eq_false_iff_ne, bne_iff_ne, bne_eq_false_iff_eq, gt_iff_lt, ge_iff_le, ne_eq] at hc); omega)), rfl, Nat.le_refl _, pairS_ok h3 (Nat.le_refl _) a b al _, rfl, rfl⟩
          · rename_i h1 h2
            have hgood : cellT t (i + 1) 0 = true := by rw [hbs]; (simp only [Int.toNat_natCast, Bool.or_eq_true, Bool.and_eq_true, Bool.or_eq_false_iff, Bool.and_eq_false_iff, dEt, dEf, Bool.not_eq_true', Bool.not_eq_false', beq_iff_eq, beq_eq_false_iff_ne, bne_iff_ne, bne_eq_false_iff_eq, gt_iff_lt, ge_iff_le, ne_eq] at h1); (simp only [Int.toNat_natCast, Bool.or_eq_true, Bool.and_eq_true, Bool.or_eq_false_iff, Bool.and_eq_false_iff, dEt, dEf, Bool.not_eq_true', Bool.not_eq_false', beq_iff_eq, beq_eq_false_iff_ne, bne_iff_ne, bne_eq_false_iff_eq, gt_iff_lt, ge_iff_le, ne_eq] at h2); omega
            exact ⟨(0 + 1, kn2), ⟨hlk, hk2, hR.trans (visRow_edge hlk hgood (.inr rfl)), hBd.succ hgood⟩, by show b.bars.length + 1 - (0 + 1) < b.bars.length + 1 - 0; omega, ⟨rfl, rfl, rfl, rfl, rfl, rfl, rfl, rfl, rfl, rfl, True.intro⟩, rfl⟩
        · obtain ⟨i, rfl⟩ : ∃ j, i = j + 1 := ⟨i - 1, by omega⟩
          obtain ⟨q, hq⟩ : ∃ q, t.getD i [] = q := ⟨_, rfl⟩
          obtain ⟨rw1, rw2⟩ := hRs i (Nat.lt_succ_self _)
          rw [hq] at rw1
          obtain ⟨k, rfl⟩ : ∃ j, k = j + 1 := ⟨k - 1, by omega⟩
          obtain ⟨u, hu⟩ : ∃ u, get2 t i (k + 1) = u := ⟨_, rfl⟩
          obtain ⟨u1, u2⟩ := rw2 (k + 1) (by omega)
          rw [hu] at u1 u2
          have hu' : q.getD (k + 1) 0 = u := by rw [← hu, ← hq]; rfl
          rw [show i + 1 - 1 = i from rfl, hu] at hbs
          obtain ⟨w, hw⟩ : ∃ w, get2 t (i + 1) k = w := ⟨_, rfl⟩
          obtain ⟨w1, w2⟩ := hBd k (Nat.lt_succ_self _)
          rw [hw] at w1 w2
          have hw' : r.getD k 0 = w := by rw [← hw, ← hr]; rfl
          rw [show k + 1 - 1 = k from rfl, hw] at hbs
          obtain ⟨x, hx⟩ : ∃ x, get2 t i k = x := ⟨_, rfl⟩
          obtain ⟨x1, x2⟩ := rw2 k (by omega)
          rw [hx] at x1 x2
          have hx' : q.getD k 0 = x := by rw [← hx, ← hq]; rfl
          have c1 := costR_in a b i k
          have hc0 := TCall.val (first := []) (caps := []) (avs := [.ptr 7 0, .int i, .int k]) (cost_spec h3 ha hb hg0 hk2 (show i < a.bars.length by omega) (show k < b.bars.length by omega))
          repeat' (first | refine AOps.q rfl rfl rfl (fun hg => by first | exact iX encI r ((k : Nat) : Int) hw' (hb := by omega) | exact PRun.eq (v := .int (((k + 1 : Nat) : Int) - 1)) (PRun.step tabOk rfl sd) (congrArg AV.int (show (((k + 1 : Nat) : Int) - 1) = ((k : Nat) : Int) by omega)) | exact iX encI q ((k + 1 : Nat) : Int) hu' (hb := by omega) | exact iX encRow t ((i : Nat) : Int) hq (hb := by omega) | exact PRun.eq (v := .int (((i + 1 : Nat) : Int) - 1)) (PRun.step tabOk rfl sd) (congrArg AV.int (show (((i + 1 : Nat) : Int) - 1) = ((i : Nat) : Int) by omega)) | exact iX encI r ((k + 1 : Nat) : Int) hv' (hb := by omega) | exact std0) (by exact rfl) ?_ | refine AWP.seq ?_ | refine AWP.regionK (fun K' hK => ?_) | (refine AOps.nil (hK _ _ ?_); clear hK K') | (refine AWP.condW rfl True.intro (fun hc => ?_) (fun hc => ?_) <;> (first | (simp only [dEt] at hc) | (simp only [dEf, iNl, iNe] at hc) | skip)) | refine AWP.block ?_ | refine AWP.exit ?_ | refine AWP.skip ?_ | refine AWP.ret ?_)
          all_goals (first | (exfalso; omega) | (exfalso; simp at hc; done) | (exfalso; simp at hc; omega) | (exfalso; simp only [dEf, dEt] at hc; omega) | (rename_i h0; exfalso; simp at h0; done) | (rename_i h0; exfalso; simp at h0; omega) | skip)
          · exact ⟨.inr rfl, _, PairS o0 o1 o2 a b al kn2, hno kn2 (visRow_bad hlk (by rw [← Bool.not_eq_true, hbs]; (simp only [Int.toNat_natCast, Bool.or_eq_true, Bool.and_eq_true, Bool.or_eq_false_iff, Bool.and_eq_false_iff, dEt, dEf, Bool.not_eq_true', Bool.not_eq_false', beq_iff_eq, beq_eq_false_iff_ne, bne_iff_ne, bne_eq_false_iff_eq, gt_iff_lt, ge_iff_le, ne_eq] at hc); omega)), rfl, Nat.le_refl _, pairS_ok h3 (Nat.le_refl _) a b al _, rfl, rfl⟩
          · exact ⟨.inr rfl, _, PairS o0 o1 o2 a b al kn2, hno kn2 (visRow_bad hlk (by rw [← Bool.not_eq_true, hbs]; (simp only [Int.toNat_natCast, Bool.or_eq_true, Bool.and_eq_true, Bool.or_eq_false_iff, Bool.and_eq_false_iff, dEt, dEf, Bool.not_eq_true', Bool.not_eq_false', beq_iff_eq, beq_eq_false_iff_ne, bne_iff_ne, bne_eq_false_iff_eq, gt_iff_lt, ge_iff_le, ne_eq] at hc); omega)), rfl, Nat.le_refl _, pairS_ok h3 (Nat.le_refl _) a b al _, rfl, rfl⟩
          rename_i h1
          have hgood : cellT t (i + 1) (k + 1) = true := by rw [hbs]; (simp only [Int.toNat_natCast, Bool.or_eq_true, Bool.and_eq_true, Bool.or_eq_false_iff, Bool.and_eq_false_iff, dEt, dEf, Bool.not_eq_true', Bool.not_eq_false', beq_iff_eq, beq_eq_false_iff_ne, bne_iff_ne, bne_eq_false_iff_eq, gt_iff_lt, ge_iff_le, ne_eq] at h1); (simp only [Int.toNat_natCast, Bool.or_eq_true, Bool.and_eq_true, Bool.or_eq_false_iff, Bool.and_eq_false_iff, dEt, dEf, Bool.not_eq_true', Bool.not_eq_false', beq_iff_eq, beq_eq_false_iff_ne, bne_iff_ne, bne_eq_false_iff_eq, gt_iff_lt, ge_iff_le, ne_eq] at hc); omega
          clear h1 hc
          refine AWP.drawYM effCl (fun j => match j with | 0 => PairS o0 o1 o2 a b al kn2 | _ => PairS o0 o1 o2 a b al (knI a b kn2 i k)) rfl (by kernel_rfl) (by decide +kernel) rfl (by decide +kernel) (fun K' hK => ?_)
          repeat' (first
            | refine YQ.q (a := 0) (b := 0) rfl (by decide +kernel) (by decide +kernel) rfl rfl rfl (fun k h1 h2 hg => by (have hk : k = 0 := (by omega)); (rcases hk with rfl) <;> (first | exact iX encI q ((k : Nat) : Int) hx' (hb := by omega) | exact iX encRow t ((i : Nat) : Int) hq (hb := by omega) | exact PRun.eq (v := .int (((k + 1 : Nat) : Int) - 1)) (PRun.step tabOk rfl sd) (congrArg AV.int (show (((k + 1 : Nat) : Int) - 1) = ((k : Nat) : Int) by omega)) | exact PRun.eq (v := .int (((i + 1 : Nat) : Int) - 1)) (PRun.step tabOk rfl sd) (congrArg AV.int (show (((i + 1 : Nat) : Int) - 1) = ((i : Nat) : Int) by omega)) | exact PRun.eq (PRun.binW rfl rfl nd rfl nd rfl) (show AV.b (decide (((k + 1 : Nat) : Int) > 0)) = AV.b true from congrArg AV.b (decide_eq_true (by omega))) | exact PRun.eq (PRun.binW rfl rfl nd rfl nd rfl) (show AV.b (decide (((i + 1 : Nat) : Int) > 0)) = AV.b true from congrArg AV.b (decide_eq_true (by omega))) | exact std0 | exact std1)) (by exact rfl) ?_
            | refine YQ.q (a := 0) (b := 1) rfl (by decide +kernel) (by decide +kernel) rfl rfl rfl (fun k h1 h2 hg => by (have hk : k = 0 ∨ k = 1 := (by omega)); (rcases hk with rfl | rfl) <;> (first | exact iX encI q ((k : Nat) : Int) hx' (hb := by omega) | exact iX encRow t ((i : Nat) : Int) hq (hb := by omega) | exact PRun.eq (v := .int (((k + 1 : Nat) : Int) - 1)) (PRun.step tabOk rfl sd) (congrArg AV.int (show (((k + 1 : Nat) : Int) - 1) = ((k : Nat) : Int) by omega)) | exact PRun.eq (v := .int (((i + 1 : Nat) : Int) - 1)) (PRun.step tabOk rfl sd) (congrArg AV.int (show (((i + 1 : Nat) : Int) - 1) = ((i : Nat) : Int) by omega)) | exact PRun.eq (PRun.binW rfl rfl nd rfl nd rfl) (show AV.b (decide (((k + 1 : Nat) : Int) > 0)) = AV.b true from congrArg AV.b (decide_eq_true (by omega))) | exact PRun.eq (PRun.binW rfl rfl nd rfl nd rfl) (show AV.b (decide (((i + 1 : Nat) : Int) > 0)) = AV.b true from congrArg AV.b (decide_eq_true (by omega))) | exact std0 | exact std1)) (by exact rfl) ?_
            | refine YQ.q (a := 1) (b := 1) rfl (by decide +kernel) (by decide +kernel) rfl rfl rfl (fun k h1 h2 hg => by (have hk : k = 1 := (by omega)); (rcases hk with rfl) <;> (first | exact iX encI q ((k : Nat) : Int) hx' (hb := by omega) | exact iX encRow t ((i : Nat) : Int) hq (hb := by omega) | exact PRun.eq (v := .int (((k + 1 : Nat) : Int) - 1)) (PRun.step tabOk rfl sd) (congrArg AV.int (show (((k + 1 : Nat) : Int) - 1) = ((k : Nat) : Int) by omega)) | exact PRun.eq (v := .int (((i + 1 : Nat) : Int) - 1)) (PRun.step tabOk rfl sd) (congrArg AV.int (show (((i + 1 : Nat) : Int) - 1) = ((i : Nat) : Int) by omega)) | exact PRun.eq (PRun.binW rfl rfl nd rfl nd rfl) (show AV.b (decide (((k + 1 : Nat) : Int) > 0)) = AV.b true from congrArg AV.b (decide_eq_true (by omega))) | exact PRun.eq (PRun.binW rfl rfl nd rfl nd rfl) (show AV.b (decide (((i + 1 : Nat) : Int) > 0)) = AV.b true from congrArg AV.b (decide_eq_true (by omega))) | exact std0 | exact std1)) (by exact rfl) ?_
            | refine YQ.q (a := 0) (b := 2) rfl (by decide +kernel) (by decide +kernel) rfl rfl rfl (fun k h1 h2 hg => by (have hk : k = 0 ∨ k = 1 ∨ k = 2 := (by omega)); (rcases hk with rfl | rfl | rfl) <;> (first | exact iX encI q ((k : Nat) : Int) hx' (hb := by omega) | exact iX encRow t ((i : Nat) : Int) hq (hb := by omega) | exact PRun.eq (v := .int (((k + 1 : Nat) : Int) - 1)) (PRun.step tabOk rfl sd) (congrArg AV.int (show (((k + 1 : Nat) : Int) - 1) = ((k : Nat) : Int) by omega)) | exact PRun.eq (v := .int (((i + 1 : Nat) : Int) - 1)) (PRun.step tabOk rfl sd) (congrArg AV.int (show (((i + 1 : Nat) : Int) - 1) = ((i : Nat) : Int) by omega)) | exact PRun.eq (PRun.binW rfl rfl nd rfl nd rfl) (show AV.b (decide (((k + 1 : Nat) : Int) > 0)) = AV.b true from congrArg AV.b (decide_eq_true (by omega))) | exact PRun.eq (PRun.binW rfl rfl nd rfl nd rfl) (show AV.b (decide (((i + 1 : Nat) : Int) > 0)) = AV.b true from congrArg AV.b (decide_eq_true (by omega))) | exact std0 | exact std1)) (by exact rfl) ?_
            | refine YQ.q (a := 1) (b := 2) rfl (by decide +kernel) (by decide +kernel) rfl rfl rfl (fun k h1 h2 hg => by (have hk : k = 1 ∨ k = 2 := (by omega)); (rcases hk with rfl | rfl) <;> (first | exact iX encI q ((k : Nat) : Int) hx' (hb := by omega) | exact iX encRow t ((i : Nat) : Int) hq (hb := by omega) | exact PRun.eq (v := .int (((k + 1 : Nat) : Int) - 1)) (PRun.step tabOk rfl sd) (congrArg AV.int (show (((k + 1 : Nat) : Int) - 1) = ((k : Nat) : Int) by omega)) | exact PRun.eq (v := .int (((i + 1 : Nat) : Int) - 1)) (PRun.step tabOk rfl sd) (congrArg AV.int (show (((i + 1 : Nat) : Int) - 1) = ((i : Nat) : Int) by omega)) | exact PRun.eq (PRun.binW rfl rfl nd rfl nd rfl) (show AV.b (decide (((k + 1 : Nat) : Int) > 0)) = AV.b true from congrArg AV.b (decide_eq_true (by omega))) | exact PRun.eq (PRun.binW rfl rfl nd rfl nd rfl) (show AV.b (decide (((i + 1 : Nat) : Int) > 0)) = AV.b true from congrArg AV.b (decide_eq_true (by omega))) | exact std0 | exact std1)) (by exact rfl) ?_
            | refine YQ.q (a := 2) (b := 2) rfl (by decide +kernel) (by decide +kernel) rfl rfl rfl (fun k h1 h2 hg => by (have hk : k = 2 := (by omega)); (rcases hk with rfl) <;> (first | exact iX encI q ((k : Nat) : Int) hx' (hb := by omega) | exact iX encRow t ((i : Nat) : Int) hq (hb := by omega) | exact PRun.eq (v := .int (((k + 1 : Nat) : Int) - 1)) (PRun.step tabOk rfl sd) (congrArg AV.int (show (((k + 1 : Nat) : Int) - 1) = ((k : Nat) : Int) by omega)) | exact PRun.eq (v := .int (((i + 1 : Nat) : Int) - 1)) (PRun.step tabOk rfl sd) (congrArg AV.int (show (((i + 1 : Nat) : Int) - 1) = ((i : Nat) : Int) by omega)) | exact PRun.eq (PRun.binW rfl rfl nd rfl nd rfl) (show AV.b (decide (((k + 1 : Nat) : Int) > 0)) = AV.b true from congrArg AV.b (decide_eq_true (by omega))) | exact PRun.eq (PRun.binW rfl rfl nd rfl nd rfl) (show AV.b (decide (((i + 1 : Nat) : Int) > 0)) = AV.b true from congrArg AV.b (decide_eq_true (by omega))) | exact std0 | exact std1)) (by exact rfl) ?_)
          refine YQ.e (v := .int (costR a b i k)) (d := some 103) rfl rfl rfl ?_ ?_
          · intro env' he
            refine EStep.gd (gOf_yesA rfl rfl ((he 87 (by decide +kernel)).trans rfl)) rfl (EStep.callT hc0 rfl rfl rfl rfl rfl True.intro rfl (by simp only [rds, rdv_congr (he 98 (by decide +kernel)), rdv_congr (he 100 (by decide +kernel)), rdv_congr (he 102 (by decide +kernel))]; rfl) ⟨(by rw [rdn_congr (he 98 (by decide +kernel))]; first | exact True.intro | exact rfl), (by rw [rdn_congr (he 100 (by decide +kernel))]; first | exact True.intro | exact rfl), (by rw [rdn_congr (he 102 (by decide +kernel))]; first | exact True.intro | exact rfl), True.intro⟩ ?_)
            rintro _ _ ⟨rfl, rfl⟩
            exact ⟨rfl, rfl⟩
          repeat' (first
            | refine YQ.q (a := 0) (b := 0) rfl (by decide +kernel) (by decide +kernel) rfl rfl rfl (fun k h1 h2 hg => by (have hk : k = 0 := (by omega)); (rcases hk with rfl) <;> (first | exact std0 | exact std1)) (by exact rfl) ?_
            | refine YQ.q (a := 0) (b := 1) rfl (by decide +kernel) (by decide +kernel) rfl rfl rfl (fun k h1 h2 hg => by (have hk : k = 0 ∨ k = 1 := (by omega)); (rcases hk with rfl | rfl) <;> (first | exact std0 | exact std1)) (by exact rfl) ?_
            | refine YQ.q (a := 1) (b := 1) rfl (by decide +kernel) (by decide +kernel) rfl rfl rfl (fun k h1 h2 hg => by (have hk : k = 1 := (by omega)); (rcases hk with rfl) <;> (first | exact std0 | exact std1)) (by exact rfl) ?_
            | refine YQ.q (a := 0) (b := 2) rfl (by decide +kernel) (by decide +kernel) rfl rfl rfl (fun k h1 h2 hg => by (have hk : k = 0 ∨ k = 1 ∨ k = 2 := (by omega)); (rcases hk with rfl | rfl | rfl) <;> (first | exact std0 | exact std1)) (by exact rfl) ?_
            | refine YQ.q (a := 1) (b := 2) rfl (by decide +kernel) (by decide +kernel) rfl rfl rfl (fun k h1 h2 hg => by (have hk : k = 1 ∨ k = 2 := (by omega)); (rcases hk with rfl | rfl) <;> (first | exact std0 | exact std1)) (by exact rfl) ?_
            | refine YQ.q (a := 2) (b := 2) rfl (by decide +kernel) (by decide +kernel) rfl rfl rfl (fun k h1 h2 hg => by (have hk : k = 2 := (by omega)); (rcases hk with rfl) <;> (first | exact std0 | exact std1)) (by exact rfl) ?_)
          refine YQ.nil (hK _ _ ?_)
          clear hK K'
          repeat' (first | refine AOps.q rfl rfl rfl (fun hg => by exact std0) (by exact rfl) ?_ | refine AWP.seq ?_ | refine AWP.regionK (fun K' hK => ?_) | (refine AOps.nil (hK _ _ ?_); clear hK K') | (refine AWP.condW rfl True.intro (fun hc => ?_) (fun hc => ?_) <;> (first | (simp only [dEt] at hc) | (simp only [dEf, iNl, iNe] at hc) | skip)) | refine AWP.skip ?_ | refine AWP.ret ?_)
          · exact ⟨.inr rfl, _, PairS o0 o1 o2 a b al (knI a b kn2 i k), hno _ (visRow_last hlk hgood (by rw [hv, hx]; have h9 := of_decide_eq_true (show decide (v > x + costR a b i k) = true from hc); omega)), rfl, Nat.le_refl _, pairS_ok h3 (Nat.le_refl _) a b al _, rfl, rfl⟩
          · exact ⟨(k + 1 + 1, knI a b kn2 i k), ⟨hlk, hk2.knI i k, hR.trans (visRow_next hlk hgood (by rw [hv, hx]; have h9 := of_decide_eq_false (show decide (v > x + costR a b i k) = false from hc); omega)), hBd.succ hgood⟩, by show b.bars.length + 1 - (k + 1 + 1) < b.bars.length + 1 - (k + 1); omega, ⟨rfl, rfl, rfl, rfl, rfl, rfl, rfl, rfl, rfl, rfl, True.intro⟩, rfl⟩
      · obtain rfl : k = b.bars.length + 1 := by omega
        rw [Nat.sub_self] at hR
        repeat' (first | refine AOps.q rfl rfl rfl (fun hg => by first | exact std0 | exact std1) (by exact rfl) ?_ | refine AWP.seq ?_ | refine AWP.regionK (fun K' hK => ?_) | (refine AOps.nil (hK _ _ ?_); clear hK K') | (refine AWP.condW rfl True.intro (fun hc => ?_) (fun hc => ?_) <;> (first | (simp only [dEt] at hc) | (simp only [dEf, iNl, iNe] at hc) | skip)) | refine AWP.block ?_ | refine AWP.exit ?_ | refine AWP.skip ?_ | refine AWP.ret ?_ | refine AWP.drawK2 (by decide +kernel) (by kernel_rfl) (by decide +kernel) rfl (fun K' hK => ?_) | refine AQ.q rfl rfl (fun hg => by first | exact std0 | exact std1) (by exact rfl) ?_)
        all_goals (first | (exfalso; omega) | (exfalso; simp at hc; done) | (exfalso; simp at hc; omega) | (exfalso; simp only [dEf, dEt] at hc; omega) | (rename_i h0; exfalso; simp at h0; done) | (rename_i h0; exfalso; simp at h0; omega) | skip)
        exact ⟨(i + 1, kn2), ⟨hlt, hk2, hT.trans (visT_next hlt (by rw [hr]; exact hrl) hR), hRs.succ (by rw [hr]; exact hrl) hBd⟩, by show a.bars.length + 1 - (i + 1) < a.bars.length + 1 - i; omega, ⟨rfl, rfl, rfl, rfl, rfl, True.intro⟩, rfl⟩
    · repeat' (first | refine AOps.q rfl rfl rfl (fun hg => by first | exact iX encRow t ((i : Nat) : Int) hr' (hb := by omega) | exact std0 | exact std1) (by exact rfl) ?_ | refine AWP.seq ?_ | refine AWP.regionK (fun K' hK => ?_) | (refine AOps.nil (hK _ _ ?_); clear hK K') | (refine AWP.condW rfl True.intro (fun hc => ?_) (fun hc => ?_) <;> (first | (simp only [dEt] at hc) | (simp only [dEf, iNl, iNe] at hc) | skip)) | refine AWP.block ?_ | refine AWP.exit ?_ | refine AWP.skip ?_ | refine AWP.ret ?_)
      all_goals (first | (exfalso; omega) | (exfalso; simp at hc; done) | (exfalso; simp at hc; omega) | (exfalso; simp only [dEf, dEt] at hc; omega) | (rename_i h0; exfalso; simp at h0; done) | (rename_i h0; exfalso; simp at h0; omega) | skip)
      exact ⟨.inr rfl, _, PairS o0 o1 o2 a b al kn1, isTab_no hkn hlen (hT.trans (visT_bad hlt (by rw [hr]; exact hrl))), rfl, Nat.le_refl _, pairS_ok h3 (Nat.le_refl _) a b al _, rfl, rfl⟩
  · obtain rfl : i = a.bars.length + 1 := by omega
    rw [Nat.sub_self] at hT
    obtain ⟨q, hq⟩ : ∃ q, t.getD 0 [] = q := ⟨_, rfl⟩
    have hq1 := (hRs 0 (Nat.succ_pos _)).1
    rw [hq] at hq1
    obtain ⟨v, hv⟩ : ∃ v, q.getD 0 0 = v := ⟨_, rfl⟩
    obtain ⟨h1, h2⟩ := tab_is hkn hlen hT
    repeat' (first | refine AOps.q rfl rfl rfl (fun hg => by first | exact iX encI q (0 : Int) hv (hb := by omega) | exact iX encRow t (0 : Int) hq (hb := by omega) | exact std0 | exact std1) (by exact rfl) ?_ | refine AWP.seq ?_ | refine AWP.regionK (fun K' hK => ?_) | (refine AOps.nil (hK _ _ ?_); clear hK K') | (refine AWP.condW rfl True.intro (fun hc => ?_) (fun hc => ?_) <;> (first | (simp only [dEt] at hc) | (simp only [dEf, iNl, iNe] at hc) | skip)) | refine AWP.block ?_ | refine AWP.exit ?_ | refine AWP.skip ?_ | refine AWP.ret ?_)
    all_goals (first | (exfalso; omega) | (exfalso; simp at hc; done) | (exfalso; simp at hc; omega) | (exfalso; simp only [dEf, dEt] at hc; omega) | (rename_i h0; exfalso; simp at h0; done) | (rename_i h0; exfalso; simp at h0; omega) | skip)
    refine ⟨.inr rfl, _, PairS o0 o1 o2 a b al kn1, ⟨?_, by rw [h1]⟩, rfl, Nat.le_refl _, pairS_ok h3 (Nat.le_refl _) a b al _, rfl, rfl⟩
    rw [h2, show get2 t 0 0 = v by rw [← hv, ← hq]; rfl]; rfl
end Go.Proofs.YtekfpcgagoidcaaGreatDoor.Al

