/- Contracts by content: ratio.Valid, Compare; meter.isDuration, less; pitch; key.Fifths. No statement is proved here. -/
import Derived.Test.YtnmdmmfdnnmdfaaDoorCA
set_option linter.unusedVariables false
set_option linter.unusedSimpArgs false
namespace Go.Proofs.YtnmdmmfdnnmdfaaDoor
open Go.Ab
attribute [local irreducible] AWP AOps EStep AQ PStep PRun PCall TCall VCall

structure Rat where
  n : Int
  d : Int
  deriving DecidableEq, Inhabited
def encR (r : Rat) : List AV := [.int r.n, .int r.d]
def inB3 (n lo hi : Int) : Bool := decide (lo ≤ n) && decide (n ≤ hi)
/-- A fraction in lowest terms, not too large. -/
def ratOk (r : Rat) : Bool := decide (1 ≤ r.d) && decide (r.d ≤ 1000000) && decide (-1000000000 ≤ r.n) && decide (r.n ≤ 1000000000) && (Int.gcd r.n r.d == 1)
theorem ratOk_iff {r : Rat} : ratOk r = true ↔ 1 ≤ r.d ∧ r.d ≤ 1000000 ∧ -1000000000 ≤ r.n ∧ r.n ≤ 1000000000 ∧ Int.gcd r.n r.d = 1 := by
  simp [ratOk, and_assoc]
theorem fl129 : flatOf Tryd.prog 155 = some [.int .i64, .int .i64] := by kernel_rfl

theorem redG_one {n d : Int} (hd : 1 ≤ d) : (n.tdiv (redG n d) = n ∧ d.tdiv (redG n d) = d) ↔ Int.gcd n d = 1 := by
  have h0 : 0 < Int.gcd n d := Int.gcd_pos_of_ne_zero_right n (by omega)
  have e : redG n d = (Int.gcd n d : Int) := by unfold redG; rw [if_neg (by omega)]
  rw [e]
  constructor
  · rintro ⟨_, h2⟩
    rcases Nat.lt_or_ge 1 (Int.gcd n d) with h | h
    · exfalso
      rw [Int.tdiv_eq_ediv_of_nonneg (by omega)] at h2
      have h3 := Int.ediv_lt_of_lt_mul (a := d) (b := d) (c := (Int.gcd n d : Int)) (by omega) (by
        have : d * 1 < d * (Int.gcd n d : Int) := Int.mul_lt_mul_of_pos_left (by omega) (by omega)
        omega)
      omega
    · omega
  · intro h; rw [h]; simp

theorem rvalid_spec (r : Rat) : PCall Tryd.prog 104 [.agg (encR r)] (.b (ratOk r)) := by
  by_cases hb : 1 ≤ r.d ∧ r.d ≤ 1000000 ∧ -1000000000 ≤ r.n ∧ r.n ≤ 1000000000
  · have h1 := reduced_spec r.n r.d ⟨by omega, by omega⟩ ⟨by omega, by omega⟩ (by omega)
    refine PCall.body Tryd.func104 rfl rfl Tryd.ntmps104 rfl rfl ?_
    repeat' (first | refine AOps.q rfl rfl rfl (fun hg => by first | exact std0 | exact PRun.callW (h1) rfl rfl nd rfl nds | exact PRun.buildW tabOk rfl rfl nds | exact PRun.eqS fl129 rfl rfl nd rfl nd rfl | exact std1) (by exact rfl) ?_ | refine AWP.seq ?_ | refine AWP.regionK (fun K' hK => ?_) | (refine AOps.nil (hK _ _ ?_); clear hK K') | refine AOps.e (EStep.boxW rfl rfl rfl rfl rfl True.intro rfl rfl ?_) | refine AOps.e (EStep.storeW tabOk rfl rfl rfl True.intro rfl rfl True.intro rfl rfl rfl rfl rfl rfl rfl ?_) | refine AOps.e (EStep.allocW tabOk rfl rfl rfl rfl rfl rfl ?_) | (refine AWP.condW rfl True.intro (fun hc => ?_) (fun hc => ?_) <;> (first | (simp only [decide_eq_true_eq] at hc) | (simp only [decide_eq_false_iff_not, Int.not_lt, Int.not_le] at hc) | skip)) | refine AWP.block ?_ | refine AWP.exit ?_ | refine AWP.skip ?_ | refine AWP.ret ?_ | refine AWP.drawK2 (by decide +kernel) (by kernel_rfl) (by decide +kernel) rfl (fun K' hK => ?_) | refine AWP.drawL2 (by kernel_rfl) (by decide +kernel) rfl (fun K' hK => ?_) | (refine AQ.nil (hK _ ?_); clear hK K') | refine AQ.nil ?_ | refine AQ.q rfl rfl (fun hg => by first | exact std0 | exact PRun.callW (h1) rfl rfl nd rfl nds | exact PRun.buildW tabOk rfl rfl nds | exact PRun.eqS fl129 rfl rfl nd rfl nd rfl | exact std1) (by exact rfl) ?_)
    · exfalso; simp at hc; omega
    · refine ⟨.inr rfl, Ent.b ?_⟩
      have h2 := redG_one (n := r.n) (d := r.d) hb.1
      rw [Bool.eq_iff_iff, ratOk_iff]
      constructor
      · intro h
        exact ⟨hb.1, hb.2.1, hb.2.2.1, hb.2.2.2, h2.1 (by simpa using h)⟩
      · intro h
        have := h2.2 h.2.2.2.2
        simp [this]
  · refine PCall.body Tryd.func104 rfl rfl Tryd.ntmps104 rfl rfl ?_
    repeat' (first | refine AOps.q rfl rfl rfl (fun hg => by first | exact std0 | exact std1) (by exact rfl) ?_ | refine AWP.seq ?_ | refine AWP.regionK (fun K' hK => ?_) | (refine AOps.nil (hK _ _ ?_); clear hK K') | refine AOps.e (EStep.boxW rfl rfl rfl rfl rfl True.intro rfl rfl ?_) | refine AOps.e (EStep.storeW tabOk rfl rfl rfl True.intro rfl rfl True.intro rfl rfl rfl rfl rfl rfl rfl ?_) | refine AOps.e (EStep.allocW tabOk rfl rfl rfl rfl rfl rfl ?_) | (refine AWP.condW rfl True.intro (fun hc => ?_) (fun hc => ?_) <;> (first | (simp only [decide_eq_true_eq] at hc) | (simp only [decide_eq_false_iff_not, Int.not_lt, Int.not_le] at hc) | skip)) | refine AWP.block ?_ | refine AWP.exit ?_ | refine AWP.skip ?_ | refine AWP.ret ?_ | refine AWP.drawK2 (by decide +kernel) (by kernel_rfl) (by decide +kernel) rfl (fun K' hK => ?_) | refine AWP.drawL2 (by kernel_rfl) (by decide +kernel) rfl (fun K' hK => ?_) | (refine AQ.nil (hK _ ?_); clear hK K') | refine AQ.nil ?_ | refine AQ.q rfl rfl (fun hg => by first | exact std0 | exact std1) (by exact rfl) ?_)
    · refine ⟨.inr rfl, Ent.b ?_⟩
      cases h : ratOk r with
      | false => rfl
      | true => rw [ratOk_iff] at h; omega
    all_goals (exfalso; simp at hc; omega)

theorem mul_in {x y A B : Int} (h1 : -A ≤ x ∧ x ≤ A) (h2 : 0 ≤ y ∧ y ≤ B) : -(A * B) ≤ x * y ∧ x * y ≤ A * B := by
  have hA : 0 ≤ A := by omega
  have a1 := Int.mul_le_mul_of_nonneg_right h1.2 h2.1
  have a2 := Int.mul_le_mul_of_nonneg_right h1.1 h2.1
  have a3 := Int.mul_le_mul_of_nonneg_left h2.2 hA
  rw [Int.neg_mul] at a2
  omega

/-- The sign of the difference, and the error. -/
def ratCmp (a b : Rat) : Int × Int := if ratOk a && ratOk b then (if a.n * b.d < b.n * a.d then (-1, 0) else if a.n * b.d > b.n * a.d then (1, 0) else (0, 0)) else (0, 1)
theorem compare_spec (a b : Rat) : PCall Tryd.prog 118 [.agg (encR a), .agg (encR b)] (.tup [.int (ratCmp a b).1, .int (ratCmp a b).2]) := by
  have va := rvalid_spec a
  have vb := rvalid_spec b
  refine PCall.body Tryd.func118 rfl rfl Tryd.ntmps118 rfl rfl ?_
  by_cases h : ratOk a = true ∧ ratOk b = true
  · have ha := ratOk_iff.1 h.1
    have hb := ratOk_iff.1 h.2
    have q1 := mul_in (x := a.n) (y := b.d) (A := 1000000000) (B := 1000000) (by omega) (by omega)
    have q2 := mul_in (x := b.n) (y := a.d) (A := 1000000000) (B := 1000000) (by omega) (by omega)
    repeat' (first | refine AOps.q rfl rfl rfl (fun hg => by first | exact std0 | exact PRun.callW (va) rfl rfl nd rfl nds | exact PRun.callW (vb) rfl rfl nd rfl nds | exact std1) (by exact rfl) ?_ | refine AWP.seq ?_ | refine AWP.regionK (fun K' hK => ?_) | (refine AOps.nil (hK _ _ ?_); clear hK K') | refine AOps.e (EStep.boxW rfl rfl rfl rfl rfl True.intro rfl rfl ?_) | refine AOps.e (EStep.storeW tabOk rfl rfl rfl True.intro rfl rfl True.intro rfl rfl rfl rfl rfl rfl rfl ?_) | refine AOps.e (EStep.allocW tabOk rfl rfl rfl rfl rfl rfl ?_) | (refine AWP.condW rfl True.intro (fun hc => ?_) (fun hc => ?_) <;> (first | (simp only [decide_eq_true_eq] at hc) | (simp only [decide_eq_false_iff_not, Int.not_lt, Int.not_le] at hc) | skip)) | refine AWP.block ?_ | refine AWP.exit ?_ | refine AWP.skip ?_ | refine AWP.ret ?_ | refine AWP.drawK2 (by decide +kernel) (by kernel_rfl) (by decide +kernel) rfl (fun K' hK => ?_) | refine AWP.drawL2 (by kernel_rfl) (by decide +kernel) rfl (fun K' hK => ?_) | (refine AQ.nil (hK _ ?_); clear hK K') | refine AQ.nil ?_ | refine AQ.q rfl rfl (fun hg => by first | exact std0 | exact PRun.callW (va) rfl rfl nd rfl nds | exact PRun.callW (vb) rfl rfl nd rfl nds | exact std1) (by exact rfl) ?_)
    · exfalso; simp [h.1, h.2] at hc
    all_goals (refine ⟨.inr rfl, Ent.of ?_⟩)
    · rw [show ratCmp a b = (-1, 0) from by unfold ratCmp; rw [if_pos (by simp [h]), if_pos hc]]; rfl
    · rename_i hc0
      rw [show ratCmp a b = (1, 0) from by unfold ratCmp; rw [if_pos (by simp [h]), if_neg (by omega), if_pos hc]]; rfl
    · rename_i hc0
      rw [show ratCmp a b = (0, 0) from by unfold ratCmp; rw [if_pos (by simp [h]), if_neg (by omega), if_neg (by omega)]]; rfl
  · have e : (ratOk a && ratOk b) = false := by cases ha : ratOk a <;> cases hb : ratOk b <;> simp_all
    repeat' (first | refine AOps.q rfl rfl rfl (fun hg => by first | exact std0 | exact PRun.callW (va) rfl rfl nd rfl nds | exact PRun.callW (vb) rfl rfl nd rfl nds | exact std1) (by exact rfl) ?_ | refine AWP.seq ?_ | refine AWP.regionK (fun K' hK => ?_) | (refine AOps.nil (hK _ _ ?_); clear hK K') | refine AOps.e (EStep.boxW rfl rfl rfl rfl rfl True.intro rfl rfl ?_) | refine AOps.e (EStep.storeW tabOk rfl rfl rfl True.intro rfl rfl True.intro rfl rfl rfl rfl rfl rfl rfl ?_) | refine AOps.e (EStep.allocW tabOk rfl rfl rfl rfl rfl rfl ?_) | (refine AWP.condW rfl True.intro (fun hc => ?_) (fun hc => ?_) <;> (first | (simp only [decide_eq_true_eq] at hc) | (simp only [decide_eq_false_iff_not, Int.not_lt, Int.not_le] at hc) | skip)) | refine AWP.block ?_ | refine AWP.exit ?_ | refine AWP.skip ?_ | refine AWP.ret ?_ | (refine AQ.nil (hK _ ?_); clear hK K') | refine AQ.nil ?_ | refine AQ.q rfl rfl (fun hg => by first | exact std0 | exact PRun.callW (va) rfl rfl nd rfl nds | exact PRun.callW (vb) rfl rfl nd rfl nds | exact std1) (by exact rfl) ?_)
    · refine ⟨.inr rfl, Ent.of ?_⟩
      rw [show ratCmp a b = (0, 1) from by unfold ratCmp; rw [e]; rfl]; rfl
    · exfalso; revert hc; cases ha : ratOk a <;> cases hb : ratOk b <;> simp_all

def durOk (r : Rat) : Bool := ratOk r && decide (0 ≤ r.n) && (Int.tmod 1680 r.d == 0)
theorem isDuration_spec (r : Rat) : PCall Tryd.prog 93 [.agg (encR r)] (.b (durOk r)) := by
  have v := rvalid_spec r
  have hd : ratOk r = true → r.d ≠ 0 := fun h => by have := ratOk_iff.1 h; omega
  refine PCall.body Tryd.func93 rfl rfl Tryd.ntmps93 rfl rfl ?_
  repeat' (first | refine AOps.q rfl rfl rfl (fun hg => by first | exact std0 | exact PRun.callW (v) rfl rfl nd rfl nds | exact std1) (by exact rfl) ?_ | refine AWP.seq ?_ | refine AWP.regionK (fun K' hK => ?_) | (refine AOps.nil (hK _ _ ?_); clear hK K') | refine AOps.e (EStep.boxW rfl rfl rfl rfl rfl True.intro rfl rfl ?_) | refine AOps.e (EStep.storeW tabOk rfl rfl rfl True.intro rfl rfl True.intro rfl rfl rfl rfl rfl rfl rfl ?_) | refine AOps.e (EStep.allocW tabOk rfl rfl rfl rfl rfl rfl ?_) | (refine AWP.condW rfl True.intro (fun hc => ?_) (fun hc => ?_) <;> (first | (simp only [decide_eq_true_eq] at hc) | (simp only [decide_eq_false_iff_not, Int.not_lt, Int.not_le] at hc) | skip)) | refine AWP.block ?_ | refine AWP.exit ?_ | refine AWP.skip ?_ | refine AWP.ret ?_ | refine AWP.drawK2 (by decide +kernel) (by kernel_rfl) (by decide +kernel) rfl (fun K' hK => ?_) | refine AWP.drawL2 (by kernel_rfl) (by decide +kernel) rfl (fun K' hK => ?_) | (refine AQ.nil (hK _ ?_); clear hK K') | refine AQ.nil ?_ | refine AQ.q rfl rfl (fun hg => by first | exact std0 | exact PRun.callW (v) rfl rfl nd rfl nds | exact std1) (by exact rfl) ?_)
  exact ⟨.inr rfl, Ent.b rfl⟩
theorem less_spec (a b : Rat) : PCall Tryd.prog 94 [.agg (encR a), .agg (encR b)] (.b (decide ((ratCmp a b).1 < 0))) := by
  have v := compare_spec a b
  refine PCall.body Tryd.func94 rfl rfl Tryd.ntmps94 rfl rfl ?_
  repeat' (first | refine AOps.q rfl rfl rfl (fun hg => by first | exact std0 | exact PRun.callW (v) rfl rfl nd rfl nds | exact std1) (by exact rfl) ?_ | refine AWP.seq ?_ | refine AWP.regionK (fun K' hK => ?_) | (refine AOps.nil (hK _ _ ?_); clear hK K') | refine AOps.e (EStep.boxW rfl rfl rfl rfl rfl True.intro rfl rfl ?_) | refine AOps.e (EStep.storeW tabOk rfl rfl rfl True.intro rfl rfl True.intro rfl rfl rfl rfl rfl rfl rfl ?_) | refine AOps.e (EStep.allocW tabOk rfl rfl rfl rfl rfl rfl ?_) | (refine AWP.condW rfl True.intro (fun hc => ?_) (fun hc => ?_) <;> (first | (simp only [decide_eq_true_eq] at hc) | (simp only [decide_eq_false_iff_not, Int.not_lt, Int.not_le] at hc) | skip)) | refine AWP.block ?_ | refine AWP.exit ?_ | refine AWP.skip ?_ | refine AWP.ret ?_ | refine AWP.drawK2 (by decide +kernel) (by kernel_rfl) (by decide +kernel) rfl (fun K' hK => ?_) | refine AWP.drawL2 (by kernel_rfl) (by decide +kernel) rfl (fun K' hK => ?_) | (refine AQ.nil (hK _ ?_); clear hK K') | refine AQ.nil ?_ | refine AQ.q rfl rfl (fun hg => by first | exact std0 | exact PRun.callW (v) rfl rfl nd rfl nds | exact std1) (by exact rfl) ?_)
  exact ⟨.inr rfl, Ent.b rfl⟩

structure Pitch where
  step : Int
  alter : Int
  oct : Int
  deriving DecidableEq, Inhabited
def encPi (p : Pitch) : List AV := [.int p.step, .int p.alter, .int p.oct]
theorem pwithin_spec (a b c : Int) : PCall Tryd.prog 139 [.int a, .int b, .int c] (.b (inB a b c)) := by
  refine PCall.body Tryd.func139 rfl rfl Tryd.ntmps139 rfl rfl ?_
  repeat' (first | refine AOps.q rfl rfl rfl (fun hg => by first | exact std0 | exact std1) (by exact rfl) ?_ | refine AWP.seq ?_ | refine AWP.regionK (fun K' hK => ?_) | (refine AOps.nil (hK _ _ ?_); clear hK K') | refine AOps.e (EStep.boxW rfl rfl rfl rfl rfl True.intro rfl rfl ?_) | refine AOps.e (EStep.storeW tabOk rfl rfl rfl True.intro rfl rfl True.intro rfl rfl rfl rfl rfl rfl rfl ?_) | refine AOps.e (EStep.allocW tabOk rfl rfl rfl rfl rfl rfl ?_) | (refine AWP.condW rfl True.intro (fun hc => ?_) (fun hc => ?_) <;> (first | (simp only [decide_eq_true_eq] at hc) | (simp only [decide_eq_false_iff_not, Int.not_lt, Int.not_le] at hc) | skip)) | refine AWP.block ?_ | refine AWP.exit ?_ | refine AWP.skip ?_ | refine AWP.ret ?_ | refine AWP.drawK2 (by decide +kernel) (by kernel_rfl) (by decide +kernel) rfl (fun K' hK => ?_) | refine AWP.drawL2 (by kernel_rfl) (by decide +kernel) rfl (fun K' hK => ?_) | (refine AQ.nil (hK _ ?_); clear hK K') | refine AQ.nil ?_ | refine AQ.q rfl rfl (fun hg => by first | exact std0 | exact std1) (by exact rfl) ?_)
  exact ⟨.inr rfl, Ent.b rfl⟩
def pitchOk (p : Pitch) : Bool := inB p.step 0 6 && inB p.alter (-4) 4 && inB p.oct (-8) 20
theorem pvalid_spec (p : Pitch) : PCall Tryd.prog 116 [.agg (encPi p)] (.b (pitchOk p)) := by
  refine PCall.body Tryd.func116 rfl rfl Tryd.ntmps116 rfl rfl ?_
  repeat' (first | refine AOps.q rfl rfl rfl (fun hg => by first | exact std0 | exact PRun.callW (pwithin_spec _ _ _) rfl rfl nd rfl nds | exact std1) (by exact rfl) ?_ | refine AWP.seq ?_ | refine AWP.regionK (fun K' hK => ?_) | (refine AOps.nil (hK _ _ ?_); clear hK K') | refine AOps.e (EStep.boxW rfl rfl rfl rfl rfl True.intro rfl rfl ?_) | refine AOps.e (EStep.storeW tabOk rfl rfl rfl True.intro rfl rfl True.intro rfl rfl rfl rfl rfl rfl rfl ?_) | refine AOps.e (EStep.allocW tabOk rfl rfl rfl rfl rfl rfl ?_) | (refine AWP.condW rfl True.intro (fun hc => ?_) (fun hc => ?_) <;> (first | (simp only [decide_eq_true_eq] at hc) | (simp only [decide_eq_false_iff_not, Int.not_lt, Int.not_le] at hc) | skip)) | refine AWP.block ?_ | refine AWP.exit ?_ | refine AWP.skip ?_ | refine AWP.ret ?_ | refine AWP.drawK2 (by decide +kernel) (by kernel_rfl) (by decide +kernel) rfl (fun K' hK => ?_) | refine AWP.drawL2 (by kernel_rfl) (by decide +kernel) rfl (fun K' hK => ?_) | (refine AQ.nil (hK _ ?_); clear hK K') | refine AQ.nil ?_ | refine AQ.q rfl rfl (fun hg => by first | exact std0 | exact PRun.callW (pwithin_spec _ _ _) rfl rfl nd rfl nds | exact std1) (by exact rfl) ?_)
  exact ⟨.inr rfl, Ent.b rfl⟩
def nat7 : List Int := [0, 2, 4, 5, 7, 9, 11]
def pitchNum (p : Pitch) : Int := 12 * p.oct + nat7.getD p.step.toNat 0 + p.alter
theorem nat7_in (n : Nat) : 0 ≤ nat7.getD n 0 ∧ nat7.getD n 0 ≤ 11 := by
  match n with
  | 0 | 1 | 2 | 3 | 4 | 5 | 6 => decide
  | n + 7 => simp [nat7]
theorem pitchOk_iff {p : Pitch} : pitchOk p = true ↔ (0 ≤ p.step ∧ p.step ≤ 6) ∧ (-4 ≤ p.alter ∧ p.alter ≤ 4) ∧ -8 ≤ p.oct ∧ p.oct ≤ 20 := by
  simp [pitchOk, inB, and_assoc]
theorem pnumber_spec (p : Pitch) (h : pitchOk p = true) : PCall Tryd.prog 117 [.agg (encPi p)] (.int (pitchNum p)) := by
  have h1 := pitchOk_iff.1 h
  have h2 := nat7_in p.step.toNat
  have hl : (nat7.length : Int) = 7 := rfl
  have hix : 0 ≤ p.step ∧ p.step < nat7.length := ⟨by omega, by omega⟩
  refine PCall.body Tryd.func117 rfl rfl Tryd.ntmps117 rfl rfl ?_
  repeat' (first | refine AOps.q rfl rfl rfl (fun hg => by first | exact std0 | exact PRun.indexInts nat7 tabOk rfl rfl nd rfl nd rfl rfl rfl hix | exact std1) (by exact rfl) ?_ | refine AWP.seq ?_ | refine AWP.regionK (fun K' hK => ?_) | (refine AOps.nil (hK _ _ ?_); clear hK K') | refine AOps.e (EStep.boxW rfl rfl rfl rfl rfl True.intro rfl rfl ?_) | refine AOps.e (EStep.storeW tabOk rfl rfl rfl True.intro rfl rfl True.intro rfl rfl rfl rfl rfl rfl rfl ?_) | refine AOps.e (EStep.allocW tabOk rfl rfl rfl rfl rfl rfl ?_) | (refine AWP.condW rfl True.intro (fun hc => ?_) (fun hc => ?_) <;> (first | (simp only [decide_eq_true_eq] at hc) | (simp only [decide_eq_false_iff_not, Int.not_lt, Int.not_le] at hc) | skip)) | refine AWP.block ?_ | refine AWP.exit ?_ | refine AWP.skip ?_ | refine AWP.ret ?_ | refine AWP.drawK2 (by decide +kernel) (by kernel_rfl) (by decide +kernel) rfl (fun K' hK => ?_) | refine AWP.drawL2 (by kernel_rfl) (by decide +kernel) rfl (fun K' hK => ?_) | (refine AQ.nil (hK _ ?_); clear hK K') | refine AQ.nil ?_ | refine AQ.q rfl rfl (fun hg => by first | exact std0 | exact PRun.indexInts nat7 tabOk rfl rfl nd rfl nd rfl rfl rfl hix | exact std1) (by exact rfl) ?_)
  exact ⟨.inr rfl, Ent.int rfl⟩
def numR2 (p : Pitch) : Int × Int := if pitchOk p then (pitchNum p, 0) else (0, 1)
theorem pNumber_spec (p : Pitch) : PCall Tryd.prog 91 [.agg (encPi p)] (.tup [.int (numR2 p).1, .int (numR2 p).2]) := by
  have v := pvalid_spec p
  refine PCall.body Tryd.func91 rfl rfl Tryd.ntmps91 rfl rfl ?_
  by_cases h : pitchOk p = true
  · have w := pnumber_spec p h
    repeat' (first | refine AOps.q rfl rfl rfl (fun hg => by first | exact std0 | exact PRun.callW (v) rfl rfl nd rfl nds | exact PRun.callW (w) rfl rfl nd rfl nds | exact std1) (by exact rfl) ?_ | refine AWP.seq ?_ | refine AWP.regionK (fun K' hK => ?_) | (refine AOps.nil (hK _ _ ?_); clear hK K') | refine AOps.e (EStep.boxW rfl rfl rfl rfl rfl True.intro rfl rfl ?_) | refine AOps.e (EStep.storeW tabOk rfl rfl rfl True.intro rfl rfl True.intro rfl rfl rfl rfl rfl rfl rfl ?_) | refine AOps.e (EStep.allocW tabOk rfl rfl rfl rfl rfl rfl ?_) | (refine AWP.condW rfl True.intro (fun hc => ?_) (fun hc => ?_) <;> (first | (simp only [decide_eq_true_eq] at hc) | (simp only [decide_eq_false_iff_not, Int.not_lt, Int.not_le] at hc) | skip)) | refine AWP.block ?_ | refine AWP.exit ?_ | refine AWP.skip ?_ | refine AWP.ret ?_ | refine AWP.drawK2 (by decide +kernel) (by kernel_rfl) (by decide +kernel) rfl (fun K' hK => ?_) | refine AWP.drawL2 (by kernel_rfl) (by decide +kernel) rfl (fun K' hK => ?_) | (refine AQ.nil (hK _ ?_); clear hK K') | refine AQ.nil ?_ | refine AQ.q rfl rfl (fun hg => by first | exact std0 | exact PRun.callW (v) rfl rfl nd rfl nds | exact PRun.callW (w) rfl rfl nd rfl nds | exact std1) (by exact rfl) ?_)
    · exfalso; simp [h] at hc
    · refine ⟨.inr rfl, Ent.of ?_⟩
      rw [show numR2 p = (pitchNum p, 0) from by unfold numR2; rw [if_pos h]]; rfl
  · repeat' (first | refine AOps.q rfl rfl rfl (fun hg => by first | exact std0 | exact PRun.callW (v) rfl rfl nd rfl nds | exact std1) (by exact rfl) ?_ | refine AWP.seq ?_ | refine AWP.regionK (fun K' hK => ?_) | (refine AOps.nil (hK _ _ ?_); clear hK K') | refine AOps.e (EStep.boxW rfl rfl rfl rfl rfl True.intro rfl rfl ?_) | refine AOps.e (EStep.storeW tabOk rfl rfl rfl True.intro rfl rfl True.intro rfl rfl rfl rfl rfl rfl rfl ?_) | refine AOps.e (EStep.allocW tabOk rfl rfl rfl rfl rfl rfl ?_) | (refine AWP.condW rfl True.intro (fun hc => ?_) (fun hc => ?_) <;> (first | (simp only [decide_eq_true_eq] at hc) | (simp only [decide_eq_false_iff_not, Int.not_lt, Int.not_le] at hc) | skip)) | refine AWP.block ?_ | refine AWP.exit ?_ | refine AWP.skip ?_ | refine AWP.ret ?_ | refine AWP.drawK2 (by decide +kernel) (by kernel_rfl) (by decide +kernel) rfl (fun K' hK => ?_) | refine AWP.drawL2 (by kernel_rfl) (by decide +kernel) rfl (fun K' hK => ?_) | (refine AQ.nil (hK _ ?_); clear hK K') | refine AQ.nil ?_ | refine AQ.q rfl rfl (fun hg => by first | exact std0 | exact PRun.callW (v) rfl rfl nd rfl nds | exact std1) (by exact rfl) ?_)
    · refine ⟨.inr rfl, Ent.of ?_⟩
      rw [show numR2 p = (0, 1) from by unfold numR2; rw [if_neg h]]; rfl
    · exfalso; simp [h] at hc

structure Interval where
  steps : Int
  semi : Int
  deriving DecidableEq, Inhabited
def encI (i : Interval) : List AV := [.int i.steps, .int i.semi]
def intervalOk (i : Interval) : Bool := inB i.steps (-70) 70 && inB i.semi (-120) 120
theorem pformed_spec (i : Interval) : PCall Tryd.prog 154 [.agg (encI i)] (.b (intervalOk i)) := by
  refine PCall.body Tryd.func154 rfl rfl Tryd.ntmps154 rfl rfl ?_
  repeat' (first | refine AOps.q rfl rfl rfl (fun hg => by first | exact std0 | exact PRun.callW (pwithin_spec _ _ _) rfl rfl nd rfl nds | exact std1) (by exact rfl) ?_ | refine AWP.seq ?_ | refine AWP.regionK (fun K' hK => ?_) | (refine AOps.nil (hK _ _ ?_); clear hK K') | refine AOps.e (EStep.boxW rfl rfl rfl rfl rfl True.intro rfl rfl ?_) | refine AOps.e (EStep.storeW tabOk rfl rfl rfl True.intro rfl rfl True.intro rfl rfl rfl rfl rfl rfl rfl ?_) | refine AOps.e (EStep.allocW tabOk rfl rfl rfl rfl rfl rfl ?_) | (refine AWP.condW rfl True.intro (fun hc => ?_) (fun hc => ?_) <;> (first | (simp only [decide_eq_true_eq] at hc) | (simp only [decide_eq_false_iff_not, Int.not_lt, Int.not_le] at hc) | skip)) | refine AWP.block ?_ | refine AWP.exit ?_ | refine AWP.skip ?_ | refine AWP.ret ?_ | refine AWP.drawK2 (by decide +kernel) (by kernel_rfl) (by decide +kernel) rfl (fun K' hK => ?_) | refine AWP.drawL2 (by kernel_rfl) (by decide +kernel) rfl (fun K' hK => ?_) | (refine AQ.nil (hK _ ?_); clear hK K') | refine AQ.nil ?_ | refine AQ.q rfl rfl (fun hg => by first | exact std0 | exact PRun.callW (pwithin_spec _ _ _) rfl rfl nd rfl nds | exact std1) (by exact rfl) ?_)
  exact ⟨.inr rfl, Ent.b rfl⟩
def backR (i : Interval) : Interval × Int := if intervalOk i then (⟨-i.steps, -i.semi⟩, 0) else (⟨0, 0⟩, 1)
theorem intervalOk_iff {i : Interval} : intervalOk i = true ↔ (-70 ≤ i.steps ∧ i.steps ≤ 70) ∧ -120 ≤ i.semi ∧ i.semi ≤ 120 := by simp [intervalOk, inB, and_assoc]
theorem back_spec (i : Interval) : PCall Tryd.prog 153 [.agg (encI i)] (.tup [.agg (encI (backR i).1), .int (backR i).2]) := by
  have v := pformed_spec i
  refine PCall.bodyS tabOk Tryd.func153 rfl rfl Tryd.ntmps153 rfl ?_
  by_cases h : intervalOk i = true
  · have h1 := intervalOk_iff.1 h
    repeat' (first | refine AOps.q rfl rfl rfl (fun hg => by first | exact std0 | exact PRun.callW (v) rfl rfl nd rfl nds | exact PRun.buildW tabOk rfl rfl nds | exact std1) (by exact rfl) ?_ | refine AWP.seq ?_ | refine AWP.regionK (fun K' hK => ?_) | (refine AOps.nil (hK _ _ ?_); clear hK K') | refine AOps.e (EStep.boxW rfl rfl rfl rfl rfl True.intro rfl rfl ?_) | refine AOps.e (EStep.storeW tabOk rfl rfl rfl True.intro rfl rfl True.intro rfl rfl rfl rfl rfl rfl rfl ?_) | refine AOps.e (EStep.allocW tabOk rfl rfl rfl rfl rfl rfl ?_) | (refine AWP.condW rfl True.intro (fun hc => ?_) (fun hc => ?_) <;> (first | (simp only [decide_eq_true_eq] at hc) | (simp only [decide_eq_false_iff_not, Int.not_lt, Int.not_le] at hc) | skip)) | refine AWP.block ?_ | refine AWP.exit ?_ | refine AWP.skip ?_ | refine AWP.ret ?_ | refine AWP.drawK2 (by decide +kernel) (by kernel_rfl) (by decide +kernel) rfl (fun K' hK => ?_) | refine AWP.drawL2 (by kernel_rfl) (by decide +kernel) rfl (fun K' hK => ?_) | (refine AQ.nil (hK _ ?_); clear hK K') | refine AQ.nil ?_ | refine AQ.q rfl rfl (fun hg => by first | exact std0 | exact PRun.callW (v) rfl rfl nd rfl nds | exact PRun.buildW tabOk rfl rfl nds | exact std1) (by exact rfl) ?_)
    · exfalso; simp [h] at hc
    · refine ⟨.inr rfl, _, rfl, Ent.of ?_⟩
      rw [show backR i = (⟨-i.steps, -i.semi⟩, 0) from by unfold backR; rw [if_pos h]]; rfl
  · repeat' (first | refine AOps.q rfl rfl rfl (fun hg => by first | exact std0 | exact PRun.callW (v) rfl rfl nd rfl nds | exact PRun.buildW tabOk rfl rfl nds | exact std1) (by exact rfl) ?_ | refine AWP.seq ?_ | refine AWP.regionK (fun K' hK => ?_) | (refine AOps.nil (hK _ _ ?_); clear hK K') | refine AOps.e (EStep.boxW rfl rfl rfl rfl rfl True.intro rfl rfl ?_) | refine AOps.e (EStep.storeW tabOk rfl rfl rfl True.intro rfl rfl True.intro rfl rfl rfl rfl rfl rfl rfl ?_) | refine AOps.e (EStep.allocW tabOk rfl rfl rfl rfl rfl rfl ?_) | (refine AWP.condW rfl True.intro (fun hc => ?_) (fun hc => ?_) <;> (first | (simp only [decide_eq_true_eq] at hc) | (simp only [decide_eq_false_iff_not, Int.not_lt, Int.not_le] at hc) | skip)) | refine AWP.block ?_ | refine AWP.exit ?_ | refine AWP.skip ?_ | refine AWP.ret ?_ | refine AWP.drawK2 (by decide +kernel) (by kernel_rfl) (by decide +kernel) rfl (fun K' hK => ?_) | refine AWP.drawL2 (by kernel_rfl) (by decide +kernel) rfl (fun K' hK => ?_) | (refine AQ.nil (hK _ ?_); clear hK K') | refine AQ.nil ?_ | refine AQ.q rfl rfl (fun hg => by first | exact std0 | exact PRun.callW (v) rfl rfl nd rfl nds | exact PRun.buildW tabOk rfl rfl nds | exact std1) (by exact rfl) ?_)
    · refine ⟨.inr rfl, _, rfl, Ent.of ?_⟩
      rw [show backR i = (⟨0, 0⟩, 1) from by unfold backR; rw [if_neg h]]; rfl
    all_goals (exfalso; simp [h] at hc)
theorem isInterval_spec (i : Interval) : PCall Tryd.prog 150 [.agg (encI i)] (.b (intervalOk i)) := by
  have v := back_spec i
  refine PCall.body Tryd.func150 rfl rfl Tryd.ntmps150 rfl rfl ?_
  repeat' (first | refine AOps.q rfl rfl rfl (fun hg => by first | exact std0 | exact PRun.callW (v) rfl rfl nd rfl nds | exact std1) (by exact rfl) ?_ | refine AWP.seq ?_ | refine AWP.regionK (fun K' hK => ?_) | (refine AOps.nil (hK _ _ ?_); clear hK K') | refine AOps.e (EStep.boxW rfl rfl rfl rfl rfl True.intro rfl rfl ?_) | refine AOps.e (EStep.storeW tabOk rfl rfl rfl True.intro rfl rfl True.intro rfl rfl rfl rfl rfl rfl rfl ?_) | refine AOps.e (EStep.allocW tabOk rfl rfl rfl rfl rfl rfl ?_) | (refine AWP.condW rfl True.intro (fun hc => ?_) (fun hc => ?_) <;> (first | (simp only [decide_eq_true_eq] at hc) | (simp only [decide_eq_false_iff_not, Int.not_lt, Int.not_le] at hc) | skip)) | refine AWP.block ?_ | refine AWP.exit ?_ | refine AWP.skip ?_ | refine AWP.ret ?_ | refine AWP.drawK2 (by decide +kernel) (by kernel_rfl) (by decide +kernel) rfl (fun K' hK => ?_) | refine AWP.drawL2 (by kernel_rfl) (by decide +kernel) rfl (fun K' hK => ?_) | (refine AQ.nil (hK _ ?_); clear hK K') | refine AQ.nil ?_ | refine AQ.q rfl rfl (fun hg => by first | exact std0 | exact PRun.callW (v) rfl rfl nd rfl nds | exact std1) (by exact rfl) ?_)
  refine ⟨.inr rfl, Ent.b ?_⟩
  unfold backR
  cases h : intervalOk i <;> rfl
def fifthsR (i : Interval) : Int × Int := if intervalOk i then (7 * i.semi - 12 * i.steps, 0) else (0, 1)
theorem fifths_spec (i : Interval) : PCall Tryd.prog 143 [.agg (encI i)] (.tup [.int (fifthsR i).1, .int (fifthsR i).2]) := by
  have v := isInterval_spec i
  refine PCall.body Tryd.func143 rfl rfl Tryd.ntmps143 rfl rfl ?_
  by_cases h : intervalOk i = true
  · have h1 := intervalOk_iff.1 h
    repeat' (first | refine AOps.q rfl rfl rfl (fun hg => by first | exact std0 | exact PRun.callW (v) rfl rfl nd rfl nds | exact std1) (by exact rfl) ?_ | refine AWP.seq ?_ | refine AWP.regionK (fun K' hK => ?_) | (refine AOps.nil (hK _ _ ?_); clear hK K') | refine AOps.e (EStep.boxW rfl rfl rfl rfl rfl True.intro rfl rfl ?_) | refine AOps.e (EStep.storeW tabOk rfl rfl rfl True.intro rfl rfl True.intro rfl rfl rfl rfl rfl rfl rfl ?_) | refine AOps.e (EStep.allocW tabOk rfl rfl rfl rfl rfl rfl ?_) | (refine AWP.condW rfl True.intro (fun hc => ?_) (fun hc => ?_) <;> (first | (simp only [decide_eq_true_eq] at hc) | (simp only [decide_eq_false_iff_not, Int.not_lt, Int.not_le] at hc) | skip)) | refine AWP.block ?_ | refine AWP.exit ?_ | refine AWP.skip ?_ | refine AWP.ret ?_ | refine AWP.drawK2 (by decide +kernel) (by kernel_rfl) (by decide +kernel) rfl (fun K' hK => ?_) | refine AWP.drawL2 (by kernel_rfl) (by decide +kernel) rfl (fun K' hK => ?_) | (refine AQ.nil (hK _ ?_); clear hK K') | refine AQ.nil ?_ | refine AQ.q rfl rfl (fun hg => by first | exact std0 | exact PRun.callW (v) rfl rfl nd rfl nds | exact std1) (by exact rfl) ?_)
    · exfalso; simp [h] at hc
    · refine ⟨.inr rfl, Ent.of ?_⟩
      rw [show fifthsR i = (7 * i.semi - 12 * i.steps, 0) from by unfold fifthsR; rw [if_pos h]]; rfl
  · repeat' (first | refine AOps.q rfl rfl rfl (fun hg => by first | exact std0 | exact PRun.callW (v) rfl rfl nd rfl nds | exact std1) (by exact rfl) ?_ | refine AWP.seq ?_ | refine AWP.regionK (fun K' hK => ?_) | (refine AOps.nil (hK _ _ ?_); clear hK K') | refine AOps.e (EStep.boxW rfl rfl rfl rfl rfl True.intro rfl rfl ?_) | refine AOps.e (EStep.storeW tabOk rfl rfl rfl True.intro rfl rfl True.intro rfl rfl rfl rfl rfl rfl rfl ?_) | refine AOps.e (EStep.allocW tabOk rfl rfl rfl rfl rfl rfl ?_) | (refine AWP.condW rfl True.intro (fun hc => ?_) (fun hc => ?_) <;> (first | (simp only [decide_eq_true_eq] at hc) | (simp only [decide_eq_false_iff_not, Int.not_lt, Int.not_le] at hc) | skip)) | refine AWP.block ?_ | refine AWP.exit ?_ | refine AWP.skip ?_ | refine AWP.ret ?_ | refine AWP.drawK2 (by decide +kernel) (by kernel_rfl) (by decide +kernel) rfl (fun K' hK => ?_) | refine AWP.drawL2 (by kernel_rfl) (by decide +kernel) rfl (fun K' hK => ?_) | (refine AQ.nil (hK _ ?_); clear hK K') | refine AQ.nil ?_ | refine AQ.q rfl rfl (fun hg => by first | exact std0 | exact PRun.callW (v) rfl rfl nd rfl nds | exact std1) (by exact rfl) ?_)
    · refine ⟨.inr rfl, Ent.of ?_⟩
      rw [show fifthsR i = (0, 1) from by unfold fifthsR; rw [if_neg h]]; rfl
    all_goals (exfalso; simp [h] at hc)
end Go.Proofs.YtnmdmmfdnnmdfaaDoor
