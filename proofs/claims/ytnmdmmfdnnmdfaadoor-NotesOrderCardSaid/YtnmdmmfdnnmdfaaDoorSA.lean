/- Contracts by content: the reference of pitches, keys and bars. No statement is proved here. -/
import Derived.Test.YtnmdmmfdnnmdfaaDoorCD
set_option linter.unusedVariables false
set_option linter.unusedSimpArgs false
namespace Go.Proofs.YtnmdmmfdnnmdfaaDoor
open Go.Ab
attribute [local irreducible] AWP AOps EStep AQ PStep PRun PCall TCall VCall

theorem r2in_spec (a b c : Int) : PCall Tryd.prog 107 [.int a, .int b, .int c] (.b (inB a b c)) := by
  refine PCall.body Tryd.func107 rfl rfl Tryd.ntmps107 rfl rfl ?_
  repeat' (first | refine AOps.q rfl rfl rfl (fun hg => by first | exact std0 | exact std1) (by exact rfl) ?_ | refine AWP.seq ?_ | refine AWP.regionK (fun K' hK => ?_) | (refine AOps.nil (hK _ _ ?_); clear hK K') | refine AOps.e (EStep.boxW rfl rfl rfl rfl rfl True.intro rfl rfl ?_) | refine AOps.e (EStep.storeW tabOk rfl rfl rfl True.intro rfl rfl True.intro rfl rfl rfl rfl rfl rfl rfl ?_) | refine AOps.e (EStep.allocW tabOk rfl rfl rfl rfl rfl rfl ?_) | (refine AWP.condW rfl True.intro (fun hc => ?_) (fun hc => ?_) <;> (first | (simp only [decide_eq_true_eq] at hc) | (simp only [decide_eq_false_iff_not, Int.not_lt, Int.not_le] at hc) | skip)) | refine AWP.block ?_ | refine AWP.exit ?_ | refine AWP.skip ?_ | refine AWP.ret ?_ | refine AWP.drawK2 (by decide +kernel) (by kernel_rfl) (by decide +kernel) rfl (fun K' hK => ?_) | refine AWP.drawL2 (by kernel_rfl) (by decide +kernel) rfl (fun K' hK => ?_) | (refine AQ.nil (hK _ ?_); clear hK K') | refine AQ.nil ?_ | refine AQ.q rfl rfl (fun hg => by first | exact std0 | exact std1) (by exact rfl) ?_)
  exact ⟨.inr rfl, Ent.b rfl⟩
theorem r7in_spec (a b c : Int) : PCall Tryd.prog 59 [.int a, .int b, .int c] (.b (inB a b c)) := by
  refine PCall.body Tryd.func59 rfl rfl Tryd.ntmps59 rfl rfl ?_
  repeat' (first | refine AOps.q rfl rfl rfl (fun hg => by first | exact std0 | exact std1) (by exact rfl) ?_ | refine AWP.seq ?_ | refine AWP.regionK (fun K' hK => ?_) | (refine AOps.nil (hK _ _ ?_); clear hK K') | refine AOps.e (EStep.boxW rfl rfl rfl rfl rfl True.intro rfl rfl ?_) | refine AOps.e (EStep.storeW tabOk rfl rfl rfl True.intro rfl rfl True.intro rfl rfl rfl rfl rfl rfl rfl ?_) | refine AOps.e (EStep.allocW tabOk rfl rfl rfl rfl rfl rfl ?_) | (refine AWP.condW rfl True.intro (fun hc => ?_) (fun hc => ?_) <;> (first | (simp only [decide_eq_true_eq] at hc) | (simp only [decide_eq_false_iff_not, Int.not_lt, Int.not_le] at hc) | skip)) | refine AWP.block ?_ | refine AWP.exit ?_ | refine AWP.skip ?_ | refine AWP.ret ?_ | refine AWP.drawK2 (by decide +kernel) (by kernel_rfl) (by decide +kernel) rfl (fun K' hK => ?_) | refine AWP.drawL2 (by kernel_rfl) (by decide +kernel) rfl (fun K' hK => ?_) | (refine AQ.nil (hK _ ?_); clear hK K') | refine AQ.nil ?_ | refine AQ.q rfl rfl (fun hg => by first | exact std0 | exact std1) (by exact rfl) ?_)
  exact ⟨.inr rfl, Ent.b rfl⟩
theorem r2valid_spec (p : Pitch) : PCall Tryd.prog 106 [.agg (encPi p)] (.b (pitchOk p)) := by
  refine PCall.body Tryd.func106 rfl rfl Tryd.ntmps106 rfl rfl ?_
  repeat' (first | refine AOps.q rfl rfl rfl (fun hg => by first | exact std0 | exact PRun.callW (r2in_spec _ _ _) rfl rfl nd rfl nds | exact std1) (by exact rfl) ?_ | refine AWP.seq ?_ | refine AWP.regionK (fun K' hK => ?_) | (refine AOps.nil (hK _ _ ?_); clear hK K') | refine AOps.e (EStep.boxW rfl rfl rfl rfl rfl True.intro rfl rfl ?_) | refine AOps.e (EStep.storeW tabOk rfl rfl rfl True.intro rfl rfl True.intro rfl rfl rfl rfl rfl rfl rfl ?_) | refine AOps.e (EStep.allocW tabOk rfl rfl rfl rfl rfl rfl ?_) | (refine AWP.condW rfl True.intro (fun hc => ?_) (fun hc => ?_) <;> (first | (simp only [decide_eq_true_eq] at hc) | (simp only [decide_eq_false_iff_not, Int.not_lt, Int.not_le] at hc) | skip)) | refine AWP.block ?_ | refine AWP.exit ?_ | refine AWP.skip ?_ | refine AWP.ret ?_ | refine AWP.drawK2 (by decide +kernel) (by kernel_rfl) (by decide +kernel) rfl (fun K' hK => ?_) | refine AWP.drawL2 (by kernel_rfl) (by decide +kernel) rfl (fun K' hK => ?_) | (refine AQ.nil (hK _ ?_); clear hK K') | refine AQ.nil ?_ | refine AQ.q rfl rfl (fun hg => by first | exact std0 | exact PRun.callW (r2in_spec _ _ _) rfl rfl nd rfl nds | exact std1) (by exact rfl) ?_)
  exact ⟨.inr rfl, Ent.b rfl⟩
theorem r2isNote_spec (p : Pitch) : PCall Tryd.prog 71 [.agg (encPi p)] (.b (noteP p)) := by
  refine PCall.body Tryd.func71 rfl rfl Tryd.ntmps71 rfl rfl ?_
  repeat' (first | refine AOps.q rfl rfl rfl (fun hg => by first | exact std0 | exact PRun.callW (r2valid_spec p) rfl rfl nd rfl nds | exact PRun.callW (r2in_spec _ _ _) rfl rfl nd rfl nds | exact std1) (by exact rfl) ?_ | refine AWP.seq ?_ | refine AWP.regionK (fun K' hK => ?_) | (refine AOps.nil (hK _ _ ?_); clear hK K') | refine AOps.e (EStep.boxW rfl rfl rfl rfl rfl True.intro rfl rfl ?_) | refine AOps.e (EStep.storeW tabOk rfl rfl rfl True.intro rfl rfl True.intro rfl rfl rfl rfl rfl rfl rfl ?_) | refine AOps.e (EStep.allocW tabOk rfl rfl rfl rfl rfl rfl ?_) | (refine AWP.condW rfl True.intro (fun hc => ?_) (fun hc => ?_) <;> (first | (simp only [decide_eq_true_eq] at hc) | (simp only [decide_eq_false_iff_not, Int.not_lt, Int.not_le] at hc) | skip)) | refine AWP.block ?_ | refine AWP.exit ?_ | refine AWP.skip ?_ | refine AWP.ret ?_ | refine AWP.drawK2 (by decide +kernel) (by kernel_rfl) (by decide +kernel) rfl (fun K' hK => ?_) | refine AWP.drawL2 (by kernel_rfl) (by decide +kernel) rfl (fun K' hK => ?_) | (refine AQ.nil (hK _ ?_); clear hK K') | refine AQ.nil ?_ | refine AQ.q rfl rfl (fun hg => by first | exact std0 | exact PRun.callW (r2valid_spec p) rfl rfl nd rfl nds | exact PRun.callW (r2in_spec _ _ _) rfl rfl nd rfl nds | exact std1) (by exact rfl) ?_)
  exact ⟨.inr rfl, Ent.b rfl⟩
def natR (s : Int) : Int := if s > 2 then 2 * s - 1 else 2 * s
theorem natural_spec (s : Int) (h : -1000 ≤ s ∧ s ≤ 1000) : PCall Tryd.prog 124 [.int s] (.int (natR s)) := by
  refine PCall.body Tryd.func124 rfl rfl Tryd.ntmps124 rfl rfl ?_
  repeat' (first | refine AOps.q rfl rfl rfl (fun hg => by first | exact std0 | exact std1) (by exact rfl) ?_ | refine AWP.seq ?_ | refine AWP.regionK (fun K' hK => ?_) | (refine AOps.nil (hK _ _ ?_); clear hK K') | refine AOps.e (EStep.boxW rfl rfl rfl rfl rfl True.intro rfl rfl ?_) | refine AOps.e (EStep.storeW tabOk rfl rfl rfl True.intro rfl rfl True.intro rfl rfl rfl rfl rfl rfl rfl ?_) | refine AOps.e (EStep.allocW tabOk rfl rfl rfl rfl rfl rfl ?_) | (refine AWP.condW rfl True.intro (fun hc => ?_) (fun hc => ?_) <;> (first | (simp only [decide_eq_true_eq] at hc) | (simp only [decide_eq_false_iff_not, Int.not_lt, Int.not_le] at hc) | skip)) | refine AWP.block ?_ | refine AWP.exit ?_ | refine AWP.skip ?_ | refine AWP.ret ?_ | refine AWP.drawK2 (by decide +kernel) (by kernel_rfl) (by decide +kernel) rfl (fun K' hK => ?_) | refine AWP.drawL2 (by kernel_rfl) (by decide +kernel) rfl (fun K' hK => ?_) | (refine AQ.nil (hK _ ?_); clear hK K') | refine AQ.nil ?_ | refine AQ.q rfl rfl (fun hg => by first | exact std0 | exact std1) (by exact rfl) ?_)
  · exact ⟨.inr rfl, Ent.int (by unfold natR; rw [if_pos hc])⟩
  · exact ⟨.inr rfl, Ent.int (by unfold natR; rw [if_neg (by omega)])⟩
/-- The number of a pitch, as the reference has it. -/
def soundR (p : Pitch) : Int := 12 * p.oct + natR p.step + p.alter
def pitchIn (p : Pitch) : Prop := (0 ≤ p.step ∧ p.step ≤ 6) ∧ (-4 ≤ p.alter ∧ p.alter ≤ 4) ∧ -1000 ≤ p.oct ∧ p.oct ≤ 1000
theorem natR_in {s : Int} (h : -1000 ≤ s ∧ s ≤ 1000) : -2001 ≤ natR s ∧ natR s ≤ 2001 := by unfold natR; split <;> omega
theorem sound_spec (p : Pitch) (h : pitchIn p) : PCall Tryd.prog 105 [.agg (encPi p)] (.int (soundR p)) := by
  obtain ⟨h1, h2, h3⟩ := h
  have hn := natR_in (s := p.step) (by omega)
  have hs := natural_spec p.step (by omega)
  refine PCall.body Tryd.func105 rfl rfl Tryd.ntmps105 rfl rfl ?_
  repeat' (first | refine AOps.q rfl rfl rfl (fun hg => by first | exact std0 | exact PRun.callW (hs) rfl rfl nd rfl nds | exact std1) (by exact rfl) ?_ | refine AWP.seq ?_ | refine AWP.regionK (fun K' hK => ?_) | (refine AOps.nil (hK _ _ ?_); clear hK K') | refine AOps.e (EStep.boxW rfl rfl rfl rfl rfl True.intro rfl rfl ?_) | refine AOps.e (EStep.storeW tabOk rfl rfl rfl True.intro rfl rfl True.intro rfl rfl rfl rfl rfl rfl rfl ?_) | refine AOps.e (EStep.allocW tabOk rfl rfl rfl rfl rfl rfl ?_) | (refine AWP.condW rfl True.intro (fun hc => ?_) (fun hc => ?_) <;> (first | (simp only [decide_eq_true_eq] at hc) | (simp only [decide_eq_false_iff_not, Int.not_lt, Int.not_le] at hc) | skip)) | refine AWP.block ?_ | refine AWP.exit ?_ | refine AWP.skip ?_ | refine AWP.ret ?_ | refine AWP.drawK2 (by decide +kernel) (by kernel_rfl) (by decide +kernel) rfl (fun K' hK => ?_) | refine AWP.drawL2 (by kernel_rfl) (by decide +kernel) rfl (fun K' hK => ?_) | (refine AQ.nil (hK _ ?_); clear hK K') | refine AQ.nil ?_ | refine AQ.q rfl rfl (fun hg => by first | exact std0 | exact PRun.callW (hs) rfl rfl nd rfl nds | exact std1) (by exact rfl) ?_)
  exact ⟨.inr rfl, Ent.int rfl⟩
theorem soundR_num {p : Pitch} (h : pitchOk p = true) : soundR p = (numR2 p).1 := by
  have h1 := pitchOk_iff.1 h
  unfold numR2
  rw [if_pos h]
  show soundR p = pitchNum p
  unfold soundR pitchNum
  have : natR p.step = nat7.getD p.step.toNat 0 := by
    obtain ⟨k, hk⟩ : ∃ k : Nat, p.step = k := ⟨p.step.toNat, by omega⟩
    rw [hk]
    have : k ≤ 6 := by omega
    match k, this with
    | 0, _ | 1, _ | 2, _ | 3, _ | 4, _ | 5, _ | 6, _ => decide
  omega
theorem pitchIn_ok {p : Pitch} (h : pitchOk p = true) : pitchIn p := by
  have h1 := pitchOk_iff.1 h
  unfold pitchIn; omega
theorem gcd6_nat (a b : Nat) (ha : a ≤ 1000000000) (hb : b ≤ 1000000000) : PCall Tryd.prog 70 [.int a, .int b] (.int (Nat.gcd a b)) := by
  refine PCall.body Tryd.func70 rfl rfl Tryd.ntmps70 rfl rfl ?_
  repeat' (first | refine AOps.q rfl rfl rfl (fun hg => by first | exact std0 | exact std1) (by exact rfl) ?_ | refine AWP.seq ?_ | refine AWP.regionK (fun K' hK => ?_) | (refine AOps.nil (hK _ _ ?_); clear hK K') | refine AOps.e (EStep.boxW rfl rfl rfl rfl rfl True.intro rfl rfl ?_) | refine AOps.e (EStep.storeW tabOk rfl rfl rfl True.intro rfl rfl True.intro rfl rfl rfl rfl rfl rfl rfl ?_) | refine AOps.e (EStep.allocW tabOk rfl rfl rfl rfl rfl rfl ?_) | (refine AWP.condW rfl True.intro (fun hc => ?_) (fun hc => ?_) <;> (first | (simp only [decide_eq_true_eq] at hc) | (simp only [decide_eq_false_iff_not, Int.not_lt, Int.not_le] at hc) | skip)) | refine AWP.block ?_ | refine AWP.exit ?_ | refine AWP.skip ?_ | refine AWP.ret ?_ | refine AWP.drawK2 (by decide +kernel) (by kernel_rfl) (by decide +kernel) rfl (fun K' hK => ?_) | refine AWP.drawL2 (by kernel_rfl) (by decide +kernel) rfl (fun K' hK => ?_) | (refine AQ.nil (hK _ ?_); clear hK K') | refine AQ.nil ?_ | refine AQ.q rfl rfl (fun hg => by first | exact std0 | exact std1) (by exact rfl) ?_)
  refine AWP.loopW (ι := Nat × Nat) (fun i => [(0, .int i.1), (1, .int i.2)]) (fun _ => []) (fun i => Nat.gcd i.1 i.2 = Nat.gcd a b ∧ i.1 ≤ 1000000000 ∧ i.2 ≤ 1000000000) (fun i => i.2) (a, b) ⟨rfl, ha, hb⟩ ⟨rfl, rfl, True.intro⟩ rfl ?_
  rintro ⟨x, y⟩ ⟨g1, g2, g3⟩
  dsimp only at g1 g2 g3 ⊢
  by_cases h0 : y = 0
  · subst h0
    repeat' (first | refine AOps.q rfl rfl rfl (fun hg => by first | exact std0 | exact std1) (by exact rfl) ?_ | refine AWP.seq ?_ | refine AWP.regionK (fun K' hK => ?_) | (refine AOps.nil (hK _ _ ?_); clear hK K') | refine AOps.e (EStep.boxW rfl rfl rfl rfl rfl True.intro rfl rfl ?_) | refine AOps.e (EStep.storeW tabOk rfl rfl rfl True.intro rfl rfl True.intro rfl rfl rfl rfl rfl rfl rfl ?_) | refine AOps.e (EStep.allocW tabOk rfl rfl rfl rfl rfl rfl ?_) | (refine AWP.condW rfl True.intro (fun hc => ?_) (fun hc => ?_) <;> (first | (simp only [decide_eq_true_eq] at hc) | (simp only [decide_eq_false_iff_not, Int.not_lt, Int.not_le] at hc) | skip)) | refine AWP.block ?_ | refine AWP.exit ?_ | refine AWP.skip ?_ | refine AWP.ret ?_ | refine AWP.drawK2 (by decide +kernel) (by kernel_rfl) (by decide +kernel) rfl (fun K' hK => ?_) | refine AWP.drawL2 (by kernel_rfl) (by decide +kernel) rfl (fun K' hK => ?_) | (refine AQ.nil (hK _ ?_); clear hK K') | refine AQ.nil ?_ | refine AQ.q rfl rfl (fun hg => by first | exact std0 | exact std1) (by exact rfl) ?_)
    · exfalso; simp at hc
    · exact ⟨.inr rfl, Ent.int (by rw [← g1]; simp)⟩
  · have hm : x % y < y := Nat.mod_lt _ (by omega)
    repeat' (first | refine AOps.q rfl rfl rfl (fun hg => by first | exact std0 | exact std1) (by exact rfl) ?_ | refine AWP.seq ?_ | refine AWP.regionK (fun K' hK => ?_) | (refine AOps.nil (hK _ _ ?_); clear hK K') | refine AOps.e (EStep.boxW rfl rfl rfl rfl rfl True.intro rfl rfl ?_) | refine AOps.e (EStep.storeW tabOk rfl rfl rfl True.intro rfl rfl True.intro rfl rfl rfl rfl rfl rfl rfl ?_) | refine AOps.e (EStep.allocW tabOk rfl rfl rfl rfl rfl rfl ?_) | (refine AWP.condW rfl True.intro (fun hc => ?_) (fun hc => ?_) <;> (first | (simp only [decide_eq_true_eq] at hc) | (simp only [decide_eq_false_iff_not, Int.not_lt, Int.not_le] at hc) | skip)) | refine AWP.block ?_ | refine AWP.exit ?_ | refine AWP.skip ?_ | refine AWP.ret ?_ | refine AWP.drawK2 (by decide +kernel) (by kernel_rfl) (by decide +kernel) rfl (fun K' hK => ?_) | refine AWP.drawL2 (by kernel_rfl) (by decide +kernel) rfl (fun K' hK => ?_) | (refine AQ.nil (hK _ ?_); clear hK K') | refine AQ.nil ?_ | refine AQ.q rfl rfl (fun hg => by first | exact std0 | exact std1) (by exact rfl) ?_)
    · refine ⟨(y, x % y), ⟨?_, g3, by omega⟩, hm, ⟨rfl, rfl, True.intro⟩, rfl⟩
      rw [← g1, Nat.gcd_comm x y, Nat.gcd_rec y x, Nat.gcd_comm]
    · exfalso; simp at hc; omega
theorem gcd6_spec (a b : Int) (h : (0 ≤ a ∧ a ≤ 1000000000) ∧ 0 ≤ b ∧ b ≤ 1000000000) : PCall Tryd.prog 70 [.int a, .int b] (.int (Int.gcd a b)) := by
  have h1 := gcd6_nat a.toNat b.toNat (by omega) (by omega)
  have ea : ((a.toNat : Nat) : Int) = a := by omega
  have eb : ((b.toNat : Nat) : Int) = b := by omega
  rw [ea, eb] at h1
  have : Nat.gcd a.toNat b.toNat = Int.gcd a b := by
    conv => rhs; rw [← ea, ← eb, Int.gcd_natCast_natCast]
  rw [this] at h1; exact h1
/-- How many 1680ths a duration is; -1: it is none. -/
def ticksX (r : Rat) : Int := if durOk r then ticksV r else -1
theorem div1680 {d : Int} (h1 : 1 ≤ d) (h : Int.tmod 1680 d = 0) : d ≤ 1680 := Int.le_of_dvd (by decide) (Int.dvd_of_tmod_eq_zero h)
def tickBad (r : Rat) : Bool := ((decide (r.d < 1) || Int.tmod 1680 r.d != 0) || decide (r.n < 0)) || decide (r.n > 1000000000)
theorem tickGood {r : Rat} (h : (tickBad r == false) = true) : (0 ≤ r.n ∧ r.n ≤ 1000000000) ∧ 0 ≤ r.d ∧ r.d ≤ 1000000000 := by
  simp [tickBad] at h
  have := div1680 (d := r.d) (by omega) h.1.1.2
  omega
theorem durOk_tick (r : Rat) : durOk r = !(tickBad r || ((Int.gcd r.n r.d : Nat) : Int) != 1) := by
  rw [Bool.eq_iff_iff, durOk_iff, ratOk_iff]
  simp only [tickBad, Bool.not_eq_true', Bool.or_eq_false_iff, decide_eq_false_iff_not, bne_eq_false_iff_eq]
  constructor
  · rintro ⟨⟨h1, h2, h3, h4, h5⟩, h6, h7⟩
    exact ⟨⟨⟨⟨by omega, h7⟩, by omega⟩, by omega⟩, by omega⟩
  · rintro ⟨⟨⟨⟨h1, h7⟩, h2⟩, h3⟩, h4⟩
    have := div1680 (d := r.d) (by omega) h7
    exact ⟨⟨by omega, by omega, by omega, by omega, by omega⟩, by omega, h7⟩
theorem ticks6_spec (r : Rat) : PCall Tryd.prog 31 [.agg (encR r)] (.int (ticksX r)) := by
  by_cases h : durOk r = true
  · have h1 := durOk_iff.1 h
    have h2 := ratOk_iff.1 h1.1
    have h3 := tdiv1680 h1.1
    have h4 := mul_in (x := r.n) (y := Int.tdiv 1680 r.d) (A := 1000000000) (B := 1680) (by omega) h3
    refine PCall.body Tryd.func31 rfl rfl Tryd.ntmps31 rfl rfl ?_
    repeat' (first | refine AOps.q rfl rfl rfl (fun hg => by first | exact std0 | exact PRun.callW (gcd6_spec r.n r.d ⟨by omega, by omega⟩) rfl rfl nd rfl nds | exact std1) (by exact rfl) ?_ | refine AWP.seq ?_ | refine AWP.regionK (fun K' hK => ?_) | (refine AOps.nil (hK _ _ ?_); clear hK K') | refine AOps.e (EStep.boxW rfl rfl rfl rfl rfl True.intro rfl rfl ?_) | refine AOps.e (EStep.storeW tabOk rfl rfl rfl True.intro rfl rfl True.intro rfl rfl rfl rfl rfl rfl rfl ?_) | refine AOps.e (EStep.allocW tabOk rfl rfl rfl rfl rfl rfl ?_) | (refine AWP.condW rfl True.intro (fun hc => ?_) (fun hc => ?_) <;> (first | (simp only [decide_eq_true_eq] at hc) | (simp only [decide_eq_false_iff_not, Int.not_lt, Int.not_le] at hc) | skip)) | refine AWP.block ?_ | refine AWP.exit ?_ | refine AWP.skip ?_ | refine AWP.ret ?_ | refine AWP.drawK2 (by decide +kernel) (by kernel_rfl) (by decide +kernel) rfl (fun K' hK => ?_) | refine AWP.drawL2 (by kernel_rfl) (by decide +kernel) rfl (fun K' hK => ?_) | (refine AQ.nil (hK _ ?_); clear hK K') | refine AQ.nil ?_ | refine AQ.q rfl rfl (fun hg => by first | exact std0 | exact PRun.callW (gcd6_spec r.n r.d ⟨by omega, by omega⟩) rfl rfl nd rfl nds | exact std1) (by exact rfl) ?_)
    · exfalso
      have e := durOk_tick r
      rw [h] at e
      have : (tickBad r || ((Int.gcd r.n r.d : Nat) : Int) != 1) = true := hc
      rw [this] at e; simp at e
    · exact ⟨.inr rfl, Ent.int (by unfold ticksX; rw [if_pos h]; rfl)⟩
  · by_cases hd : r.d < 1
    · have hd' : ∀ {b : Bool}, ((decide (r.d < 1) || b) == false) = true → False := fun h => by simp [hd] at h
      refine PCall.body Tryd.func31 rfl rfl Tryd.ntmps31 rfl rfl ?_
      repeat' (first | refine AOps.q rfl rfl rfl (fun hg => by first | exact std0 | exact PRun.callW (gcd6_spec r.n r.d (tickGood hg)) rfl rfl nd rfl nds | exact std1) (by exact rfl) ?_ | refine AWP.seq ?_ | refine AWP.regionK (fun K' hK => ?_) | (refine AOps.nil (hK _ _ ?_); clear hK K') | refine AOps.e (EStep.boxW rfl rfl rfl rfl rfl True.intro rfl rfl ?_) | refine AOps.e (EStep.storeW tabOk rfl rfl rfl True.intro rfl rfl True.intro rfl rfl rfl rfl rfl rfl rfl ?_) | refine AOps.e (EStep.allocW tabOk rfl rfl rfl rfl rfl rfl ?_) | (refine AWP.condW rfl True.intro (fun hc => ?_) (fun hc => ?_) <;> (first | (simp only [decide_eq_true_eq] at hc) | (simp only [decide_eq_false_iff_not, Int.not_lt, Int.not_le] at hc) | skip)) | refine AWP.block ?_ | refine AWP.exit ?_ | refine AWP.skip ?_ | refine AWP.ret ?_ | (refine AQ.nil (hK _ ?_); clear hK K') | refine AQ.nil ?_ | refine AQ.q rfl rfl (fun hg => by first | exact std0 | exact PRun.callW (gcd6_spec r.n r.d (tickGood hg)) rfl rfl nd rfl nds | exact std1) (by exact rfl) ?_)
      · exact ⟨.inr rfl, Ent.int (by unfold ticksX; rw [if_neg h])⟩
      · exfalso
        simp [hd] at hc
    · refine PCall.body Tryd.func31 rfl rfl Tryd.ntmps31 rfl rfl ?_
      repeat' (first | refine AOps.q rfl rfl rfl (fun hg => by first | exact std0 | exact PRun.callW (gcd6_spec r.n r.d (tickGood hg)) rfl rfl nd rfl nds | exact std1) (by exact rfl) ?_ | refine AWP.seq ?_ | refine AWP.regionK (fun K' hK => ?_) | (refine AOps.nil (hK _ _ ?_); clear hK K') | refine AOps.e (EStep.boxW rfl rfl rfl rfl rfl True.intro rfl rfl ?_) | refine AOps.e (EStep.storeW tabOk rfl rfl rfl True.intro rfl rfl True.intro rfl rfl rfl rfl rfl rfl rfl ?_) | refine AOps.e (EStep.allocW tabOk rfl rfl rfl rfl rfl rfl ?_) | (refine AWP.condW rfl True.intro (fun hc => ?_) (fun hc => ?_) <;> (first | (simp only [decide_eq_true_eq] at hc) | (simp only [decide_eq_false_iff_not, Int.not_lt, Int.not_le] at hc) | skip)) | refine AWP.block ?_ | refine AWP.exit ?_ | refine AWP.skip ?_ | refine AWP.ret ?_ | (refine AQ.nil (hK _ ?_); clear hK K') | refine AQ.nil ?_ | refine AQ.q rfl rfl (fun hg => by first | exact std0 | exact PRun.callW (gcd6_spec r.n r.d (tickGood hg)) rfl rfl nd rfl nds | exact std1) (by exact rfl) ?_)
      · exact ⟨.inr rfl, Ent.int (by unfold ticksX; rw [if_neg h])⟩
      · exfalso
        have e := durOk_tick r
        have : (tickBad r || ((Int.gcd r.n r.d : Nat) : Int) != 1) = false := hc
        rw [this] at e
        exact h (by simpa using e)
end Go.Proofs.YtnmdmmfdnnmdfaaDoor
