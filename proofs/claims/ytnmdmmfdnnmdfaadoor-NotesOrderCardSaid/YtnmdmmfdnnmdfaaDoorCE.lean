/- Contracts by content: cmp.Or, notes.sorted's comparison. No statement is proved here. -/
import Derived.Test.YtnmdmmfdnnmdfaaDoorCD
set_option linter.unusedVariables false
set_option linter.unusedSimpArgs false
namespace Go.Proofs.YtnmdmmfdnnmdfaaDoor
open Go.Ab
attribute [local irreducible] AWP AOps EStep AQ PStep PRun PCall TCall VCall

/-- The first that is not zero. -/
def orL : List Int → Int
  | [] => 0
  | x :: r => if x = 0 then orL r else x
theorem orL_zero : ∀ {l : List Int}, (∀ j, j < l.length → l.getD j default = 0) → orL l = 0
  | [], _ => rfl
  | x :: r, h => by
    have h0 : x = 0 := by simpa using h 0 (by simp)
    rw [orL, if_pos h0]
    exact orL_zero fun j hj => by simpa using h (j + 1) (by simpa using hj)
theorem orL_first : ∀ {l : List Int} {k : Nat}, k < l.length → (∀ j, j < k → l.getD j default = 0) → l.getD k default ≠ 0 → orL l = l.getD k default
  | [], k, hk, _, _ => absurd hk (by simp)
  | x :: r, 0, _, _, h1 => by
    have h2 : x ≠ 0 := by simpa using h1
    simp [orL, h2]
  | x :: r, k + 1, hk, h, h1 => by
    have h0 : x = 0 := by simpa using h 0 (by omega)
    have h2 := orL_first (l := r) (k := k) (by simpa using hk) (fun j hj => by simpa using h (j + 1) (by omega)) (by simpa using h1)
    rw [orL, if_pos h0, h2]; simp
theorem or_spec (l : List Int) (hl : l.length ≤ 9223372036854775807) : PCall Tryd.prog 92 [.sl 1 (l.map fun n => [AV.int n]) .no] (.int (orL l)) := by
  refine PCall.body Tryd.func92 rfl rfl Tryd.ntmps92 rfl rfl ?_
  repeat' (first | refine AOps.q rfl rfl rfl (fun hg => by first | exact std0 | exact std1) (by exact rfl) ?_ | refine AWP.seq ?_ | refine AWP.regionK (fun K' hK => ?_) | (refine AOps.nil (hK _ _ ?_); clear hK K') | refine AOps.e (EStep.boxW rfl rfl rfl rfl rfl True.intro rfl rfl ?_) | refine AOps.e (EStep.storeW tabOk rfl rfl rfl True.intro rfl rfl True.intro rfl rfl rfl rfl rfl rfl rfl ?_) | refine AOps.e (EStep.allocW tabOk rfl rfl rfl rfl rfl rfl ?_) | (refine AWP.condW rfl True.intro (fun hc => ?_) (fun hc => ?_) <;> (first | (simp only [decide_eq_true_eq] at hc) | (simp only [decide_eq_false_iff_not, Int.not_lt, Int.not_le] at hc) | skip)) | refine AWP.block ?_ | refine AWP.exit ?_ | refine AWP.skip ?_ | refine AWP.ret ?_ | refine AWP.drawK2 (by decide +kernel) (by kernel_rfl) (by decide +kernel) rfl (fun K' hK => ?_) | refine AWP.drawL2 (by kernel_rfl) (by decide +kernel) rfl (fun K' hK => ?_) | (refine AQ.nil (hK _ ?_); clear hK K') | refine AQ.nil ?_ | refine AQ.q rfl rfl (fun hg => by first | exact std0 | exact std1) (by exact rfl) ?_)
  refine AWP.loopD (ι := Nat) (fun k => [(3, .int 0), (6, .sl 1 (l.map fun n => [AV.int n]) .no), (7, .int l.length), (8, .int k)]) (fun _ => [])
    (fun k => k ≤ l.length ∧ ∀ j, j < k → l.getD j default = 0) (fun k => l.length - k) 0 (fun _ => rfl) 0 ⟨Nat.zero_le _, fun j h => absurd h (by omega)⟩ ⟨rfl, rfl, rfl, rfl, True.intro⟩ rfl (fun _ _ => rfl) (fun k _ => by simp [okObj, okRef]) ?_
  rintro k ⟨hk, hz⟩
  by_cases hlt : k < l.length
  · repeat' (first | refine AOps.q rfl rfl rfl (fun hg => by first | exact std0 | exact std1) (by exact rfl) ?_ | refine AWP.seq ?_ | refine AWP.regionK (fun K' hK => ?_) | (refine AOps.nil (hK _ _ ?_); clear hK K') | refine AOps.e (EStep.boxW rfl rfl rfl rfl rfl True.intro rfl rfl ?_) | refine AOps.e (EStep.storeW tabOk rfl rfl rfl True.intro rfl rfl True.intro rfl rfl rfl rfl rfl rfl rfl ?_) | refine AOps.e (EStep.allocW tabOk rfl rfl rfl rfl rfl rfl ?_) | (refine AWP.condW rfl True.intro (fun hc => ?_) (fun hc => ?_) <;> (first | (simp only [decide_eq_true_eq] at hc) | (simp only [decide_eq_false_iff_not, Int.not_lt, Int.not_le] at hc) | skip)) | refine AWP.block ?_ | refine AWP.exit ?_ | refine AWP.skip ?_ | refine AWP.ret ?_ | refine AWP.drawK2 (by decide +kernel) (by kernel_rfl) (by decide +kernel) rfl (fun K' hK => ?_) | refine AWP.drawL2 (by kernel_rfl) (by decide +kernel) rfl (fun K' hK => ?_) | (refine AQ.nil (hK _ ?_); clear hK K') | refine AQ.nil ?_ | refine AQ.q rfl rfl (fun hg => by first | exact std0 | exact std1) (by exact rfl) ?_)
    · refine ⟨.inr rfl, Ent.int ?_⟩
      rw [Int.toNat_natCast] at hc ⊢
      exact (orL_first hlt hz (by simpa using hc)).symm
    · rw [Int.toNat_natCast] at hc
      exact ⟨k + 1, ⟨by omega, fun j hj => lt_succ_cases hz (by simpa using hc) hj⟩, by omega, ⟨rfl, rfl, rfl, rfl, True.intro⟩, rfl⟩
    · exfalso; omega
  · repeat' (first | refine AOps.q rfl rfl rfl (fun hg => by first | exact std0 | exact std1) (by exact rfl) ?_ | refine AWP.seq ?_ | refine AWP.regionK (fun K' hK => ?_) | (refine AOps.nil (hK _ _ ?_); clear hK K') | refine AOps.e (EStep.boxW rfl rfl rfl rfl rfl True.intro rfl rfl ?_) | refine AOps.e (EStep.storeW tabOk rfl rfl rfl True.intro rfl rfl True.intro rfl rfl rfl rfl rfl rfl rfl ?_) | refine AOps.e (EStep.allocW tabOk rfl rfl rfl rfl rfl rfl ?_) | (refine AWP.condW rfl True.intro (fun hc => ?_) (fun hc => ?_) <;> (first | (simp only [decide_eq_true_eq] at hc) | (simp only [decide_eq_false_iff_not, Int.not_lt, Int.not_le] at hc) | skip)) | refine AWP.block ?_ | refine AWP.exit ?_ | refine AWP.skip ?_ | refine AWP.ret ?_ | refine AWP.drawK2 (by decide +kernel) (by kernel_rfl) (by decide +kernel) rfl (fun K' hK => ?_) | refine AWP.drawL2 (by kernel_rfl) (by decide +kernel) rfl (fun K' hK => ?_) | (refine AQ.nil (hK _ ?_); clear hK K') | refine AQ.nil ?_ | refine AQ.q rfl rfl (fun hg => by first | exact std0 | exact std1) (by exact rfl) ?_)
    · exfalso; omega
    · exfalso; omega
    · refine ⟨.inr rfl, Ent.int ?_⟩
      exact (orL_zero fun j hj => hz j (by omega)).symm

theorem numR2_in (p : Pitch) : -1000 ≤ (numR2 p).1 ∧ (numR2 p).1 ≤ 1000 := by
  unfold numR2
  split
  · rename_i h
    have h1 := pitchOk_iff.1 h
    have h2 := nat7_in p.step.toNat
    unfold pitchNum; dsimp only; omega
  · exact ⟨by decide, by decide⟩
/-- A note whose numbers are in their ranges. -/
def noteIn (n : Note) : Prop := (1 ≤ n.id ∧ n.id ≤ 1000000) ∧ (1 ≤ n.part ∧ n.part ≤ 1000000) ∧ 0 ≤ n.voice ∧ n.voice ≤ 9
def lk0 (al : List (Int × Int)) (k : Int) : Int := (lk al k).getD 0
/-- The comparison of notes.sorted. -/
def cmpN (al : List (Int × Int)) (x y : Note) : Int := orL [lk0 al x.bar - lk0 al y.bar, x.part - y.part, (ticksR x.start).1 - (ticksR y.start).1, x.voice - y.voice, (numR2 x.pitch).1 - (numR2 y.pitch).1, x.id - y.id]
theorem lk0_in {al : List (Int × Int)} (hal : ∀ k i, lk al k = some i → 0 ≤ i ∧ i < 4611686018427387904) (k : Int) : 0 ≤ lk0 al k ∧ lk0 al k < 4611686018427387904 := by
  unfold lk0
  cases h : lk al k with
  | none => exact ⟨by decide, by decide⟩
  | some i => exact hal k i h
set_option maxHeartbeats 2000000 in
theorem cmpN_spec (al : List (Int × Int)) (hal : ∀ k i, lk al k = some i → 0 ≤ i ∧ i < 4611686018427387904) (x y : Note) (hx : noteIn x) (hy : noteIn y) :
    PCall Tryd.prog 90 [.agg (encN x), .agg (encN y), .iptr [.imap (encM ekI AV.int al)]] (.int (cmpN al x y)) := by
  obtain ⟨⟨a1, a2⟩, ⟨a3, a4⟩, a5, a6⟩ := hx
  obtain ⟨⟨b1, b2⟩, ⟨b3, b4⟩, b5, b6⟩ := hy
  have c1 := ticksR_in x.start
  have c2 := ticksR_in y.start
  have d1 := numR2_in x.pitch
  have d2 := numR2_in y.pitch
  have e1 := lk0_in hal x.bar
  have e2 := lk0_in hal y.bar
  unfold lk0 at e1 e2
  have ho := or_spec [lk0 al x.bar - lk0 al y.bar, x.part - y.part, (ticksR x.start).1 - (ticksR y.start).1, x.voice - y.voice, (numR2 x.pitch).1 - (numR2 y.pitch).1, x.id - y.id] (by simp)
  refine PCall.body Tryd.func90 rfl rfl Tryd.ntmps90 rfl rfl ?_
  repeat' (first | refine AOps.q rfl rfl rfl (fun hg => by first | exact std0 | exact PRun.callW (ticks_spec x.start) rfl rfl nd rfl nds | exact PRun.callW (ticks_spec y.start) rfl rfl nd rfl nds | exact PRun.callW (pNumber_spec x.pitch) rfl rfl nd rfl nds | exact PRun.callW (pNumber_spec y.pitch) rfl rfl nd rfl nds | exact PRun.lookup (ek := ekI) (ev := AV.int) (zv := 0) (keyLaw_int (LOk.of (tabOk.get rfl))) (LOk.of (tabOk.get rfl)) (LOk.of (tabOk.get rfl)) rfl rfl (Rd.w rfl nd) (Or.inl rfl) (Rd.w rfl nd) rfl | exact PRun.buildSlW tabOk rfl rfl nds | exact PRun.callW (ho) rfl rfl nd rfl nds | exact std1) (by exact rfl) ?_ | refine AWP.seq ?_ | refine AWP.regionK (fun K' hK => ?_) | (refine AOps.nil (hK _ _ ?_); clear hK K') | refine AOps.e (EStep.boxW rfl rfl rfl rfl rfl True.intro rfl rfl ?_) | refine AOps.e (EStep.storeW tabOk rfl rfl rfl True.intro rfl rfl True.intro rfl rfl rfl rfl rfl rfl rfl ?_) | refine AOps.e (EStep.allocW tabOk rfl rfl rfl rfl rfl rfl ?_) | (refine AWP.condW rfl True.intro (fun hc => ?_) (fun hc => ?_) <;> (first | (simp only [decide_eq_true_eq] at hc) | (simp only [decide_eq_false_iff_not, Int.not_lt, Int.not_le] at hc) | skip)) | refine AWP.block ?_ | refine AWP.exit ?_ | refine AWP.skip ?_ | refine AWP.ret ?_ | refine AWP.drawK2 (by decide +kernel) (by kernel_rfl) (by decide +kernel) rfl (fun K' hK => ?_) | refine AWP.drawL2 (by kernel_rfl) (by decide +kernel) rfl (fun K' hK => ?_) | (refine AQ.nil (hK _ ?_); clear hK K') | refine AQ.nil ?_ | refine AQ.q rfl rfl (fun hg => by first | exact std0 | exact PRun.callW (ticks_spec x.start) rfl rfl nd rfl nds | exact PRun.callW (ticks_spec y.start) rfl rfl nd rfl nds | exact PRun.callW (pNumber_spec x.pitch) rfl rfl nd rfl nds | exact PRun.callW (pNumber_spec y.pitch) rfl rfl nd rfl nds | exact PRun.lookup (ek := ekI) (ev := AV.int) (zv := 0) (keyLaw_int (LOk.of (tabOk.get rfl))) (LOk.of (tabOk.get rfl)) (LOk.of (tabOk.get rfl)) rfl rfl (Rd.w rfl nd) (Or.inl rfl) (Rd.w rfl nd) rfl | exact PRun.buildSlW tabOk rfl rfl nds | exact PRun.callW (ho) rfl rfl nd rfl nds | exact std1) (by exact rfl) ?_)
  exact ⟨.inr rfl, Ent.int rfl⟩
end Go.Proofs.YtnmdmmfdnnmdfaaDoor
