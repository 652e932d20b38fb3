/- Contracts by content: the reference of parts. No statement is proved here. -/
import Derived.Test.YtnmdmmfdnnmdfaaGreatDoorSD
import Derived.Test.YtnmdmmfdnnmdfaaGreatDoorCP
set_option linter.unusedVariables false
set_option linter.unusedSimpArgs false
namespace Go.Proofs.YtnmdmmfdnnmdfaaGreatDoor
open Go.Ab
attribute [local irreducible] AWP AOps EStep AQ PStep PRun PCall TCall VCall

theorem r8in_spec (a b c : Int) : PCall Tryz.prog 33 [.int a, .int b, .int c] (.b (inB a b c)) := by
  refine PCall.body Tryz.func33 rfl rfl Tryz.ntmps33 rfl rfl ?_
  repeat' (first | refine AOps.q rfl rfl rfl (fun hg => by first | exact std0 | exact std1) (by exact rfl) ?_ | refine AWP.seq ?_ | refine AWP.regionK (fun K' hK => ?_) | (refine AOps.nil (hK _ _ ?_); clear hK K') | refine AOps.e (EStep.boxW rfl rfl rfl rfl rfl True.intro rfl rfl ?_) | refine AOps.e (EStep.storeW tabOk rfl rfl rfl True.intro rfl rfl True.intro rfl rfl rfl rfl rfl rfl rfl ?_) | refine AOps.e (EStep.allocW tabOk rfl rfl rfl rfl rfl rfl ?_) | (refine AWP.condW rfl True.intro (fun hc => ?_) (fun hc => ?_) <;> (first | (simp only [decide_eq_true_eq] at hc) | (simp only [decide_eq_false_iff_not, Int.not_lt, Int.not_le] at hc) | skip)) | refine AWP.block ?_ | refine AWP.exit ?_ | refine AWP.skip ?_ | refine AWP.ret ?_ | refine AWP.drawK2 (by decide +kernel) (by kernel_rfl) (by decide +kernel) rfl (fun K' hK => ?_) | refine AWP.drawL2 (by kernel_rfl) (by decide +kernel) rfl (fun K' hK => ?_) | (refine AQ.nil (hK _ ?_); clear hK K') | refine AQ.nil ?_ | refine AQ.q rfl rfl (fun hg => by first | exact std0 | exact std1) (by exact rfl) ?_)
  exact ⟨.inr rfl, Ent.b rfl⟩
theorem r8shift_spec (i : Interval) : PCall Tryz.prog 102 [.agg (encI i)] (.b (shiftOk i)) := by
  refine PCall.body Tryz.func102 rfl rfl Tryz.ntmps102 rfl rfl ?_
  repeat' (first | refine AOps.q rfl rfl rfl (fun hg => by first | exact std0 | exact PRun.callW (r3fifths_spec i) rfl rfl nd rfl nds | exact PRun.callW (r8in_spec _ _ _) rfl rfl nd rfl nds | exact std1) (by exact rfl) ?_ | refine AWP.seq ?_ | refine AWP.regionK (fun K' hK => ?_) | (refine AOps.nil (hK _ _ ?_); clear hK K') | refine AOps.e (EStep.boxW rfl rfl rfl rfl rfl True.intro rfl rfl ?_) | refine AOps.e (EStep.storeW tabOk rfl rfl rfl True.intro rfl rfl True.intro rfl rfl rfl rfl rfl rfl rfl ?_) | refine AOps.e (EStep.allocW tabOk rfl rfl rfl rfl rfl rfl ?_) | (refine AWP.condW rfl True.intro (fun hc => ?_) (fun hc => ?_) <;> (first | (simp only [decide_eq_true_eq] at hc) | (simp only [decide_eq_false_iff_not, Int.not_lt, Int.not_le] at hc) | skip)) | refine AWP.block ?_ | refine AWP.exit ?_ | refine AWP.skip ?_ | refine AWP.ret ?_ | refine AWP.drawK2 (by decide +kernel) (by kernel_rfl) (by decide +kernel) rfl (fun K' hK => ?_) | refine AWP.drawL2 (by kernel_rfl) (by decide +kernel) rfl (fun K' hK => ?_) | (refine AQ.nil (hK _ ?_); clear hK K') | refine AQ.nil ?_ | refine AQ.q rfl rfl (fun hg => by first | exact std0 | exact PRun.callW (r3fifths_spec i) rfl rfl nd rfl nds | exact PRun.callW (r8in_spec _ _ _) rfl rfl nd rfl nds | exact std1) (by exact rfl) ?_)
  exact ⟨.inr rfl, Ent.b rfl⟩
set_option maxHeartbeats 1000000 in
theorem part1_spec (p : Part) : PCall Tryz.prog 71 [.agg (encP p)] (.b (partOk p)) := by
  have h1 := r8shift_spec p.shift
  have h2 := r2valid_spec p.low
  have h3 := r2valid_spec p.high
  refine PCall.body Tryz.func71 rfl rfl Tryz.ntmps71 rfl rfl ?_
  repeat' (first | refine AOps.q rfl rfl rfl (fun hg => by first | exact std0 | exact PRun.callW (r8in_spec _ _ _) rfl rfl nd rfl nds | exact PRun.callW (h1) rfl rfl nd rfl nds | exact PRun.callW (h2) rfl rfl nd rfl nds | exact PRun.callW (h3) rfl rfl nd rfl nds | exact std1) (by exact rfl) ?_ | refine AWP.seq ?_ | refine AWP.regionK (fun K' hK => ?_) | (refine AOps.nil (hK _ _ ?_); clear hK K') | refine AOps.e (EStep.boxW rfl rfl rfl rfl rfl True.intro rfl rfl ?_) | refine AOps.e (EStep.storeW tabOk rfl rfl rfl True.intro rfl rfl True.intro rfl rfl rfl rfl rfl rfl rfl ?_) | refine AOps.e (EStep.allocW tabOk rfl rfl rfl rfl rfl rfl ?_) | (refine AWP.condW rfl True.intro (fun hc => ?_) (fun hc => ?_) <;> (first | (simp only [decide_eq_true_eq] at hc) | (simp only [decide_eq_false_iff_not, Int.not_lt, Int.not_le] at hc) | skip)) | refine AWP.block ?_ | refine AWP.exit ?_ | refine AWP.skip ?_ | refine AWP.ret ?_ | refine AWP.drawK2 (by decide +kernel) (by kernel_rfl) (by decide +kernel) rfl (fun K' hK => ?_) | refine AWP.drawL2 (by kernel_rfl) (by decide +kernel) rfl (fun K' hK => ?_) | (refine AQ.nil (hK _ ?_); clear hK K') | refine AQ.nil ?_ | refine AQ.q rfl rfl (fun hg => by first | exact std0 | exact PRun.callW (r8in_spec _ _ _) rfl rfl nd rfl nds | exact PRun.callW (h1) rfl rfl nd rfl nds | exact PRun.callW (h2) rfl rfl nd rfl nds | exact PRun.callW (h3) rfl rfl nd rfl nds | exact std1) (by exact rfl) ?_)
  · refine ⟨.inr rfl, Ent.b (Eq.symm ?_)⟩
    unfold partOk partBad partNums
    revert hc
    generalize inB p.id 1 1000000 = z1
    generalize inB p.section_ 0 99 = z2
    generalize inB p.of_ 0 1000000 = z3
    generalize inB p.octave (-2) 2 = z4
    generalize inB p.desks 1 40 = z5
    generalize shiftOk p.shift = z6
    generalize pitchOk p.low = z7
    generalize pitchOk p.high = z8
    generalize (p.of_ == p.id) = z9
    generalize (p.of_ == 0 && p.octave != 0) = z10
    generalize decide ((numR2 p.low).1 ≤ (numR2 p.high).1) = z11
    revert z1 z2 z3 z4 z5 z6 z7 z8 z9 z10 z11; decide
  · have hv : pitchOk p.low = true ∧ pitchOk p.high = true := by
      simp only [Bool.or_eq_false_iff, Bool.not_eq_false'] at hc
      exact ⟨hc.1.2, hc.2⟩
    have h4 := sound_spec p.low (pitchIn_ok hv.1)
    have h5 := sound_spec p.high (pitchIn_ok hv.2)
    rw [soundR_num hv.1] at h4
    rw [soundR_num hv.2] at h5
    repeat' (first | refine AOps.q rfl rfl rfl (fun hg => by first | exact std0 | exact PRun.callW (h4) rfl rfl nd rfl nds | exact PRun.callW (h5) rfl rfl nd rfl nds | exact std1) (by exact rfl) ?_ | refine AWP.seq ?_ | refine AWP.regionK (fun K' hK => ?_) | (refine AOps.nil (hK _ _ ?_); clear hK K') | refine AOps.e (EStep.boxW rfl rfl rfl rfl rfl True.intro rfl rfl ?_) | refine AOps.e (EStep.storeW tabOk rfl rfl rfl True.intro rfl rfl True.intro rfl rfl rfl rfl rfl rfl rfl ?_) | refine AOps.e (EStep.allocW tabOk rfl rfl rfl rfl rfl rfl ?_) | (refine AWP.condW rfl True.intro (fun hc => ?_) (fun hc => ?_) <;> (first | (simp only [decide_eq_true_eq] at hc) | (simp only [decide_eq_false_iff_not, Int.not_lt, Int.not_le] at hc) | skip)) | refine AWP.block ?_ | refine AWP.exit ?_ | refine AWP.skip ?_ | refine AWP.ret ?_ | refine AWP.drawK2 (by decide +kernel) (by kernel_rfl) (by decide +kernel) rfl (fun K' hK => ?_) | refine AWP.drawL2 (by kernel_rfl) (by decide +kernel) rfl (fun K' hK => ?_) | (refine AQ.nil (hK _ ?_); clear hK K') | refine AQ.nil ?_ | refine AQ.q rfl rfl (fun hg => by first | exact std0 | exact PRun.callW (h4) rfl rfl nd rfl nds | exact PRun.callW (h5) rfl rfl nd rfl nds | exact std1) (by exact rfl) ?_)
    refine ⟨.inr rfl, Ent.b (Eq.symm ?_)⟩
    unfold partOk partBad partNums
    show _ = ((p.of_ != p.id && (p.of_ != 0 || p.octave == 0)) && decide ((numR2 p.low).1 ≤ (numR2 p.high).1))
    simp only [bne]
    revert hc
    generalize inB p.id 1 1000000 = z1
    generalize inB p.section_ 0 99 = z2
    generalize inB p.of_ 0 1000000 = z3
    generalize inB p.octave (-2) 2 = z4
    generalize inB p.desks 1 40 = z5
    generalize shiftOk p.shift = z6
    generalize pitchOk p.low = z7
    generalize pitchOk p.high = z8
    generalize (p.of_ == p.id) = z9
    generalize (p.of_ == 0) = z10
    generalize decide ((numR2 p.low).1 ≤ (numR2 p.high).1) = z11
    generalize (p.octave == 0) = z12
    revert z1 z2 z3 z4 z5 z6 z7 z8 z9 z10 z11 z12; decide
def partAt (l : List Part) (id : Int) : Int := findI (fun b : Part => b.id == id) l
def noteAt (l : List Note) (id : Int) : Int := findI (fun b : Note => b.id == id) l
theorem partAt_spec (l : List Part) (id : Int) (hl : l.length ≤ 9223372036854775807) : PCall Tryz.prog 72 [.sl 13 (l.map encP) .no, .int id] (.int (partAt l id)) := by
  refine PCall.body Tryz.func72 rfl rfl Tryz.ntmps72 rfl rfl ?_
  repeat' (first | refine AOps.q rfl rfl rfl (fun hg => by first | exact std0 | exact std1) (by exact rfl) ?_ | refine AWP.seq ?_ | refine AWP.regionK (fun K' hK => ?_) | (refine AOps.nil (hK _ _ ?_); clear hK K') | refine AOps.e (EStep.boxW rfl rfl rfl rfl rfl True.intro rfl rfl ?_) | refine AOps.e (EStep.storeW tabOk rfl rfl rfl True.intro rfl rfl True.intro rfl rfl rfl rfl rfl rfl rfl ?_) | refine AOps.e (EStep.allocW tabOk rfl rfl rfl rfl rfl rfl ?_) | (refine AWP.condW rfl True.intro (fun hc => ?_) (fun hc => ?_) <;> (first | (simp only [decide_eq_true_eq] at hc) | (simp only [decide_eq_false_iff_not, Int.not_lt, Int.not_le] at hc) | skip)) | refine AWP.block ?_ | refine AWP.exit ?_ | refine AWP.skip ?_ | refine AWP.ret ?_ | refine AWP.drawK2 (by decide +kernel) (by kernel_rfl) (by decide +kernel) rfl (fun K' hK => ?_) | refine AWP.drawL2 (by kernel_rfl) (by decide +kernel) rfl (fun K' hK => ?_) | (refine AQ.nil (hK _ ?_); clear hK K') | refine AQ.nil ?_ | refine AQ.q rfl rfl (fun hg => by first | exact std0 | exact std1) (by exact rfl) ?_)
  refine AWP.loopW (ι := Nat) (fun k => [(0, .sl 13 (l.map encP) .no), (1, .int id), (5, .int k)]) (fun _ => []) (fun k => k ≤ l.length ∧ ∀ j, j < k → ((l.getD j default).id == id) = false) (fun k => l.length - k) 0 ⟨Nat.zero_le _, fun j h => absurd h (by omega)⟩ ⟨rfl, rfl, rfl, True.intro⟩ rfl ?_
  rintro k ⟨hk, hall⟩
  by_cases hlt : k < l.length
  · repeat' (first | refine AOps.q rfl rfl rfl (fun hg => by first | exact std0 | exact std1) (by exact rfl) ?_ | refine AWP.seq ?_ | refine AWP.regionK (fun K' hK => ?_) | (refine AOps.nil (hK _ _ ?_); clear hK K') | refine AOps.e (EStep.boxW rfl rfl rfl rfl rfl True.intro rfl rfl ?_) | refine AOps.e (EStep.storeW tabOk rfl rfl rfl True.intro rfl rfl True.intro rfl rfl rfl rfl rfl rfl rfl ?_) | refine AOps.e (EStep.allocW tabOk rfl rfl rfl rfl rfl rfl ?_) | (refine AWP.condW rfl True.intro (fun hc => ?_) (fun hc => ?_) <;> (first | (simp only [decide_eq_true_eq] at hc) | (simp only [decide_eq_false_iff_not, Int.not_lt, Int.not_le] at hc) | skip)) | refine AWP.block ?_ | refine AWP.exit ?_ | refine AWP.skip ?_ | refine AWP.ret ?_ | refine AWP.drawK2 (by decide +kernel) (by kernel_rfl) (by decide +kernel) rfl (fun K' hK => ?_) | refine AWP.drawL2 (by kernel_rfl) (by decide +kernel) rfl (fun K' hK => ?_) | (refine AQ.nil (hK _ ?_); clear hK K') | refine AQ.nil ?_ | refine AQ.q rfl rfl (fun hg => by first | exact std0 | exact std1) (by exact rfl) ?_)
    · refine ⟨.inr rfl, Ent.int ?_⟩
      exact (findI_at hlt hc hall).symm
    · exact ⟨k + 1, ⟨by omega, fun j hj => lt_succ_cases hall hc hj⟩, by omega, ⟨rfl, rfl, rfl, True.intro⟩, rfl⟩
    · exfalso; omega
  · repeat' (first | refine AOps.q rfl rfl rfl (fun hg => by first | exact std0 | exact std1) (by exact rfl) ?_ | refine AWP.seq ?_ | refine AWP.regionK (fun K' hK => ?_) | (refine AOps.nil (hK _ _ ?_); clear hK K') | refine AOps.e (EStep.boxW rfl rfl rfl rfl rfl True.intro rfl rfl ?_) | refine AOps.e (EStep.storeW tabOk rfl rfl rfl True.intro rfl rfl True.intro rfl rfl rfl rfl rfl rfl rfl ?_) | refine AOps.e (EStep.allocW tabOk rfl rfl rfl rfl rfl rfl ?_) | (refine AWP.condW rfl True.intro (fun hc => ?_) (fun hc => ?_) <;> (first | (simp only [decide_eq_true_eq] at hc) | (simp only [decide_eq_false_iff_not, Int.not_lt, Int.not_le] at hc) | skip)) | refine AWP.block ?_ | refine AWP.exit ?_ | refine AWP.skip ?_ | refine AWP.ret ?_ | refine AWP.drawK2 (by decide +kernel) (by kernel_rfl) (by decide +kernel) rfl (fun K' hK => ?_) | refine AWP.drawL2 (by kernel_rfl) (by decide +kernel) rfl (fun K' hK => ?_) | (refine AQ.nil (hK _ ?_); clear hK K') | refine AQ.nil ?_ | refine AQ.q rfl rfl (fun hg => by first | exact std0 | exact std1) (by exact rfl) ?_)
    all_goals (first | (exfalso; omega) | skip)
    refine ⟨.inr rfl, Ent.int ?_⟩
    exact (findI_no fun j hj => hall j (by omega)).symm
theorem noteAt_spec (l : List Note) (id : Int) (hl : l.length ≤ 9223372036854775807) : PCall Tryz.prog 12 [.sl 12 (l.map encN) .no, .int id] (.int (noteAt l id)) := by
  refine PCall.body Tryz.func12 rfl rfl Tryz.ntmps12 rfl rfl ?_
  repeat' (first | refine AOps.q rfl rfl rfl (fun hg => by first | exact std0 | exact std1) (by exact rfl) ?_ | refine AWP.seq ?_ | refine AWP.regionK (fun K' hK => ?_) | (refine AOps.nil (hK _ _ ?_); clear hK K') | refine AOps.e (EStep.boxW rfl rfl rfl rfl rfl True.intro rfl rfl ?_) | refine AOps.e (EStep.storeW tabOk rfl rfl rfl True.intro rfl rfl True.intro rfl rfl rfl rfl rfl rfl rfl ?_) | refine AOps.e (EStep.allocW tabOk rfl rfl rfl rfl rfl rfl ?_) | (refine AWP.condW rfl True.intro (fun hc => ?_) (fun hc => ?_) <;> (first | (simp only [decide_eq_true_eq] at hc) | (simp only [decide_eq_false_iff_not, Int.not_lt, Int.not_le] at hc) | skip)) | refine AWP.block ?_ | refine AWP.exit ?_ | refine AWP.skip ?_ | refine AWP.ret ?_ | refine AWP.drawK2 (by decide +kernel) (by kernel_rfl) (by decide +kernel) rfl (fun K' hK => ?_) | refine AWP.drawL2 (by kernel_rfl) (by decide +kernel) rfl (fun K' hK => ?_) | (refine AQ.nil (hK _ ?_); clear hK K') | refine AQ.nil ?_ | refine AQ.q rfl rfl (fun hg => by first | exact std0 | exact std1) (by exact rfl) ?_)
  refine AWP.loopW (ι := Nat) (fun k => [(0, .sl 12 (l.map encN) .no), (1, .int id), (5, .int k)]) (fun _ => []) (fun k => k ≤ l.length ∧ ∀ j, j < k → ((l.getD j default).id == id) = false) (fun k => l.length - k) 0 ⟨Nat.zero_le _, fun j h => absurd h (by omega)⟩ ⟨rfl, rfl, rfl, True.intro⟩ rfl ?_
  rintro k ⟨hk, hall⟩
  by_cases hlt : k < l.length
  · repeat' (first | refine AOps.q rfl rfl rfl (fun hg => by first | exact std0 | exact std1) (by exact rfl) ?_ | refine AWP.seq ?_ | refine AWP.regionK (fun K' hK => ?_) | (refine AOps.nil (hK _ _ ?_); clear hK K') | refine AOps.e (EStep.boxW rfl rfl rfl rfl rfl True.intro rfl rfl ?_) | refine AOps.e (EStep.storeW tabOk rfl rfl rfl True.intro rfl rfl True.intro rfl rfl rfl rfl rfl rfl rfl ?_) | refine AOps.e (EStep.allocW tabOk rfl rfl rfl rfl rfl rfl ?_) | (refine AWP.condW rfl True.intro (fun hc => ?_) (fun hc => ?_) <;> (first | (simp only [decide_eq_true_eq] at hc) | (simp only [decide_eq_false_iff_not, Int.not_lt, Int.not_le] at hc) | skip)) | refine AWP.block ?_ | refine AWP.exit ?_ | refine AWP.skip ?_ | refine AWP.ret ?_ | refine AWP.drawK2 (by decide +kernel) (by kernel_rfl) (by decide +kernel) rfl (fun K' hK => ?_) | refine AWP.drawL2 (by kernel_rfl) (by decide +kernel) rfl (fun K' hK => ?_) | (refine AQ.nil (hK _ ?_); clear hK K') | refine AQ.nil ?_ | refine AQ.q rfl rfl (fun hg => by first | exact std0 | exact std1) (by exact rfl) ?_)
    · refine ⟨.inr rfl, Ent.int ?_⟩
      exact (findI_at hlt hc hall).symm
    · exact ⟨k + 1, ⟨by omega, fun j hj => lt_succ_cases hall hc hj⟩, by omega, ⟨rfl, rfl, rfl, True.intro⟩, rfl⟩
    · exfalso; omega
  · repeat' (first | refine AOps.q rfl rfl rfl (fun hg => by first | exact std0 | exact std1) (by exact rfl) ?_ | refine AWP.seq ?_ | refine AWP.regionK (fun K' hK => ?_) | (refine AOps.nil (hK _ _ ?_); clear hK K') | refine AOps.e (EStep.boxW rfl rfl rfl rfl rfl True.intro rfl rfl ?_) | refine AOps.e (EStep.storeW tabOk rfl rfl rfl True.intro rfl rfl True.intro rfl rfl rfl rfl rfl rfl rfl ?_) | refine AOps.e (EStep.allocW tabOk rfl rfl rfl rfl rfl rfl ?_) | (refine AWP.condW rfl True.intro (fun hc => ?_) (fun hc => ?_) <;> (first | (simp only [decide_eq_true_eq] at hc) | (simp only [decide_eq_false_iff_not, Int.not_lt, Int.not_le] at hc) | skip)) | refine AWP.block ?_ | refine AWP.exit ?_ | refine AWP.skip ?_ | refine AWP.ret ?_ | refine AWP.drawK2 (by decide +kernel) (by kernel_rfl) (by decide +kernel) rfl (fun K' hK => ?_) | refine AWP.drawL2 (by kernel_rfl) (by decide +kernel) rfl (fun K' hK => ?_) | (refine AQ.nil (hK _ ?_); clear hK K') | refine AQ.nil ?_ | refine AQ.q rfl rfl (fun hg => by first | exact std0 | exact std1) (by exact rfl) ?_)
    all_goals (first | (exfalso; omega) | skip)
    refine ⟨.inr rfl, Ent.int ?_⟩
    exact (findI_no fun j hj => hall j (by omega)).symm
theorem partAt_in (l : List Part) (id : Int) : (partAt l id = -1 ∧ ∀ q ∈ l, q.id ≠ id) ∨ ∃ j : Nat, partAt l id = j ∧ j < l.length ∧ (l.getD j default).id = id ∧ ∀ i, i < j → (l.getD i default).id ≠ id := by
  rcases (show partAt l id < 0 ∨ 0 ≤ partAt l id by omega) with h | h
  · left
    refine ⟨findI_neg.1 h, fun q hq e => ?_⟩
    have h2 := findI_neg.1 h
    unfold findI at h2
    split at h2
    · omega
    · rename_i h3
      rw [List.findIdx?_eq_none_iff] at h3
      have := h3 q hq
      simp [e] at this
  · right
    obtain ⟨k, h1, h2, h3, h4⟩ := findI_lt h
    exact ⟨k, h1, h2, by simpa using h3, fun i hi => by simpa using h4 i hi⟩
/-- The part with its own notes that a note has. -/
def ownX (l : List Part) (n : Note) : Int := if partAt l n.part < 0 then -1 else if (l.getD (partAt l n.part).toNat default).of_ != 0 then -1 else partAt l n.part
theorem own_spec (l : List Part) (n : Note) (hl : l.length ≤ 9223372036854775807) : PCall Tryz.prog 74 [.sl 13 (l.map encP) .no, .agg (encN n)] (.int (ownX l n)) := by
  have h1 := partAt_spec l n.part hl
  have hx : -1 ≤ partAt l n.part ∧ partAt l n.part < l.length := by
    rcases partAt_in l n.part with ⟨h, _⟩ | ⟨j, h, h2, _⟩ <;> omega
  refine PCall.body Tryz.func74 rfl rfl Tryz.ntmps74 rfl rfl ?_
  repeat' (first | refine AOps.q rfl rfl rfl (fun hg => by first | exact std0 | exact PRun.callW (h1) rfl rfl nd rfl nds | exact std1) (by exact rfl) ?_ | refine AWP.seq ?_ | refine AWP.regionK (fun K' hK => ?_) | (refine AOps.nil (hK _ _ ?_); clear hK K') | refine AOps.e (EStep.boxW rfl rfl rfl rfl rfl True.intro rfl rfl ?_) | refine AOps.e (EStep.storeW tabOk rfl rfl rfl True.intro rfl rfl True.intro rfl rfl rfl rfl rfl rfl rfl ?_) | refine AOps.e (EStep.allocW tabOk rfl rfl rfl rfl rfl rfl ?_) | (refine AWP.condW rfl True.intro (fun hc => ?_) (fun hc => ?_) <;> (first | (simp only [decide_eq_true_eq] at hc) | (simp only [decide_eq_false_iff_not, Int.not_lt, Int.not_le] at hc) | skip)) | refine AWP.block ?_ | refine AWP.exit ?_ | refine AWP.skip ?_ | refine AWP.ret ?_ | refine AWP.drawK2 (by decide +kernel) (by kernel_rfl) (by decide +kernel) rfl (fun K' hK => ?_) | refine AWP.drawL2 (by kernel_rfl) (by decide +kernel) rfl (fun K' hK => ?_) | (refine AQ.nil (hK _ ?_); clear hK K') | refine AQ.nil ?_ | refine AQ.q rfl rfl (fun hg => by first | exact std0 | exact PRun.callW (h1) rfl rfl nd rfl nds | exact std1) (by exact rfl) ?_)
  · exact ⟨.inr rfl, Ent.int (by unfold ownX; rw [if_pos hc])⟩
  · exact ⟨.inr rfl, Ent.int (by unfold ownX; rw [if_neg (by omega), if_pos hc])⟩
  · exact ⟨.inr rfl, Ent.int (by unfold ownX; rw [if_neg (by omega), if_neg (by rw [hc]; decide)])⟩
/-- A part among the parts, as the reference looks at it. -/
def partX (l : List Part) (i : Nat) : Bool := partOk (l.getD i default) && (partAt l (l.getD i default).id == i) && ((l.getD i default).of_ == 0 || (decide (0 ≤ partAt l (l.getD i default).of_) && (l.getD (partAt l (l.getD i default).of_).toNat default).of_ == 0))
def partsX (l : List Part) : Bool := inB l.length 1 60 && (List.range l.length).all (partX l)
theorem partsX_spec (l : List Part) (hl : l.length ≤ 9223372036854775807) : PCall Tryz.prog 32 [.sl 13 (l.map encP) .no] (.b (partsX l)) := by
  refine PCall.body Tryz.func32 rfl rfl Tryz.ntmps32 rfl rfl ?_
  repeat' (first | refine AOps.q rfl rfl rfl (fun hg => by first | exact std0 | exact std1) (by exact rfl) ?_ | refine AWP.seq ?_ | refine AWP.regionK (fun K' hK => ?_) | (refine AOps.nil (hK _ _ ?_); clear hK K') | refine AOps.e (EStep.boxW rfl rfl rfl rfl rfl True.intro rfl rfl ?_) | refine AOps.e (EStep.storeW tabOk rfl rfl rfl True.intro rfl rfl True.intro rfl rfl rfl rfl rfl rfl rfl ?_) | refine AOps.e (EStep.allocW tabOk rfl rfl rfl rfl rfl rfl ?_) | (refine AWP.condW rfl True.intro (fun hc => ?_) (fun hc => ?_) <;> (first | (simp only [decide_eq_true_eq] at hc) | (simp only [decide_eq_false_iff_not, Int.not_lt, Int.not_le] at hc) | skip)) | refine AWP.block ?_ | refine AWP.exit ?_ | refine AWP.skip ?_ | refine AWP.ret ?_ | refine AWP.drawK2 (by decide +kernel) (by kernel_rfl) (by decide +kernel) rfl (fun K' hK => ?_) | refine AWP.drawL2 (by kernel_rfl) (by decide +kernel) rfl (fun K' hK => ?_) | (refine AQ.nil (hK _ ?_); clear hK K') | refine AQ.nil ?_ | refine AQ.q rfl rfl (fun hg => by first | exact std0 | exact std1) (by exact rfl) ?_)
  · refine ⟨.inr rfl, Ent.b (Eq.symm ?_)⟩
    unfold partsX inB
    simp at hc
    by_cases h : (1 : Int) ≤ l.length
    · rw [decide_eq_false (show ¬ (l.length : Int) ≤ 60 by omega)]; simp
    · rw [decide_eq_false h]; rfl
  have hn : inB (l.length : Int) 1 60 = true := by simp [inB]; simp at hc; omega
  clear hc
  refine AWP.loopW (ι := Nat) (fun k => [(0, .sl 13 (l.map encP) .no), (3, .int k)]) (fun _ => []) (fun k => k ≤ l.length ∧ (∀ j, j < k → partX l j = true)) (fun k => l.length - k) 0 ⟨Nat.zero_le _, fun j h => absurd h (by omega)⟩ ⟨rfl, rfl, True.intro⟩ rfl ?_
  rintro k ⟨hk, hall⟩
  by_cases hlt : k < l.length
  · have h1 := part1_spec (l.getD k default)
    have h2 := partAt_spec l (l.getD k default).id hl
    have h3 := partAt_spec l (l.getD k default).of_ hl
    have hx : partAt l (l.getD k default).of_ < l.length := by
      rcases partAt_in l (l.getD k default).of_ with ⟨h, _⟩ | ⟨j, h, h2, _⟩ <;> omega
    have bad : ∀ b, partX l k = false → partsX l = b → b = false := fun b h e => by
      rw [← e]; unfold partsX; rw [allR_no hlt h]; simp
    repeat' (first | refine AOps.q rfl rfl rfl (fun hg => by first | exact std0 | exact PRun.callW (h1) rfl rfl nd rfl nds | exact PRun.callW (h2) rfl rfl nd rfl nds | exact PRun.callW (h3) rfl rfl nd rfl nds | exact std1) (by exact rfl) ?_ | refine AWP.seq ?_ | refine AWP.regionK (fun K' hK => ?_) | (refine AOps.nil (hK _ _ ?_); clear hK K') | refine AOps.e (EStep.boxW rfl rfl rfl rfl rfl True.intro rfl rfl ?_) | refine AOps.e (EStep.storeW tabOk rfl rfl rfl True.intro rfl rfl True.intro rfl rfl rfl rfl rfl rfl rfl ?_) | refine AOps.e (EStep.allocW tabOk rfl rfl rfl rfl rfl rfl ?_) | (refine AWP.condW rfl True.intro (fun hc => ?_) (fun hc => ?_) <;> (first | (simp only [decide_eq_true_eq] at hc) | (simp only [decide_eq_false_iff_not, Int.not_lt, Int.not_le] at hc) | skip)) | refine AWP.block ?_ | refine AWP.exit ?_ | refine AWP.skip ?_ | refine AWP.ret ?_ | refine AWP.drawK2 (by decide +kernel) (by kernel_rfl) (by decide +kernel) rfl (fun K' hK => ?_) | refine AWP.drawL2 (by kernel_rfl) (by decide +kernel) rfl (fun K' hK => ?_) | (refine AQ.nil (hK _ ?_); clear hK K') | refine AQ.nil ?_ | refine AQ.q rfl rfl (fun hg => by first | exact std0 | exact PRun.callW (h1) rfl rfl nd rfl nds | exact PRun.callW (h2) rfl rfl nd rfl nds | exact PRun.callW (h3) rfl rfl nd rfl nds | exact std1) (by exact rfl) ?_)
    all_goals (first | (exfalso; omega) | skip)
    · refine ⟨.inr rfl, Ent.b (Eq.symm (bad _ ?_ rfl))⟩
      unfold partX
      have h4 : (partOk (l.getD k default) && (partAt l (l.getD k default).id == (k : Int))) = false := by
        revert hc
        show ((!partOk (l.getD k default)) || (partAt l (l.getD k default).id != (k : Int))) = true → _
        unfold bne
        generalize partOk (l.getD k default) = z1
        generalize (partAt l (l.getD k default).id == (k : Int)) = z2
        revert z1 z2; decide
      rw [h4]; rfl
    · rename_i hc1
      have h4 : (partOk (l.getD k default) && (partAt l (l.getD k default).id == (k : Int))) = true := by
        revert hc1
        show ((!partOk (l.getD k default)) || (partAt l (l.getD k default).id != (k : Int))) = false → _
        unfold bne
        generalize partOk (l.getD k default) = z1
        generalize (partAt l (l.getD k default).id == (k : Int)) = z2
        revert z1 z2; decide
      have h5 : ((l.getD k default).of_ == 0) = true := hc
      refine ⟨k + 1, ⟨by omega, fun i hi => lt_succ_cases hall (by unfold partX; rw [h4, h5]; rfl) hi⟩, by omega, ⟨rfl, rfl, True.intro⟩, rfl⟩
    · refine ⟨.inr rfl, Ent.b (Eq.symm (bad _ ?_ rfl))⟩
      rename_i hc1
      have h5 : ((l.getD k default).of_ == 0) = false := hc1
      have h6 : decide (0 ≤ partAt l (l.getD k default).of_) = false := decide_eq_false (by omega)
      unfold partX
      rw [h5, h6]; simp
    · refine ⟨.inr rfl, Ent.b (Eq.symm (bad _ ?_ rfl))⟩
      rename_i hc2 hc3
      have h5 : ((l.getD k default).of_ == 0) = false := hc2
      have h7 : ((l.getD (partAt l (l.getD k default).of_).toNat default).of_ == 0) = false := by
        revert hc; show ((l.getD (partAt l (l.getD k default).of_).toNat default).of_ != 0) = true → _; unfold bne; simp
      unfold partX
      rw [h5, h7]; simp
    · rename_i hc1 hc2 hc3
      have h4 : (partOk (l.getD k default) && (partAt l (l.getD k default).id == (k : Int))) = true := by
        revert hc1
        show ((!partOk (l.getD k default)) || (partAt l (l.getD k default).id != (k : Int))) = false → _
        unfold bne
        generalize partOk (l.getD k default) = z1
        generalize (partAt l (l.getD k default).id == (k : Int)) = z2
        revert z1 z2; decide
      have h6 : decide (0 ≤ partAt l (l.getD k default).of_) = true := decide_eq_true (by omega)
      have h7 : ((l.getD (partAt l (l.getD k default).of_).toNat default).of_ == 0) = true := by
        revert hc; show ((l.getD (partAt l (l.getD k default).of_).toNat default).of_ != 0) = false → _; unfold bne; simp
      refine ⟨k + 1, ⟨by omega, fun i hi => lt_succ_cases hall (by unfold partX; rw [h4, h6, h7]; simp) hi⟩, by omega, ⟨rfl, rfl, True.intro⟩, rfl⟩
  · repeat' (first | refine AOps.q rfl rfl rfl (fun hg => by first | exact std0 | exact std1) (by exact rfl) ?_ | refine AWP.seq ?_ | refine AWP.regionK (fun K' hK => ?_) | (refine AOps.nil (hK _ _ ?_); clear hK K') | refine AOps.e (EStep.boxW rfl rfl rfl rfl rfl True.intro rfl rfl ?_) | refine AOps.e (EStep.storeW tabOk rfl rfl rfl True.intro rfl rfl True.intro rfl rfl rfl rfl rfl rfl rfl ?_) | refine AOps.e (EStep.allocW tabOk rfl rfl rfl rfl rfl rfl ?_) | (refine AWP.condW rfl True.intro (fun hc => ?_) (fun hc => ?_) <;> (first | (simp only [decide_eq_true_eq] at hc) | (simp only [decide_eq_false_iff_not, Int.not_lt, Int.not_le] at hc) | skip)) | refine AWP.block ?_ | refine AWP.exit ?_ | refine AWP.skip ?_ | refine AWP.ret ?_ | refine AWP.drawK2 (by decide +kernel) (by kernel_rfl) (by decide +kernel) rfl (fun K' hK => ?_) | refine AWP.drawL2 (by kernel_rfl) (by decide +kernel) rfl (fun K' hK => ?_) | (refine AQ.nil (hK _ ?_); clear hK K') | refine AQ.nil ?_ | refine AQ.q rfl rfl (fun hg => by first | exact std0 | exact std1) (by exact rfl) ?_)
    all_goals (first | (exfalso; omega) | skip)
    refine ⟨.inr rfl, Ent.b ?_⟩
    unfold partsX
    rw [hn, allR_yes fun j hj => hall j (by omega)]; rfl
end Go.Proofs.YtnmdmmfdnnmdfaaGreatDoor
