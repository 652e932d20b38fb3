/- Contracts by content: slices.Equal of notes; small functions of score. No statement is proved here. -/
import Derived.Test.YtnmdmmfdnnmdfaaDoorCI
set_option linter.unusedVariables false
set_option linter.unusedSimpArgs false
namespace Go.Proofs.YtnmdmmfdnnmdfaaDoor
open Go.Ab
attribute [local irreducible] AWP AOps EStep AQ PStep PRun PCall TCall VCall

theorem list_ne_len {α : Type} [BEq α] [LawfulBEq α] {a b : List α} (h : a.length ≠ b.length) : (a == b) = false := by
  cases hh : a == b with
  | false => rfl
  | true => exact absurd (congrArg List.length (eq_of_beq hh)) h
theorem list_ne_at {α : Type} [BEq α] [LawfulBEq α] [Inhabited α] {a b : List α} {k : Nat} (h : a.getD k default ≠ b.getD k default) : (a == b) = false := by
  cases hh : a == b with
  | false => rfl
  | true => exact absurd (by rw [eq_of_beq hh]) h
theorem list_eq_all {α : Type} [BEq α] [LawfulBEq α] [Inhabited α] {a b : List α} (hl : a.length = b.length) (h : ∀ j, j < a.length → a.getD j default = b.getD j default) : (a == b) = true := by
  have : a = b := List.ext_getElem hl fun i h1 h2 => by
    have := h i h1
    simpa [List.getD, h1, h2] using this
  rw [this]; simp
theorem flN : flatN Tryd.prog 55 = some [.int .i64, .int .i64, .int .i64, .int .i64, .int .i64, .int .i64, .int .i64, .int .i64, .int .i64, .int .i64, .int .i64, .int .i64] := by kernel_rfl
def eqNo (a b : Note) : Bool := a.id == b.id && (a.part == b.part && (a.bar == b.bar && (a.voice == b.voice && (a.ossia == b.ossia && (a.start.n == b.start.n && (a.start.d == b.start.d && (a.len.n == b.len.n && (a.len.d == b.len.d && (a.pitch.step == b.pitch.step && (a.pitch.alter == b.pitch.alter && (a.pitch.oct == b.pitch.oct && true)))))))))))
theorem eqNo_eq (a b : Note) : eqNo a b = (a == b) := by
  unfold eqNo
  rw [Bool.eq_iff_iff]
  obtain ⟨a1, a2, a3, a4, a5, ⟨a6, a7⟩, ⟨a8, a9⟩, ⟨a10, a11, a12⟩⟩ := a
  obtain ⟨b1, b2, b3, b4, b5, ⟨b6, b7⟩, ⟨b8, b9⟩, ⟨b10, b11, b12⟩⟩ := b
  simp [and_assoc]
theorem equalN_spec (a b : List Note) (ha : a.length ≤ 9223372036854775807) (hb : b.length ≤ 9223372036854775807) : PCall Tryd.prog 79 [.sl 12 (a.map encN) .no, .sl 12 (b.map encN) .no] (.b (a == b)) := by
  refine PCall.body Tryd.func79 rfl rfl Tryd.ntmps79 rfl rfl ?_
  repeat' (first | refine AOps.q rfl rfl rfl (fun hg => by first | exact std0 | exact std1) (by exact rfl) ?_ | refine AWP.seq ?_ | refine AWP.regionK (fun K' hK => ?_) | (refine AOps.nil (hK _ _ ?_); clear hK K') | refine AOps.e (EStep.boxW rfl rfl rfl rfl rfl True.intro rfl rfl ?_) | refine AOps.e (EStep.storeW tabOk rfl rfl rfl True.intro rfl rfl True.intro rfl rfl rfl rfl rfl rfl rfl ?_) | refine AOps.e (EStep.allocW tabOk rfl rfl rfl rfl rfl rfl ?_) | (refine AWP.condW rfl True.intro (fun hc => ?_) (fun hc => ?_) <;> (first | (simp only [decide_eq_true_eq] at hc) | (simp only [decide_eq_false_iff_not, Int.not_lt, Int.not_le] at hc) | skip)) | refine AWP.block ?_ | refine AWP.exit ?_ | refine AWP.skip ?_ | refine AWP.ret ?_ | refine AWP.drawK2 (by decide +kernel) (by kernel_rfl) (by decide +kernel) rfl (fun K' hK => ?_) | refine AWP.drawL2 (by kernel_rfl) (by decide +kernel) rfl (fun K' hK => ?_) | (refine AQ.nil (hK _ ?_); clear hK K') | refine AQ.nil ?_ | refine AQ.q rfl rfl (fun hg => by first | exact std0 | exact std1) (by exact rfl) ?_)
  · refine ⟨.inr rfl, Ent.b (list_ne_len ?_).symm⟩
    simp only [Int.toNat_natCast, Bool.or_eq_true, Bool.and_eq_true, Bool.or_eq_false_iff, Bool.and_eq_false_iff, decide_eq_true_eq, decide_eq_false_iff_not, Bool.not_eq_true', Bool.not_eq_false', beq_iff_eq, beq_eq_false_iff_ne, bne_iff_ne, bne_eq_false_iff_eq, gt_iff_lt, ge_iff_le, ne_eq] at hc; omega
  have hlen : a.length = b.length := by simp only [Int.toNat_natCast, Bool.or_eq_true, Bool.and_eq_true, Bool.or_eq_false_iff, Bool.and_eq_false_iff, decide_eq_true_eq, decide_eq_false_iff_not, Bool.not_eq_true', Bool.not_eq_false', beq_iff_eq, beq_eq_false_iff_ne, bne_iff_ne, bne_eq_false_iff_eq, gt_iff_lt, ge_iff_le, ne_eq] at hc; omega
  refine AWP.loopW (ι := Nat) (fun k => [(0, .sl 12 (a.map encN) .no), (1, .sl 12 (b.map encN) .no), (12, .int a.length), (13, .int k)]) (fun _ => []) (fun k => k ≤ a.length ∧ ∀ j, j < k → a.getD j default = b.getD j default) (fun k => a.length - k) 0 ⟨Nat.zero_le _, fun j h => absurd h (by omega)⟩ ⟨rfl, rfl, rfl, rfl, True.intro⟩ rfl ?_
  rintro k ⟨hk, hall⟩
  by_cases hlt : k < a.length
  · repeat' (first | refine AOps.q rfl rfl rfl (fun hg => by first | exact std0 | exact PRun.neN flN rfl rfl nd rfl nd rfl | exact std1) (by exact rfl) ?_ | refine AWP.seq ?_ | refine AWP.regionK (fun K' hK => ?_) | (refine AOps.nil (hK _ _ ?_); clear hK K') | refine AOps.e (EStep.boxW rfl rfl rfl rfl rfl True.intro rfl rfl ?_) | refine AOps.e (EStep.storeW tabOk rfl rfl rfl True.intro rfl rfl True.intro rfl rfl rfl rfl rfl rfl rfl ?_) | refine AOps.e (EStep.allocW tabOk rfl rfl rfl rfl rfl rfl ?_) | (refine AWP.condW rfl True.intro (fun hc => ?_) (fun hc => ?_) <;> (first | (simp only [decide_eq_true_eq] at hc) | (simp only [decide_eq_false_iff_not, Int.not_lt, Int.not_le] at hc) | skip)) | refine AWP.block ?_ | refine AWP.exit ?_ | refine AWP.skip ?_ | refine AWP.ret ?_ | refine AWP.drawK2 (by decide +kernel) (by kernel_rfl) (by decide +kernel) rfl (fun K' hK => ?_) | refine AWP.drawL2 (by kernel_rfl) (by decide +kernel) rfl (fun K' hK => ?_) | (refine AQ.nil (hK _ ?_); clear hK K') | refine AQ.nil ?_ | refine AQ.q rfl rfl (fun hg => by first | exact std0 | exact PRun.neN flN rfl rfl nd rfl nd rfl | exact std1) (by exact rfl) ?_)
    · refine ⟨.inr rfl, Ent.b (list_ne_at (k := k) ?_).symm⟩
      have h1 : (!(eqNo (a.getD k default) (b.getD k default))) = true := hc
      rw [eqNo_eq] at h1
      simpa using h1
    · refine ⟨k + 1, ⟨by omega, fun j hj => lt_succ_cases hall ?_ hj⟩, by omega, ⟨rfl, rfl, rfl, rfl, True.intro⟩, rfl⟩
      have h1 : (!(eqNo (a.getD k default) (b.getD k default))) = false := hc
      rw [eqNo_eq] at h1
      simpa using h1
    · exfalso; omega
  · repeat' (first | refine AOps.q rfl rfl rfl (fun hg => by first | exact std0 | exact std1) (by exact rfl) ?_ | refine AWP.seq ?_ | refine AWP.regionK (fun K' hK => ?_) | (refine AOps.nil (hK _ _ ?_); clear hK K') | refine AOps.e (EStep.boxW rfl rfl rfl rfl rfl True.intro rfl rfl ?_) | refine AOps.e (EStep.storeW tabOk rfl rfl rfl True.intro rfl rfl True.intro rfl rfl rfl rfl rfl rfl rfl ?_) | refine AOps.e (EStep.allocW tabOk rfl rfl rfl rfl rfl rfl ?_) | (refine AWP.condW rfl True.intro (fun hc => ?_) (fun hc => ?_) <;> (first | (simp only [decide_eq_true_eq] at hc) | (simp only [decide_eq_false_iff_not, Int.not_lt, Int.not_le] at hc) | skip)) | refine AWP.block ?_ | refine AWP.exit ?_ | refine AWP.skip ?_ | refine AWP.ret ?_ | refine AWP.drawK2 (by decide +kernel) (by kernel_rfl) (by decide +kernel) rfl (fun K' hK => ?_) | refine AWP.drawL2 (by kernel_rfl) (by decide +kernel) rfl (fun K' hK => ?_) | (refine AQ.nil (hK _ ?_); clear hK K') | refine AQ.nil ?_ | refine AQ.q rfl rfl (fun hg => by first | exact std0 | exact std1) (by exact rfl) ?_)
    all_goals (first | (exfalso; omega) | skip)
    exact ⟨.inr rfl, Ent.b (list_eq_all hlen fun j hj => hall j (by omega)).symm⟩
end Go.Proofs.YtnmdmmfdnnmdfaaDoor
