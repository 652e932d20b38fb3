/- Contracts by content: the reference of scores: Range, Wrong, Same, Valid, Bar, Part, Note. No statement is proved here. -/
import Derived.Test.YtnmdmmfdnnmdfaaDoorSQ
import Derived.Test.YtnmdmmfdnnmdfaaDoorSG
set_option linter.unusedVariables false
set_option linter.unusedSimpArgs false
namespace Go.Proofs.YtnmdmmfdnnmdfaaDoor
open Go.Ab
attribute [local irreducible] AWP AOps EStep AQ PStep PRun PCall TCall VCall

theorem stranger_own {l : List Part} (hn : (l.map (·.id)).Nodup) (n : Note) : stranger (ownAL l) n = decide (ownX l n < 0) := by
  unfold stranger
  rcases own_lk hn n with ⟨h1, h2⟩ | ⟨j, h1, h2, _⟩
  · rw [h1, h2]; rfl
  · rw [h1, h2]
    rw [decide_eq_false (by omega)]; rfl
theorem farN_own {l : List Part} (hn : (l.map (·.id)).Nodup) {n : Note} (h : ¬ ownX l n < 0) : farN (ownAL l) n = !inB (numR2 n.pitch).1 (numR2 (l.getD (ownX l n).toNat default).low).1 (numR2 (l.getD (ownX l n).toNat default).high).1 := by
  unfold farN
  rcases own_lk hn n with ⟨h1, h2⟩ | ⟨j, h1, h2, _⟩
  · omega
  · rw [h1, h2, Int.toNat_natCast]; rfl
theorem ownX_lt (l : List Part) (n : Note) : ownX l n < l.length := by
  unfold ownX
  split
  · omega
  · split
    · omega
    · rcases partAt_in l n.part with ⟨h, _⟩ | ⟨j, h, h2, _⟩ <;> omega
theorem partOk_pitch {p : Part} (h : partOk p = true) : pitchOk p.low = true ∧ pitchOk p.high = true := by
  unfold partOk at h
  simp only [Bool.and_eq_true] at h
  exact ⟨h.2.1.1, h.2.1.2⟩
def eqBa (a b : Bar) : Bool := a.id == b.id && (a.len.n == b.len.n && (a.len.d == b.len.d && (a.key == b.key && true)))
theorem eqBa_eq (a b : Bar) : eqBa a b = (a == b) := by
  unfold eqBa
  rw [Bool.eq_iff_iff]
  obtain ⟨a1, ⟨a2, a3⟩, a4⟩ := a
  obtain ⟨b1, ⟨b2, b3⟩, b4⟩ := b
  simp [and_assoc]
def eqPa (a b : Part) : Bool := a.id == b.id && (a.section_ == b.section_ && (a.of_ == b.of_ && (a.octave == b.octave && (a.desks == b.desks && (a.shift.steps == b.shift.steps && (a.shift.semi == b.shift.semi && (a.low.step == b.low.step && (a.low.alter == b.low.alter && (a.low.oct == b.low.oct && (a.high.step == b.high.step && (a.high.alter == b.high.alter && (a.high.oct == b.high.oct && true))))))))))))
theorem eqPa_eq (a b : Part) : eqPa a b = (a == b) := by
  unfold eqPa
  rw [Bool.eq_iff_iff]
  obtain ⟨a1, a2, a3, a4, a5, ⟨a6, a7⟩, ⟨a8, a9, a10⟩, ⟨a11, a12, a13⟩⟩ := a
  obtain ⟨b1, b2, b3, b4, b5, ⟨b6, b7⟩, ⟨b8, b9, b10⟩, ⟨b11, b12, b13⟩⟩ := b
  simp [and_assoc]
theorem flBa : flatN Tryd.prog 61 = some [.int .i64, .int .i64, .int .i64, .int .i64] := by kernel_rfl
theorem flPa : flatN Tryd.prog 93 = some [.int .i64, .int .i64, .int .i64, .int .i64, .int .i64, .int .i64, .int .i64, .int .i64, .int .i64, .int .i64, .int .i64, .int .i64, .int .i64] := by kernel_rfl
theorem sameN_spec (a b : List Note) (ha : a.length ≤ 9223372036854775807) (hb : b.length ≤ 9223372036854775807) : PCall Tryd.prog 21 [.sl 12 (a.map encN) .no, .sl 12 (b.map encN) .no] (.b (a == b)) := by
  refine PCall.body Tryd.func21 rfl rfl Tryd.ntmps21 rfl rfl ?_
  repeat' (first | refine AOps.q rfl rfl rfl (fun hg => by first | exact std0 | exact std1) (by exact rfl) ?_ | refine AWP.seq ?_ | refine AWP.regionK (fun K' hK => ?_) | (refine AOps.nil (hK _ _ ?_); clear hK K') | refine AOps.e (EStep.boxW rfl rfl rfl rfl rfl True.intro rfl rfl ?_) | refine AOps.e (EStep.storeW tabOk rfl rfl rfl True.intro rfl rfl True.intro rfl rfl rfl rfl rfl rfl rfl ?_) | refine AOps.e (EStep.allocW tabOk rfl rfl rfl rfl rfl rfl ?_) | (refine AWP.condW rfl True.intro (fun hc => ?_) (fun hc => ?_) <;> (first | (simp only [decide_eq_true_eq] at hc) | (simp only [decide_eq_false_iff_not, Int.not_lt, Int.not_le] at hc) | skip)) | refine AWP.block ?_ | refine AWP.exit ?_ | refine AWP.skip ?_ | refine AWP.ret ?_ | refine AWP.drawK2 (by decide +kernel) (by kernel_rfl) (by decide +kernel) rfl (fun K' hK => ?_) | refine AWP.drawL2 (by kernel_rfl) (by decide +kernel) rfl (fun K' hK => ?_) | (refine AQ.nil (hK _ ?_); clear hK K') | refine AQ.nil ?_ | refine AQ.q rfl rfl (fun hg => by first | exact std0 | exact std1) (by exact rfl) ?_)
  · refine ⟨.inr rfl, Ent.b (list_ne_len ?_).symm⟩
    simp only [Int.toNat_natCast, Bool.or_eq_true, Bool.and_eq_true, Bool.or_eq_false_iff, Bool.and_eq_false_iff, decide_eq_true_eq, decide_eq_false_iff_not, Bool.not_eq_true', Bool.not_eq_false', beq_iff_eq, beq_eq_false_iff_ne, bne_iff_ne, bne_eq_false_iff_eq, gt_iff_lt, ge_iff_le, ne_eq] at hc; omega
  have hlen : a.length = b.length := by simp only [Int.toNat_natCast, Bool.or_eq_true, Bool.and_eq_true, Bool.or_eq_false_iff, Bool.and_eq_false_iff, decide_eq_true_eq, decide_eq_false_iff_not, Bool.not_eq_true', Bool.not_eq_false', beq_iff_eq, beq_eq_false_iff_ne, bne_iff_ne, bne_eq_false_iff_eq, gt_iff_lt, ge_iff_le, ne_eq] at hc; omega
  refine AWP.loopW (ι := Nat) (fun k => [(0, .sl 12 (a.map encN) .no), (1, .sl 12 (b.map encN) .no), (5, .int k)]) (fun _ => []) (fun k => k ≤ a.length ∧ ∀ j, j < k → a.getD j default = b.getD j default) (fun k => a.length - k) 0 ⟨Nat.zero_le _, fun j h => absurd h (by omega)⟩ ⟨rfl, rfl, rfl, True.intro⟩ rfl ?_
  rintro k ⟨hk, hall⟩
  by_cases hlt : k < a.length
  · repeat' (first | refine AOps.q rfl rfl rfl (fun hg => by first | exact std0 | exact PRun.neN flN rfl rfl nd rfl nd rfl | exact std1) (by exact rfl) ?_ | refine AWP.seq ?_ | refine AWP.regionK (fun K' hK => ?_) | (refine AOps.nil (hK _ _ ?_); clear hK K') | refine AOps.e (EStep.boxW rfl rfl rfl rfl rfl True.intro rfl rfl ?_) | refine AOps.e (EStep.storeW tabOk rfl rfl rfl True.intro rfl rfl True.intro rfl rfl rfl rfl rfl rfl rfl ?_) | refine AOps.e (EStep.allocW tabOk rfl rfl rfl rfl rfl rfl ?_) | (refine AWP.condW rfl True.intro (fun hc => ?_) (fun hc => ?_) <;> (first | (simp only [decide_eq_true_eq] at hc) | (simp only [decide_eq_false_iff_not, Int.not_lt, Int.not_le] at hc) | skip)) | refine AWP.block ?_ | refine AWP.exit ?_ | refine AWP.skip ?_ | refine AWP.ret ?_ | refine AWP.drawK2 (by decide +kernel) (by kernel_rfl) (by decide +kernel) rfl (fun K' hK => ?_) | refine AWP.drawL2 (by kernel_rfl) (by decide +kernel) rfl (fun K' hK => ?_) | (refine AQ.nil (hK _ ?_); clear hK K') | refine AQ.nil ?_ | refine AQ.q rfl rfl (fun hg => by first | exact std0 | exact PRun.neN flN rfl rfl nd rfl nd rfl | exact std1) (by exact rfl) ?_)
    · refine ⟨.inr rfl, Ent.b (list_ne_at (k := k) ?_).symm⟩
      have h1 : (!(eqNo (a.getD k default) (b.getD k default))) = true := hc
      rw [eqNo_eq] at h1
      simpa using h1
    · refine ⟨k + 1, ⟨by omega, fun j hj => lt_succ_cases hall ?_ hj⟩, by omega, ⟨rfl, rfl, rfl, True.intro⟩, rfl⟩
      have h1 : (!(eqNo (a.getD k default) (b.getD k default))) = false := hc
      rw [eqNo_eq] at h1
      simpa using h1
    · exfalso; omega
  · repeat' (first | refine AOps.q rfl rfl rfl (fun hg => by first | exact std0 | exact std1) (by exact rfl) ?_ | refine AWP.seq ?_ | refine AWP.regionK (fun K' hK => ?_) | (refine AOps.nil (hK _ _ ?_); clear hK K') | refine AOps.e (EStep.boxW rfl rfl rfl rfl rfl True.intro rfl rfl ?_) | refine AOps.e (EStep.storeW tabOk rfl rfl rfl True.intro rfl rfl True.intro rfl rfl rfl rfl rfl rfl rfl ?_) | refine AOps.e (EStep.allocW tabOk rfl rfl rfl rfl rfl rfl ?_) | (refine AWP.condW rfl True.intro (fun hc => ?_) (fun hc => ?_) <;> (first | (simp only [decide_eq_true_eq] at hc) | (simp only [decide_eq_false_iff_not, Int.not_lt, Int.not_le] at hc) | skip)) | refine AWP.block ?_ | refine AWP.exit ?_ | refine AWP.skip ?_ | refine AWP.ret ?_ | refine AWP.drawK2 (by decide +kernel) (by kernel_rfl) (by decide +kernel) rfl (fun K' hK => ?_) | refine AWP.drawL2 (by kernel_rfl) (by decide +kernel) rfl (fun K' hK => ?_) | (refine AQ.nil (hK _ ?_); clear hK K') | refine AQ.nil ?_ | refine AQ.q rfl rfl (fun hg => by first | exact std0 | exact std1) (by exact rfl) ?_)
    all_goals (first | (exfalso; omega) | skip)
    exact ⟨.inr rfl, Ent.b (list_eq_all hlen fun j hj => hall j (by omega)).symm⟩
def sameS (a b : Score) : Bool := a.version == b.version && (a.bars == b.bars) && (a.parts == b.parts) && (a.notes == b.notes)
theorem sameS_eq (a b : Score) : sameS a b = (a == b) := by
  rw [Bool.eq_iff_iff]
  obtain ⟨a1, a2, a3, a4⟩ := a
  obtain ⟨b1, b2, b3, b4⟩ := b
  simp [sameS, and_assoc]
end Go.Proofs.YtnmdmmfdnnmdfaaDoor
