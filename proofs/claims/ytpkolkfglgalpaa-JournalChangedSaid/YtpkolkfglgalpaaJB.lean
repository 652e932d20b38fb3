/- Contracts by content: texts, marks and events of the reference. No statement is proved here. -/
import Derived.Test.YtpkolkfglgalpaaJA
set_option linter.unusedVariables false
set_option linter.unusedSimpArgs false
namespace Go.Proofs.Ytpkolkfglgalpaa
open Go.Ab Go.Jo
attribute [local irreducible] AWP AOps EStep AQ PStep PRun PCall TCall VCall

theorem text_bad {t : Bs} {k : Nat} (hk : k < t.length) (h : (t.getD k 0).toNat < 32 ∨ 126 < (t.getD k 0).toNat) : textOk t = false := by
  cases h1 : textOk t with
  | false => rfl
  | true =>
    have := (textOk_iff.1 h1).2 (t.getD k 0) (by simp [List.getD, hk])
    omega
theorem text_good {t : Bs} (h1 : t.length ≤ 200) (h : ∀ j, j < t.length → 32 ≤ (t.getD j 0).toNat ∧ (t.getD j 0).toNat ≤ 126) : textOk t = true :=
  textOk_iff.2 ⟨h1, fun c hc => by
    obtain ⟨i, hi, rfl⟩ := List.mem_iff_getElem.1 hc
    have := h i hi
    simpa [List.getD, hi] using this⟩
theorem text19_spec (t : Bs) (ht : t.length ≤ 9223372036854775807) : PCall Try.prog 50 [.bs t] (.b (textOk t)) := by
  have hsz : (⟨t.toArray⟩ : ByteArray).size = t.length := by simp [ByteArray.size]
  refine PCall.body Try.func50 rfl rfl Try.ntmps50 rfl rfl ?_
  repeat' (first
    | refine AOps.q rfl rfl rfl (fun hg => by first | exact std0 | exact std1) (by exact rfl) ?_
    | refine AWP.seq ?_
    | refine AWP.regionK (fun K' hK => ?_)
    | (refine AOps.nil (hK _ _ ?_); clear hK K')
    | refine AOps.e (EStep.boxW rfl rfl rfl rfl rfl True.intro rfl rfl ?_)
    | refine AOps.e (EStep.storeW tabOk rfl rfl rfl True.intro rfl rfl True.intro rfl rfl rfl rfl rfl rfl rfl ?_)
    | refine AOps.e (EStep.allocW tabOk rfl rfl rfl rfl rfl rfl ?_)
    | (refine AWP.condW rfl True.intro (fun hc => ?_) (fun hc => ?_) <;> (first | (simp only [decide_eq_true_eq] at hc) | (simp only [decide_eq_false_iff_not, Int.not_lt, Int.not_le] at hc) | skip))
    | refine AWP.block ?_
    | refine AWP.exit ?_
    | refine AWP.skip ?_
    | refine AWP.ret ?_
    | refine AWP.drawK2 (by decide +kernel) (by kernel_rfl) (by decide +kernel) rfl (fun K' hK => ?_)
    | refine AWP.drawL2 (by kernel_rfl) (by decide +kernel) rfl (fun K' hK => ?_)
    | (refine AQ.nil (hK _ ?_); clear hK K')
    | refine AQ.nil ?_
    | refine AQ.q rfl rfl (fun hg => by first | exact std0 | exact std1) (by exact rfl) ?_)
  · refine ⟨.inr rfl, Ent.b ?_⟩
    rw [hsz] at hc
    have : decide (t.length ≤ 200) = false := by simp; omega
    unfold textOk; rw [this]; rfl
  refine AWP.loopW (ι := Nat) (fun k => [(0, .bs t), (3, .int k)]) (fun _ => []) (fun k => k ≤ t.length ∧ ∀ j, j < k → 32 ≤ (t.getD j 0).toNat ∧ (t.getD j 0).toNat ≤ 126) (fun k => t.length - k) 0 ⟨Nat.zero_le _, fun j h => absurd h (by omega)⟩ ⟨rfl, rfl, True.intro⟩ rfl ?_
  rintro k ⟨hk, hall⟩
  rw [hsz] at hc
  by_cases hlt : k < t.length
  · repeat' (first
      | refine AOps.q rfl rfl rfl (fun hg => by first | exact std0 | exact std1) (by exact rfl) ?_
      | refine AWP.seq ?_
      | refine AWP.regionK (fun K' hK => ?_)
      | (refine AOps.nil (hK _ _ ?_); clear hK K')
      | refine AOps.e (EStep.boxW rfl rfl rfl rfl rfl True.intro rfl rfl ?_)
      | refine AOps.e (EStep.storeW tabOk rfl rfl rfl True.intro rfl rfl True.intro rfl rfl rfl rfl rfl rfl rfl ?_)
      | refine AOps.e (EStep.allocW tabOk rfl rfl rfl rfl rfl rfl ?_)
      | (refine AWP.condW rfl True.intro (fun hc => ?_) (fun hc => ?_) <;> (first | (simp only [decide_eq_true_eq] at hc) | (simp only [decide_eq_false_iff_not, Int.not_lt, Int.not_le] at hc) | skip))
      | refine AWP.block ?_
      | refine AWP.exit ?_
      | refine AWP.skip ?_
      | refine AWP.ret ?_
      | refine AWP.drawK2 (by decide +kernel) (by kernel_rfl) (by decide +kernel) rfl (fun K' hK => ?_)
      | refine AWP.drawL2 (by kernel_rfl) (by decide +kernel) rfl (fun K' hK => ?_)
      | (refine AQ.nil (hK _ ?_); clear hK K')
      | refine AQ.nil ?_
      | refine AQ.q rfl rfl (fun hg => by first | exact std0 | exact std1) (by exact rfl) ?_)
    · refine ⟨.inr rfl, Ent.b (Eq.symm (text_bad hlt ?_))⟩
      simp only [Int.toNat_natCast, Bool.or_eq_true, Bool.and_eq_true, Bool.or_eq_false_iff, Bool.and_eq_false_iff, decide_eq_true_eq, decide_eq_false_iff_not, Bool.not_eq_true', Bool.not_eq_false', beq_iff_eq, beq_eq_false_iff_ne, bne_iff_ne, bne_eq_false_iff_eq, gt_iff_lt, ge_iff_le, ne_eq] at hc; omega
    · refine ⟨k + 1, ⟨by omega, fun j hj => lt_succ_cases hall ?_ hj⟩, by omega, ⟨rfl, rfl, True.intro⟩, rfl⟩
      simp only [Int.toNat_natCast, Bool.or_eq_true, Bool.and_eq_true, Bool.or_eq_false_iff, Bool.and_eq_false_iff, decide_eq_true_eq, decide_eq_false_iff_not, Bool.not_eq_true', Bool.not_eq_false', beq_iff_eq, beq_eq_false_iff_ne, bne_iff_ne, bne_eq_false_iff_eq, gt_iff_lt, ge_iff_le, ne_eq] at hc; omega
    · exfalso; omega
  · repeat' (first
      | refine AOps.q rfl rfl rfl (fun hg => by first | exact std0 | exact std1) (by exact rfl) ?_
      | refine AWP.seq ?_
      | refine AWP.regionK (fun K' hK => ?_)
      | (refine AOps.nil (hK _ _ ?_); clear hK K')
      | refine AOps.e (EStep.boxW rfl rfl rfl rfl rfl True.intro rfl rfl ?_)
      | refine AOps.e (EStep.storeW tabOk rfl rfl rfl True.intro rfl rfl True.intro rfl rfl rfl rfl rfl rfl rfl ?_)
      | refine AOps.e (EStep.allocW tabOk rfl rfl rfl rfl rfl rfl ?_)
      | (refine AWP.condW rfl True.intro (fun hc => ?_) (fun hc => ?_) <;> (first | (simp only [decide_eq_true_eq] at hc) | (simp only [decide_eq_false_iff_not, Int.not_lt, Int.not_le] at hc) | skip))
      | refine AWP.block ?_
      | refine AWP.exit ?_
      | refine AWP.skip ?_
      | refine AWP.ret ?_
      | refine AWP.drawK2 (by decide +kernel) (by kernel_rfl) (by decide +kernel) rfl (fun K' hK => ?_)
      | refine AWP.drawL2 (by kernel_rfl) (by decide +kernel) rfl (fun K' hK => ?_)
      | (refine AQ.nil (hK _ ?_); clear hK K')
      | refine AQ.nil ?_
      | refine AQ.q rfl rfl (fun hg => by first | exact std0 | exact std1) (by exact rfl) ?_)
    all_goals (first | (exfalso; omega) | skip)
    · exact ⟨.inr rfl, Ent.b (text_good (by omega) fun j hj => hall j (by omega)).symm⟩
theorem flM : flatN Try.prog 25 = some [.int .i64, .int .i64, .int .i64, .int .i64, .int .i64, .int .i64, .int .i64, .int .i64, .int .i64, .str] := by kernel_rfl
theorem flE : flatN Try.prog 27 = some [.int .i64, .int .i64, .int .i64, .int .i64, .int .i64, .int .i64, .int .i64, .int .i64, .int .i64, .int .i64, .int .i64, .int .i64, .int .i64, .str] := by kernel_rfl
theorem flR : flatN Try.prog 23 = some [.int .i64, .int .i64, .int .i64] := by kernel_rfl
theorem valid19_spec (m : Jo.Mark) (ht : m.text.length ≤ 9223372036854775807) : PCall Try.prog 39 [.agg (encM m)] (.b (markOk m)) := by
  have v := by19_spec m.layer m.who
  have w := text19_spec m.text ht
  refine PCall.body Try.func39 rfl rfl Try.ntmps39 rfl rfl ?_
  repeat' (first
    | refine AOps.q rfl rfl rfl (fun hg => by first | exact std0 | exact PRun.callW (v) rfl rfl nd rfl nds | exact PRun.callW (w) rfl rfl nd rfl nds | exact PRun.callW (in19_spec _ _ _) rfl rfl nd rfl nds | exact PRun.callW (id19_spec _) rfl rfl nd rfl nds | exact std1) (by exact rfl) ?_
    | refine AWP.seq ?_
    | refine AWP.regionK (fun K' hK => ?_)
    | (refine AOps.nil (hK _ _ ?_); clear hK K')
    | refine AOps.e (EStep.boxW rfl rfl rfl rfl rfl True.intro rfl rfl ?_)
    | refine AOps.e (EStep.storeW tabOk rfl rfl rfl True.intro rfl rfl True.intro rfl rfl rfl rfl rfl rfl rfl ?_)
    | refine AOps.e (EStep.allocW tabOk rfl rfl rfl rfl rfl rfl ?_)
    | (refine AWP.condW rfl True.intro (fun hc => ?_) (fun hc => ?_) <;> (first | (simp only [decide_eq_true_eq] at hc) | (simp only [decide_eq_false_iff_not, Int.not_lt, Int.not_le] at hc) | skip))
    | refine AWP.block ?_
    | refine AWP.exit ?_
    | refine AWP.skip ?_
    | refine AWP.ret ?_
    | refine AWP.drawK2 (by decide +kernel) (by kernel_rfl) (by decide +kernel) rfl (fun K' hK => ?_)
    | refine AWP.drawL2 (by kernel_rfl) (by decide +kernel) rfl (fun K' hK => ?_)
    | (refine AQ.nil (hK _ ?_); clear hK K')
    | refine AQ.nil ?_
    | refine AQ.q rfl rfl (fun hg => by first | exact std0 | exact PRun.callW (v) rfl rfl nd rfl nds | exact PRun.callW (w) rfl rfl nd rfl nds | exact PRun.callW (in19_spec _ _ _) rfl rfl nd rfl nds | exact PRun.callW (id19_spec _) rfl rfl nd rfl nds | exact std1) (by exact rfl) ?_)
  · refine ⟨.inr rfl, Ent.b ?_⟩
    unfold markOk
    (revert hc; generalize (textOk m.text) = z0; generalize (byOk m.layer m.who) = z1; generalize (isId m.id) = z2; generalize (isId m.version) = z3; generalize (isId m.note) = z4; generalize (inR m.kind 1 5) = z5; generalize (inR m.value 0 1000) = z6; generalize (m.kind != 1 || decide (m.value ≤ 2)) = z7; revert z0 z1 z2 z3 z4 z5 z6 z7; decide)
  · refine ⟨.inr rfl, Ent.b ?_⟩
    unfold markOk
    show (inR m.value 0 1000 && (m.kind != 1 || decide (m.value ≤ 2))) = _
    (revert hc; generalize (textOk m.text) = z0; generalize (byOk m.layer m.who) = z1; generalize (isId m.id) = z2; generalize (isId m.version) = z3; generalize (isId m.note) = z4; generalize (inR m.kind 1 5) = z5; generalize (inR m.value 0 1000) = z6; generalize (m.kind != 1 || decide (m.value ≤ 2)) = z7; revert z0 z1 z2 z3 z4 z5 z6 z7; decide)

theorem bs_beq (t u : Bs) : ((⟨t.toArray⟩ : ByteArray) == ⟨u.toArray⟩) = (t == u) := by
  show (t.toArray == u.toArray) = (t == u)
  rw [Bool.eq_iff_iff]; simp
/-- Two marks, cell by cell. -/
def eqM (m k : Jo.Mark) : Bool := m.id == k.id && (m.kind == k.kind && (m.layer == k.layer && (m.who.part == k.who.part && (m.who.desk == k.who.desk && (m.who.seat == k.who.seat && (m.version == k.version && (m.note == k.note && (m.value == k.value && (((⟨m.text.toArray⟩ : ByteArray) == ⟨k.text.toArray⟩) && true)))))))))
theorem eqM_eq (m k : Jo.Mark) : eqM m k = (m == k) := by
  unfold eqM
  rw [bs_beq, Bool.eq_iff_iff]
  obtain ⟨a, b, c, ⟨d, e, f⟩, g, h, i, j⟩ := m
  obtain ⟨a', b', c', ⟨d', e', f'⟩, g', h', i', j'⟩ := k
  simp
  exact fun _ _ _ => ⟨fun ⟨h1, h2, h3, h4⟩ => ⟨⟨h1, h2, h3⟩, h4⟩, fun ⟨⟨h1, h2, h3⟩, h4⟩ => ⟨h1, h2, h3, h4⟩⟩
def eqE (e k : Ev) : Bool := e.clock == k.clock && (e.stand == k.stand && (e.kind == k.kind && (e.n == k.n && eqM e.mark k.mark)))
theorem eqE_eq (m k : Ev) : eqE m k = (m == k) := by
  unfold eqE
  rw [eqM_eq, Bool.eq_iff_iff]
  obtain ⟨a, b, c, d, e⟩ := m
  obtain ⟨a', b', c', d', e'⟩ := k
  simp
theorem event22_spec (e : Ev) (ht : e.mark.text.length ≤ 9223372036854775807) : PCall Try.prog 23 [.agg (encE e)] (.b (evOk e)) := by
  have v := valid19_spec e.mark ht
  refine PCall.body Try.func23 rfl rfl Try.ntmps23 rfl rfl ?_
  repeat' (first
    | refine AOps.q rfl rfl rfl (fun hg => by first | exact std0 | exact PRun.callW (v) rfl rfl nd rfl nds | exact PRun.callW (in22_spec _ _ _) rfl rfl nd rfl nds | exact PRun.callW (id19_spec _) rfl rfl nd rfl nds | exact PRun.eqN flM rfl rfl nd rfl nd rfl | exact PRun.buildW tabOk rfl rfl nds | exact std1) (by exact rfl) ?_
    | refine AWP.seq ?_
    | refine AWP.regionK (fun K' hK => ?_)
    | (refine AOps.nil (hK _ _ ?_); clear hK K')
    | refine AOps.e (EStep.boxW rfl rfl rfl rfl rfl True.intro rfl rfl ?_)
    | refine AOps.e (EStep.storeW tabOk rfl rfl rfl True.intro rfl rfl True.intro rfl rfl rfl rfl rfl rfl rfl ?_)
    | refine AOps.e (EStep.allocW tabOk rfl rfl rfl rfl rfl rfl ?_)
    | (refine AWP.condW rfl True.intro (fun hc => ?_) (fun hc => ?_) <;> (first | (simp only [decide_eq_true_eq] at hc) | (simp only [decide_eq_false_iff_not, Int.not_lt, Int.not_le] at hc) | skip))
    | refine AWP.block ?_
    | refine AWP.exit ?_
    | refine AWP.skip ?_
    | refine AWP.ret ?_
    | refine AWP.drawK2 (by decide +kernel) (by kernel_rfl) (by decide +kernel) rfl (fun K' hK => ?_)
    | refine AWP.drawL2 (by kernel_rfl) (by decide +kernel) rfl (fun K' hK => ?_)
    | (refine AQ.nil (hK _ ?_); clear hK K')
    | refine AQ.nil ?_
    | refine AQ.q rfl rfl (fun hg => by first | exact std0 | exact PRun.callW (v) rfl rfl nd rfl nds | exact PRun.callW (in22_spec _ _ _) rfl rfl nd rfl nds | exact PRun.callW (id19_spec _) rfl rfl nd rfl nds | exact PRun.eqN flM rfl rfl nd rfl nd rfl | exact PRun.buildW tabOk rfl rfl nds | exact std1) (by exact rfl) ?_)
  all_goals (refine ⟨.inr rfl, Ent.b ?_⟩; unfold evOk)
  · revert hc
    cases inR e.clock 0 1000000000 <;> cases isId e.stand <;> simp
  · have := hc; simp_all
  · show (isId e.n && eqM e.mark noMark) = _
    rw [eqM_eq]; simp_all
  · show (inR e.n 0 1000 && eqM e.mark noMark) = _
    rw [eqM_eq]; simp_all
  · simp_all
end Go.Proofs.Ytpkolkfglgalpaa
