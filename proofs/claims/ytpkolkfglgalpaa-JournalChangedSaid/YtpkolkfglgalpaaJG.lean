/- Contracts by content: the codec of the reference: whole frames. No statement is proved here. -/
import Derived.Test.YtpkolkfglgalpaaJF
set_option linter.unusedVariables false
set_option linter.unusedSimpArgs false
namespace Go.Proofs.Ytpkolkfglgalpaa
open Go.Ab Go.Jo
attribute [local irreducible] AWP AOps EStep AQ PStep PRun PCall TCall VCall DStep TDies AWD DCall

theorem cv8 (c : UInt8) : IntKind.i64.wrap (c.toNat : Int) = (c.toNat : Int) := by
  have := c.toNat_lt
  exact wrap64_in (by omega)
def wholeR (b : Bs) : List Int × Int := match whole b with
  | some p => (p.1, p.2)
  | none => ([], 0)
theorem wholeR_len {b : Bs} (h : b.length < n3 b + 11 ∨ b.length < 11) : wholeR b = ([], 0) := by
  unfold wholeR whole
  by_cases h11 : b.length < 11
  · rw [if_pos h11]
  · rw [if_neg h11, if_pos (by omega)]
theorem wholeR_sum {b : Bs} (h1 : 11 ≤ b.length) (h2 : n3 b + 11 ≤ b.length) (h : sumB (b.take (n3 b + 3)) ≠ (b.drop (n3 b + 3)).take 8) : wholeR b = ([], 0) := by
  unfold wholeR whole
  rw [if_neg (by omega), if_neg (by omega), if_neg h]
theorem wholeR_get {b : Bs} (h1 : 11 ≤ b.length) (h2 : n3 b + 11 ≤ b.length) (h : sumB (b.take (n3 b + 3)) = (b.drop (n3 b + 3)).take 8) : wholeR b = match getL ((b.take (n3 b + 3)).drop 3) with | some l => (l, ((n3 b + 11 : Nat) : Int)) | none => ([], 0) := by
  unfold wholeR whole
  rw [if_neg (by omega), if_neg (by omega), if_pos h]
  cases getL ((b.take (n3 b + 3)).drop 3) <;> rfl
theorem n3_int (b : Bs) : ((b.getD (0 : Int).toNat default).toNat : Int) * 65536 + ((b.getD (1 : Int).toNat default).toNat : Int) * 256 + ((b.getD (2 : Int).toNat default).toNat : Int) = (n3 b : Nat) := by
  show _ = (((b.getD 0 0).toNat * 65536 + (b.getD 1 0).toNat * 256 + (b.getD 2 0).toNat : Nat) : Int)
  rw [Int.natCast_add, Int.natCast_add, Int.natCast_mul, Int.natCast_mul]; rfl
set_option maxHeartbeats 1600000 in
theorem whole05_spec (b : Bs) (hl : b.length ≤ 4611686018427387904) : PCall Try.prog 48 [.sl 1 (b.map by8) .no] (tupLI (wholeR b).1 (wholeR b).2) := by
  have c0 := (b.getD (0 : Int).toNat default).toNat_lt
  have c1 := (b.getD (1 : Int).toNat default).toNat_lt
  have c2 := (b.getD (2 : Int).toNat default).toNat_lt
  have hN := n3_int b
  refine PCall.body Try.func48 rfl rfl Try.ntmps48 rfl rfl ?_
  by_cases h11 : b.length < 11
  · repeat' (first
      | refine AOps.q rfl rfl rfl (fun hg => by first | exact std0 | exact std1) (by exact rfl) ?_
      | refine AWP.seq ?_
      | refine AWP.regionK (fun K' hK => ?_)
      | (refine AOps.nil (hK _ _ ?_); clear hK K')
      | refine AOps.e (EStep.boxW rfl rfl rfl rfl rfl True.intro rfl rfl ?_)
      | refine AOps.e (EStep.storeW tabOk rfl rfl rfl True.intro rfl rfl True.intro rfl rfl rfl rfl rfl rfl rfl ?_)
      | refine AOps.e (EStep.allocW tabOk rfl rfl rfl rfl rfl rfl ?_)
      | (refine AWP.condW rfl True.intro (fun hc => ?_) (fun hc => ?_) <;> (first | (simp only [decide_eq_true_eq] at hc) | (simp only [decide_eq_false_iff_not, Int.not_lt, Int.not_le] at hc) | skip))
      | refine AWP.block ?_
      | refine AWP.exit ?_
      | refine AWP.skip ?_
      | refine AWP.ret ?_
      | refine AWP.drawK2 (by decide +kernel) (by kernel_rfl) (by decide +kernel) rfl (fun K' hK => ?_)
      | refine AWP.drawL2 (by kernel_rfl) (by decide +kernel) rfl (fun K' hK => ?_)
      | (refine AQ.nil (hK _ ?_); clear hK K')
      | refine AQ.nil ?_
      | refine AQ.q rfl rfl (fun hg => by first | exact std0 | exact std1) (by exact rfl) ?_)
    · refine ⟨.inr rfl, ?_⟩
      rw [wholeR_len (.inr h11)]
      exact Ent.tup2 Ent.nil (Ent.rfl' _)
    all_goals (exfalso; first | omega | (simp at hc; done) | (simp only [Int.toNat_natCast, Bool.or_eq_true, Bool.and_eq_true, Bool.or_eq_false_iff, Bool.and_eq_false_iff, decide_eq_true_eq, decide_eq_false_iff_not, Bool.not_eq_true', Bool.not_eq_false', beq_iff_eq, beq_eq_false_iff_ne, bne_iff_ne, bne_eq_false_iff_eq, gt_iff_lt, ge_iff_le, ne_eq] at hc; omega))
  repeat' (first
    | refine AOps.q rfl rfl rfl (fun hg => by first | exact PRun.convV tabOk (cv8 _) rfl rfl nd rfl rfl | exact std0 | exact PRun.sliceLoM tabOk rfl rfl nd rfl nd rfl (by omega) | exact PRun.sliceHiM tabOk rfl rfl nd rfl nd rfl (by omega) | exact PRun.sliceM tabOk rfl rfl nd rfl nd rfl nd rfl (by omega) | exact PRun.callW (sum04_spec _ (by rw [List.length_take]; omega)) rfl rfl nd rfl nds | exact PRun.callW (bytes05_spec _ (fnv_lt _)) rfl rfl nd rfl nds | exact PRun.callW (sameBytes_spec _ _) rfl rfl nd rfl nds | exact PRun.callW (get05_spec _ (by rw [List.length_drop, List.length_take]; omega)) rfl rfl nd rfl nds | exact std1) (by exact rfl) ?_
    | refine AWP.seq ?_
    | refine AWP.regionK (fun K' hK => ?_)
    | (refine AOps.nil (hK _ _ ?_); clear hK K')
    | refine AOps.e (EStep.boxW rfl rfl rfl rfl rfl True.intro rfl rfl ?_)
    | refine AOps.e (EStep.storeW tabOk rfl rfl rfl True.intro rfl rfl True.intro rfl rfl rfl rfl rfl rfl rfl ?_)
    | refine AOps.e (EStep.allocW tabOk rfl rfl rfl rfl rfl rfl ?_)
    | (refine AWP.condW rfl True.intro (fun hc => ?_) (fun hc => ?_) <;> (first | (simp only [decide_eq_true_eq] at hc) | (simp only [decide_eq_false_iff_not, Int.not_lt, Int.not_le] at hc) | skip))
    | refine AWP.block ?_
    | refine AWP.exit ?_
    | refine AWP.skip ?_
    | refine AWP.ret ?_
    | refine AWP.drawK2 (by decide +kernel) (by kernel_rfl) (by decide +kernel) rfl (fun K' hK => ?_)
    | refine AWP.drawL2 (by kernel_rfl) (by decide +kernel) rfl (fun K' hK => ?_)
    | (refine AQ.nil (hK _ ?_); clear hK K')
    | refine AQ.nil ?_
    | refine AQ.q rfl rfl (fun hg => by first | exact PRun.convV tabOk (cv8 _) rfl rfl nd rfl rfl | exact std0 | exact PRun.sliceLoM tabOk rfl rfl nd rfl nd rfl (by omega) | exact PRun.sliceHiM tabOk rfl rfl nd rfl nd rfl (by omega) | exact PRun.sliceM tabOk rfl rfl nd rfl nd rfl nd rfl (by omega) | exact PRun.callW (sum04_spec _ (by rw [List.length_take]; omega)) rfl rfl nd rfl nds | exact PRun.callW (bytes05_spec _ (fnv_lt _)) rfl rfl nd rfl nds | exact PRun.callW (sameBytes_spec _ _) rfl rfl nd rfl nds | exact PRun.callW (get05_spec _ (by rw [List.length_drop, List.length_take]; omega)) rfl rfl nd rfl nds | exact std1) (by exact rfl) ?_)
  · (exfalso; first | omega | (simp at hc; done) | (simp only [Int.toNat_natCast, Bool.or_eq_true, Bool.and_eq_true, Bool.or_eq_false_iff, Bool.and_eq_false_iff, decide_eq_true_eq, decide_eq_false_iff_not, Bool.not_eq_true', Bool.not_eq_false', beq_iff_eq, beq_eq_false_iff_ne, bne_iff_ne, bne_eq_false_iff_eq, gt_iff_lt, ge_iff_le, ne_eq] at hc; omega))
  · refine ⟨.inr rfl, ?_⟩
    rw [wholeR_len (.inl (by omega))]
    exact Ent.tup2 Ent.nil (Ent.rfl' _)
  all_goals (
    have h2 : n3 b + 11 ≤ b.length := by omega
    have n1 : (3 + (((b.getD (0 : Int).toNat default).toNat : Int) * 65536 + ((b.getD (1 : Int).toNat default).toNat : Int) * 256 + ((b.getD (2 : Int).toNat default).toNat : Int))).toNat = n3 b + 3 := by omega
    have n2 : (11 + (((b.getD (0 : Int).toNat default).toNat : Int) * 65536 + ((b.getD (1 : Int).toNat default).toNat : Int) * 256 + ((b.getD (2 : Int).toNat default).toNat : Int))).toNat = n3 b + 11 := by omega
    have n3' : (b.take (n3 b + 11)).drop (n3 b + 3) = (b.drop (n3 b + 3)).take 8 := by rw [List.drop_take]; congr 1; omega)
  · refine ⟨.inr rfl, ?_⟩
    rw [n1, n2, n3'] at hc
    rw [wholeR_sum (by omega) h2 (by intro he; unfold sumB at he; rw [he] at hc; simp at hc)]
    exact Ent.tup2 Ent.nil (Ent.rfl' _)
  · refine ⟨.inr rfl, ?_⟩
    rename_i hs
    rw [n1, n2, n3'] at hs
    rw [n1] at hc
    have he : sumB (b.take (n3 b + 3)) = (b.drop (n3 b + 3)).take 8 := by unfold sumB; simp at hs; exact hs.symm
    have hq := wholeR_get (by omega) h2 he
    rw [show ((b.take (n3 b + 3)).drop (3 : Int).toNat) = (b.take (n3 b + 3)).drop 3 from rfl] at hc
    cases hg : getL ((b.take (n3 b + 3)).drop 3) with
    | some l => rw [getR_some hg] at hc; simp at hc
    | none =>
      rw [hg] at hq
      rw [hq]
      exact Ent.tup2 Ent.nil (Ent.rfl' _)
  · refine ⟨.inr rfl, Ent.of ?_⟩
    rename_i hs
    rw [n1, n2, n3'] at hs
    have he : sumB (b.take (n3 b + 3)) = (b.drop (n3 b + 3)).take 8 := by unfold sumB; simp at hs; exact hs.symm
    have hq := wholeR_get (by omega) h2 he
    rw [n1] at hc
    rw [show ((b.take (n3 b + 3)).drop (3 : Int).toNat) = (b.take (n3 b + 3)).drop 3 from rfl] at hc
    cases hg : getL ((b.take (n3 b + 3)).drop 3) with
    | none => rw [getR_none hg] at hc; simp at hc
    | some l =>
      rw [hg] at hq
      rw [hq]
      show AV.tup [.sl 1 ((getR ((b.take ((3 : Int) + _).toNat).drop (3 : Int).toNat)).1.map encN) .no, .int _] = _
      rw [n1, show ((b.take (n3 b + 3)).drop (3 : Int).toNat) = (b.take (n3 b + 3)).drop 3 from rfl, getR_some hg]
      show AV.tup [_, .int _] = AV.tup [_, .int _]
      congr 3
end Go.Proofs.Ytpkolkfglgalpaa
