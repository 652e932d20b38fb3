/- Contracts by content: the program's codec: integers as bytes. No statement is proved here. -/
import Derived.Test.YtpkolkfglgalpaaJD
import Derived.Lib.Zigzag
set_option linter.unusedVariables false
set_option linter.unusedSimpArgs false
namespace Go.Proofs.Ytpkolkfglgalpaa
open Go.Ab Go.Jo
attribute [local irreducible] AWP AOps EStep AQ PStep PRun PCall TCall VCall DStep TDies AWD DCall

theorem zig_bits {n : Int} (hn : InI n) : bits .xor .u64 (IntKind.u64.wrap (IntKind.u64.wrap n * 2 ^ (Min.min (1 : Int).toNat IntKind.u64.bits))) (IntKind.u64.wrap (n.fdiv (2 ^ (Min.min (63 : Int).toNat IntKind.i64.bits)))) = ((zig n : Nat) : Int) := by
  have h1 := hn.1
  have h2 := hn.2
  have e1 : (2 : Int) ^ (Min.min (1 : Int).toNat IntKind.u64.bits) = 2 := by decide
  have e2 : (2 : Int) ^ (Min.min (63 : Int).toNat IntKind.i64.bits) = 9223372036854775808 := by decide
  rw [e1, e2, Int.fdiv_eq_ediv_of_nonneg _ (by decide)]
  have hz := zig_lt hn
  by_cases h : 0 ≤ n
  · have a1 : IntKind.u64.wrap (IntKind.u64.wrap n * 2) = ((zig n : Nat) : Int) := by
      rw [IntKind.wrap_u64, IntKind.wrap_u64]; unfold zig; rw [if_pos h]; omega
    have a2 : IntKind.u64.wrap (n / 9223372036854775808) = ((0 : Nat) : Int) := by
      rw [IntKind.wrap_u64]; omega
    rw [a1, a2, bits_xor_u64_nat _ _ hz (by decide), Nat.xor_zero]
  · have a1 : IntKind.u64.wrap (IntKind.u64.wrap n * 2) = (((2 * n + 18446744073709551616).toNat : Nat) : Int) := by
      rw [IntKind.wrap_u64, IntKind.wrap_u64]; omega
    have a2 : IntKind.u64.wrap (n / 9223372036854775808) = ((18446744073709551615 : Nat) : Int) := by
      rw [IntKind.wrap_u64]; omega
    rw [a1, a2, bits_xor_u64_nat _ _ (by omega) (by decide), Nat.xor_comm, show (18446744073709551615 : Nat) = 2 ^ 64 - 1 from by decide, Lib.xor_ones64 _ (by omega)]
    unfold zig; rw [if_neg h]; omega
theorem number_spec (n : Int) (hn : InI n) : PCall Try.prog 66 [.int n] (.prim (.int .u64 (zig n : Nat))) := by
  refine PCall.body Try.func66 rfl rfl Try.ntmps66 rfl rfl ?_
  repeat' (first
    | refine AOps.q rfl rfl rfl (fun hg => by first | exact std0 | exact PRun.bitsW rfl rfl nd rfl nd rfl | exact PRun.shlW rfl rfl nd rfl nd (by omega) | exact PRun.shrW rfl rfl nd rfl nd (by omega) | exact std1) (by exact rfl) ?_
    | refine AWP.seq ?_
    | refine AWP.regionK (fun K' hK => ?_)
    | (refine AOps.nil (hK _ _ ?_); clear hK K')
    | refine AOps.e (EStep.boxW rfl rfl rfl rfl rfl True.intro rfl rfl ?_)
    | refine AOps.e (EStep.storeW tabOk rfl rfl rfl True.intro rfl rfl True.intro rfl rfl rfl rfl rfl rfl rfl ?_)
    | refine AOps.e (EStep.allocW tabOk rfl rfl rfl rfl rfl rfl ?_)
    | (refine AWP.condW rfl True.intro (fun hc => ?_) (fun hc => ?_) <;> (first | (simp only [decide_eq_true_eq] at hc) | (simp only [decide_eq_false_iff_not, Int.not_lt, Int.not_le] at hc) | skip))
    | refine AWP.block ?_
    | refine AWP.exit ?_
    | refine AWP.skip ?_
    | refine AWP.ret ?_
    | refine AWP.drawK2 (by decide +kernel) (by kernel_rfl) (by decide +kernel) rfl (fun K' hK => ?_)
    | refine AWP.drawL2 (by kernel_rfl) (by decide +kernel) rfl (fun K' hK => ?_)
    | (refine AQ.nil (hK _ ?_); clear hK K')
    | refine AQ.nil ?_
    | refine AQ.q rfl rfl (fun hg => by first | exact std0 | exact PRun.bitsW rfl rfl nd rfl nd rfl | exact PRun.shlW rfl rfl nd rfl nd (by omega) | exact PRun.shrW rfl rfl nd rfl nd (by omega) | exact std1) (by exact rfl) ?_)
  refine ⟨.inr rfl, Ent.of ?_⟩
  show AV.prim (.int .u64 _) = _
  rw [zig_bits hn]
theorem or128k : ∀ c : Fin 256, bits .or .u8 ((c.val : Nat) : Int) 128 = ((c.val % 128 + 128 : Nat) : Int) := by decide +kernel
theorem or128 (u : Nat) : bits .or .u8 (IntKind.u8.wrap (u : Int)) 128 = ((UInt8.ofNat (u % 128 + 128)).toNat : Int) := by
  have h := or128k ⟨u % 256, by omega⟩
  have e : IntKind.u8.wrap (u : Int) = ((u % 256 : Nat) : Int) := by rw [wrap8]; omega
  rw [e, ofNat_toNat8]
  refine h.trans ?_
  simp only
  omega
theorem shr7 (u : Nat) : (u : Int).fdiv (2 ^ (Min.min (7 : Int).toNat IntKind.u64.bits)) = ((u / 128 : Nat) : Int) := by
  have e2 : (2 : Int) ^ (Min.min (7 : Int).toNat IntKind.u64.bits) = 128 := by decide
  rw [e2, Int.fdiv_eq_ediv_of_nonneg _ (by decide)]; omega
theorem own8 (a b : Bs) : [AObj.own 1 (a.map by8 ++ b.map by8).length] = [AObj.own 1 ((a ++ b).map by8).length] := by rw [List.map_append]
theorem put_T (n : Int) (hn : InI n) (out : Bs) (ho : out.length ≤ 1000000) : TCall Try.prog 55 [.sl 1 (out.map by8) (.own 0), .int n] [.own 1 (out.map by8).length] (fun r s => r = .sl 1 ((out ++ num n).map by8) (.own 0) ∧ s = [.own 1 ((out ++ num n).map by8).length]) := by
  have hz := zig_lt hn
  have hv := number_spec n hn
  refine TCall.body Try.func55 rfl rfl Try.ntmps55 rfl rfl ?_
  repeat' (first
    | refine AOps.q rfl rfl rfl (fun hg => by first | exact std0 | exact PRun.callW (hv) rfl rfl nd rfl nds | exact std1) (by exact rfl) ?_
    | refine AWP.seq ?_
    | refine AWP.regionK (fun K' hK => ?_)
    | (refine AOps.nil (hK _ _ ?_); clear hK K')
    | refine AOps.e (EStep.boxW rfl rfl rfl rfl rfl True.intro rfl rfl ?_)
    | refine AOps.e (EStep.storeW tabOk rfl rfl rfl True.intro rfl rfl True.intro rfl rfl rfl rfl rfl rfl rfl ?_)
    | refine AOps.e (EStep.allocW tabOk rfl rfl rfl rfl rfl rfl ?_)
    | (refine AWP.condW rfl True.intro (fun hc => ?_) (fun hc => ?_) <;> (first | (simp only [decide_eq_true_eq] at hc) | (simp only [decide_eq_false_iff_not, Int.not_lt, Int.not_le] at hc) | skip))
    | refine AWP.block ?_
    | refine AWP.exit ?_
    | refine AWP.skip ?_
    | refine AWP.ret ?_
    | refine AWP.drawK2 (by decide +kernel) (by kernel_rfl) (by decide +kernel) rfl (fun K' hK => ?_)
    | refine AWP.drawL2 (by kernel_rfl) (by decide +kernel) rfl (fun K' hK => ?_)
    | (refine AQ.nil (hK _ ?_); clear hK K')
    | refine AQ.nil ?_
    | refine AQ.q rfl rfl (fun hg => by first | exact std0 | exact PRun.callW (hv) rfl rfl nd rfl nds | exact std1) (by exact rfl) ?_)
  refine AWP.loopW (ι := Nat × Bs × Nat) (fun i => [(0, .sl 1 (i.2.1.map by8) (.own 0)), (5, .prim (.int .u64 (i.1 : Nat)))]) (fun i => [.own 1 (i.2.1.map by8).length]) (fun i => i.2.1 ++ lebF (i.2.2 + 1) i.1 = out ++ num n ∧ i.1 < 128 ^ (i.2.2 + 1) ∧ i.2.1.length + i.2.2 = out.length + 9) (fun i => i.2.2) (zig n, out, 9) ⟨rfl, by simp only; omega, rfl⟩ ⟨rfl, rfl, True.intro⟩ rfl ?_
  rintro ⟨u, out', f⟩ ⟨g1, g2, g3⟩
  dsimp only at g1 g2 g3 ⊢
  by_cases hu : 127 < u
  · repeat' (first
      | refine AOps.q rfl rfl rfl (fun hg => by first | exact std0 | exact PRun.bitsW rfl rfl nd rfl nd rfl | exact PRun.shlW rfl rfl nd rfl nd (by omega) | exact PRun.shrW rfl rfl nd rfl nd (by omega) | exact PRun.buildSlW tabOk rfl rfl nds | exact std1) (by exact rfl) ?_
      | refine AWP.seq ?_
      | refine AWP.regionK (fun K' hK => ?_)
      | (refine AOps.nil (hK _ _ ?_); clear hK K')
      | refine AOps.e (EStep.boxW rfl rfl rfl rfl rfl True.intro rfl rfl ?_)
      | refine AOps.e (EStep.storeW tabOk rfl rfl rfl True.intro rfl rfl True.intro rfl rfl rfl rfl rfl rfl rfl ?_)
      | refine AOps.e (EStep.allocW tabOk rfl rfl rfl rfl rfl rfl ?_)
      | refine AOps.e (EStep.appendOwn' tabOk rfl rfl rfl (by decide) (Rd.w rfl True.intro) rfl (Rd.w rfl True.intro) (.sl rfl (by first | (intro x hx; rcases List.mem_singleton.1 hx with rfl; rfl) | exact one_by8 _ | exact one_ints _)) (LOk.of (tabOk.get rfl)) (LOk.of (tabOk.get rfl)) rfl rfl (by simp only [List.length_map, List.length_append, List.length_cons, List.length_nil]; omega) (by simp only [List.length_map, List.length_append, List.length_cons, List.length_nil]; omega) ?_)
      | (refine AWP.condW rfl True.intro (fun hc => ?_) (fun hc => ?_) <;> (first | (simp only [decide_eq_true_eq] at hc) | (simp only [decide_eq_false_iff_not, Int.not_lt, Int.not_le] at hc) | skip))
      | refine AWP.block ?_
      | refine AWP.exit ?_
      | refine AWP.skip ?_
      | refine AWP.ret ?_
      | refine AWP.drawK2 (by decide +kernel) (by kernel_rfl) (by decide +kernel) rfl (fun K' hK => ?_)
      | refine AWP.drawL2 (by kernel_rfl) (by decide +kernel) rfl (fun K' hK => ?_)
      | (refine AQ.nil (hK _ ?_); clear hK K')
      | refine AQ.nil ?_
      | refine AQ.q rfl rfl (fun hg => by first | exact std0 | exact PRun.bitsW rfl rfl nd rfl nd rfl | exact PRun.shlW rfl rfl nd rfl nd (by omega) | exact PRun.shrW rfl rfl nd rfl nd (by omega) | exact PRun.buildSlW tabOk rfl rfl nds | exact std1) (by exact rfl) ?_)
    · cases f with
      | zero => exfalso; simp at g2; omega
      | succ f' =>
        refine ⟨(u / 128, out' ++ [UInt8.ofNat (u % 128 + 128)], f'), ⟨by rw [← g1, lebF_step (u := u) (by omega)]; simp, div_pow g2, by simp; omega⟩, by simp, ⟨snoc8 (or128 u), ?_, True.intro⟩, (by show [AObj.own 1 (out'.map by8 ++ [_]).length] = [AObj.own 1 ((out' ++ [UInt8.ofNat (u % 128 + 128)]).map by8).length]; simp)⟩
        show AV.prim (.int .u64 _) = _
        rw [shr7]
    · (exfalso; first | omega | (simp at hc; done) | (simp only [Int.toNat_natCast, Bool.or_eq_true, Bool.and_eq_true, Bool.or_eq_false_iff, Bool.and_eq_false_iff, decide_eq_true_eq, decide_eq_false_iff_not, Bool.not_eq_true', Bool.not_eq_false', beq_iff_eq, beq_eq_false_iff_ne, bne_iff_ne, bne_eq_false_iff_eq, gt_iff_lt, ge_iff_le, ne_eq] at hc; omega))
  · repeat' (first
      | refine AOps.q rfl rfl rfl (fun hg => by first | exact std0 | exact PRun.bitsW rfl rfl nd rfl nd rfl | exact PRun.shlW rfl rfl nd rfl nd (by omega) | exact PRun.shrW rfl rfl nd rfl nd (by omega) | exact PRun.buildSlW tabOk rfl rfl nds | exact std1) (by exact rfl) ?_
      | refine AWP.seq ?_
      | refine AWP.regionK (fun K' hK => ?_)
      | (refine AOps.nil (hK _ _ ?_); clear hK K')
      | refine AOps.e (EStep.boxW rfl rfl rfl rfl rfl True.intro rfl rfl ?_)
      | refine AOps.e (EStep.storeW tabOk rfl rfl rfl True.intro rfl rfl True.intro rfl rfl rfl rfl rfl rfl rfl ?_)
      | refine AOps.e (EStep.allocW tabOk rfl rfl rfl rfl rfl rfl ?_)
      | refine AOps.e (EStep.appendOwn' tabOk rfl rfl rfl (by decide) (Rd.w rfl True.intro) rfl (Rd.w rfl True.intro) (.sl rfl (by first | (intro x hx; rcases List.mem_singleton.1 hx with rfl; rfl) | exact one_by8 _ | exact one_ints _)) (LOk.of (tabOk.get rfl)) (LOk.of (tabOk.get rfl)) rfl rfl (by simp only [List.length_map, List.length_append, List.length_cons, List.length_nil]; omega) (by simp only [List.length_map, List.length_append, List.length_cons, List.length_nil]; omega) ?_)
      | (refine AWP.condW rfl True.intro (fun hc => ?_) (fun hc => ?_) <;> (first | (simp only [decide_eq_true_eq] at hc) | (simp only [decide_eq_false_iff_not, Int.not_lt, Int.not_le] at hc) | skip))
      | refine AWP.block ?_
      | refine AWP.exit ?_
      | refine AWP.skip ?_
      | refine AWP.ret ?_
      | refine AWP.drawK2 (by decide +kernel) (by kernel_rfl) (by decide +kernel) rfl (fun K' hK => ?_)
      | refine AWP.drawL2 (by kernel_rfl) (by decide +kernel) rfl (fun K' hK => ?_)
      | (refine AQ.nil (hK _ ?_); clear hK K')
      | refine AQ.nil ?_
      | refine AQ.q rfl rfl (fun hg => by first | exact std0 | exact PRun.bitsW rfl rfl nd rfl nd rfl | exact PRun.shlW rfl rfl nd rfl nd (by omega) | exact PRun.shrW rfl rfl nd rfl nd (by omega) | exact PRun.buildSlW tabOk rfl rfl nds | exact std1) (by exact rfl) ?_)
    · exfalso; omega
    · have e : out ++ num n = out' ++ [UInt8.ofNat u] := by rw [← g1, lebF_last (by omega)]
      exact ⟨.inr rfl, _, [.own 1 ((out ++ num n).map by8).length], ⟨(snoc8 (t := .own 0) (w_last u)).trans (by rw [e]), rfl⟩, (by rw [e]; show [AObj.own 1 (out'.map by8 ++ [_]).length] = [AObj.own 1 ((out' ++ [UInt8.ofNat u]).map by8).length]; simp), Nat.le_refl _, rfl, rfl, rfl⟩
theorem put_nil (n : Int) (hn : InI n) : TCall Try.prog 55 [.nils, .int n] [] (fun r s => r = .sl 1 ((num n).map by8) (.own 0) ∧ s = [.own 1 ((num n).map by8).length]) := by
  have hz := zig_lt hn
  have hv := number_spec n hn
  refine TCall.body Try.func55 rfl rfl Try.ntmps55 rfl rfl ?_
  refine AWP.ownNil (d := 0) (sz := 1) rfl ?_
  repeat' (first
    | refine AOps.q rfl rfl rfl (fun hg => by first | exact std0 | exact PRun.callW (hv) rfl rfl nd rfl nds | exact std1) (by exact rfl) ?_
    | refine AWP.seq ?_
    | refine AWP.regionK (fun K' hK => ?_)
    | (refine AOps.nil (hK _ _ ?_); clear hK K')
    | refine AOps.e (EStep.boxW rfl rfl rfl rfl rfl True.intro rfl rfl ?_)
    | refine AOps.e (EStep.storeW tabOk rfl rfl rfl True.intro rfl rfl True.intro rfl rfl rfl rfl rfl rfl rfl ?_)
    | refine AOps.e (EStep.allocW tabOk rfl rfl rfl rfl rfl rfl ?_)
    | (refine AWP.condW rfl True.intro (fun hc => ?_) (fun hc => ?_) <;> (first | (simp only [decide_eq_true_eq] at hc) | (simp only [decide_eq_false_iff_not, Int.not_lt, Int.not_le] at hc) | skip))
    | refine AWP.block ?_
    | refine AWP.exit ?_
    | refine AWP.skip ?_
    | refine AWP.ret ?_
    | refine AWP.drawK2 (by decide +kernel) (by kernel_rfl) (by decide +kernel) rfl (fun K' hK => ?_)
    | refine AWP.drawL2 (by kernel_rfl) (by decide +kernel) rfl (fun K' hK => ?_)
    | (refine AQ.nil (hK _ ?_); clear hK K')
    | refine AQ.nil ?_
    | refine AQ.q rfl rfl (fun hg => by first | exact std0 | exact PRun.callW (hv) rfl rfl nd rfl nds | exact std1) (by exact rfl) ?_)
  refine AWP.loopW (ι := Nat × Bs × Nat) (fun i => [(0, .sl 1 (i.2.1.map by8) (.own 0)), (5, .prim (.int .u64 (i.1 : Nat)))]) (fun i => [.own 1 (i.2.1.map by8).length]) (fun i => i.2.1 ++ lebF (i.2.2 + 1) i.1 = num n ∧ i.1 < 128 ^ (i.2.2 + 1) ∧ i.2.1.length + i.2.2 = 9) (fun i => i.2.2) (zig n, [], 9) ⟨rfl, by simp only; omega, rfl⟩ ⟨rfl, rfl, True.intro⟩ rfl ?_
  rintro ⟨u, out', f⟩ ⟨g1, g2, g3⟩
  dsimp only at g1 g2 g3 ⊢
  by_cases hu : 127 < u
  · repeat' (first
      | refine AOps.q rfl rfl rfl (fun hg => by first | exact std0 | exact PRun.bitsW rfl rfl nd rfl nd rfl | exact PRun.shlW rfl rfl nd rfl nd (by omega) | exact PRun.shrW rfl rfl nd rfl nd (by omega) | exact PRun.buildSlW tabOk rfl rfl nds | exact std1) (by exact rfl) ?_
      | refine AWP.seq ?_
      | refine AWP.regionK (fun K' hK => ?_)
      | (refine AOps.nil (hK _ _ ?_); clear hK K')
      | refine AOps.e (EStep.boxW rfl rfl rfl rfl rfl True.intro rfl rfl ?_)
      | refine AOps.e (EStep.storeW tabOk rfl rfl rfl True.intro rfl rfl True.intro rfl rfl rfl rfl rfl rfl rfl ?_)
      | refine AOps.e (EStep.allocW tabOk rfl rfl rfl rfl rfl rfl ?_)
      | refine AOps.e (EStep.appendOwn' tabOk rfl rfl rfl (by decide) (Rd.w rfl True.intro) rfl (Rd.w rfl True.intro) (.sl rfl (by first | (intro x hx; rcases List.mem_singleton.1 hx with rfl; rfl) | exact one_by8 _ | exact one_ints _)) (LOk.of (tabOk.get rfl)) (LOk.of (tabOk.get rfl)) rfl rfl (by simp only [List.length_map, List.length_append, List.length_cons, List.length_nil]; omega) (by simp only [List.length_map, List.length_append, List.length_cons, List.length_nil]; omega) ?_)
      | (refine AWP.condW rfl True.intro (fun hc => ?_) (fun hc => ?_) <;> (first | (simp only [decide_eq_true_eq] at hc) | (simp only [decide_eq_false_iff_not, Int.not_lt, Int.not_le] at hc) | skip))
      | refine AWP.block ?_
      | refine AWP.exit ?_
      | refine AWP.skip ?_
      | refine AWP.ret ?_
      | refine AWP.drawK2 (by decide +kernel) (by kernel_rfl) (by decide +kernel) rfl (fun K' hK => ?_)
      | refine AWP.drawL2 (by kernel_rfl) (by decide +kernel) rfl (fun K' hK => ?_)
      | (refine AQ.nil (hK _ ?_); clear hK K')
      | refine AQ.nil ?_
      | refine AQ.q rfl rfl (fun hg => by first | exact std0 | exact PRun.bitsW rfl rfl nd rfl nd rfl | exact PRun.shlW rfl rfl nd rfl nd (by omega) | exact PRun.shrW rfl rfl nd rfl nd (by omega) | exact PRun.buildSlW tabOk rfl rfl nds | exact std1) (by exact rfl) ?_)
    · cases f with
      | zero => exfalso; simp at g2; omega
      | succ f' =>
        refine ⟨(u / 128, out' ++ [UInt8.ofNat (u % 128 + 128)], f'), ⟨by rw [← g1, lebF_step (u := u) (by omega)]; simp, div_pow g2, by simp; omega⟩, by simp, ⟨snoc8 (or128 u), ?_, True.intro⟩, (by show [AObj.own 1 (out'.map by8 ++ [_]).length] = [AObj.own 1 ((out' ++ [UInt8.ofNat (u % 128 + 128)]).map by8).length]; simp)⟩
        show AV.prim (.int .u64 _) = _
        rw [shr7]
    · (exfalso; first | omega | (simp at hc; done) | (simp only [Int.toNat_natCast, Bool.or_eq_true, Bool.and_eq_true, Bool.or_eq_false_iff, Bool.and_eq_false_iff, decide_eq_true_eq, decide_eq_false_iff_not, Bool.not_eq_true', Bool.not_eq_false', beq_iff_eq, beq_eq_false_iff_ne, bne_iff_ne, bne_eq_false_iff_eq, gt_iff_lt, ge_iff_le, ne_eq] at hc; omega))
  · repeat' (first
      | refine AOps.q rfl rfl rfl (fun hg => by first | exact std0 | exact PRun.bitsW rfl rfl nd rfl nd rfl | exact PRun.shlW rfl rfl nd rfl nd (by omega) | exact PRun.shrW rfl rfl nd rfl nd (by omega) | exact PRun.buildSlW tabOk rfl rfl nds | exact std1) (by exact rfl) ?_
      | refine AWP.seq ?_
      | refine AWP.regionK (fun K' hK => ?_)
      | (refine AOps.nil (hK _ _ ?_); clear hK K')
      | refine AOps.e (EStep.boxW rfl rfl rfl rfl rfl True.intro rfl rfl ?_)
      | refine AOps.e (EStep.storeW tabOk rfl rfl rfl True.intro rfl rfl True.intro rfl rfl rfl rfl rfl rfl rfl ?_)
      | refine AOps.e (EStep.allocW tabOk rfl rfl rfl rfl rfl rfl ?_)
      | refine AOps.e (EStep.appendOwn' tabOk rfl rfl rfl (by decide) (Rd.w rfl True.intro) rfl (Rd.w rfl True.intro) (.sl rfl (by first | (intro x hx; rcases List.mem_singleton.1 hx with rfl; rfl) | exact one_by8 _ | exact one_ints _)) (LOk.of (tabOk.get rfl)) (LOk.of (tabOk.get rfl)) rfl rfl (by simp only [List.length_map, List.length_append, List.length_cons, List.length_nil]; omega) (by simp only [List.length_map, List.length_append, List.length_cons, List.length_nil]; omega) ?_)
      | (refine AWP.condW rfl True.intro (fun hc => ?_) (fun hc => ?_) <;> (first | (simp only [decide_eq_true_eq] at hc) | (simp only [decide_eq_false_iff_not, Int.not_lt, Int.not_le] at hc) | skip))
      | refine AWP.block ?_
      | refine AWP.exit ?_
      | refine AWP.skip ?_
      | refine AWP.ret ?_
      | refine AWP.drawK2 (by decide +kernel) (by kernel_rfl) (by decide +kernel) rfl (fun K' hK => ?_)
      | refine AWP.drawL2 (by kernel_rfl) (by decide +kernel) rfl (fun K' hK => ?_)
      | (refine AQ.nil (hK _ ?_); clear hK K')
      | refine AQ.nil ?_
      | refine AQ.q rfl rfl (fun hg => by first | exact std0 | exact PRun.bitsW rfl rfl nd rfl nd rfl | exact PRun.shlW rfl rfl nd rfl nd (by omega) | exact PRun.shrW rfl rfl nd rfl nd (by omega) | exact PRun.buildSlW tabOk rfl rfl nds | exact std1) (by exact rfl) ?_)
    · exfalso; omega
    · have e : num n = out' ++ [UInt8.ofNat u] := by rw [← g1, lebF_last (by omega)]
      exact ⟨.inr rfl, _, [.own 1 ((num n).map by8).length], ⟨(snoc8 (t := .own 0) (w_last u)).trans (by rw [e]), rfl⟩, (by rw [e]; show [AObj.own 1 (out'.map by8 ++ [_]).length] = [AObj.own 1 ((out' ++ [UInt8.ofNat u]).map by8).length]; simp), Nat.zero_le _, rfl, rfl, rfl⟩
theorem put_spec (l : List Int) (hi : ∀ n ∈ l, InI n) (hl : l.length ≤ 9223372036854775807) : PCall Try.prog 44 [.sl 1 (l.map encN) .no] (.tup [.sl 1 ((putR l).1.map by8) .no, .int (putR l).2]) := by
  have hv := TCall.val (first := []) (caps := []) (avs := [.nils, .int l.length]) (put_nil l.length ⟨by omega, by omega⟩)
  refine PCall.body Try.func44 rfl rfl Try.ntmps44 rfl rfl ?_
  repeat' (first
    | refine AOps.q rfl rfl rfl (fun hg => by first | exact std0 | exact std1) (by exact rfl) ?_
    | refine AWP.seq ?_
    | refine AWP.regionK (fun K' hK => ?_)
    | (refine AOps.nil (hK _ _ ?_); clear hK K')
    | refine AOps.e (EStep.boxW rfl rfl rfl rfl rfl True.intro rfl rfl ?_)
    | refine AOps.e (EStep.storeW tabOk rfl rfl rfl True.intro rfl rfl True.intro rfl rfl rfl rfl rfl rfl rfl ?_)
    | refine AOps.e (EStep.allocW tabOk rfl rfl rfl rfl rfl rfl ?_)
    | refine AOps.e (EStep.callT (hv) rfl rfl rfl rfl rfl nd rfl rfl nds ?_)
    | (refine AWP.condW rfl True.intro (fun hc => ?_) (fun hc => ?_) <;> (first | (simp only [decide_eq_true_eq] at hc) | (simp only [decide_eq_false_iff_not, Int.not_lt, Int.not_le] at hc) | skip))
    | refine AWP.block ?_
    | refine AWP.exit ?_
    | refine AWP.skip ?_
    | refine AWP.ret ?_
    | refine AWP.drawK2 (by decide +kernel) (by kernel_rfl) (by decide +kernel) rfl (fun K' hK => ?_)
    | refine AWP.drawL2 (by kernel_rfl) (by decide +kernel) rfl (fun K' hK => ?_)
    | (refine AQ.nil (hK _ ?_); clear hK K')
    | refine AQ.nil ?_
    | refine AQ.q rfl rfl (fun hg => by first | exact std0 | exact std1) (by exact rfl) ?_)
  · refine ⟨.inr rfl, ?_⟩
    rw [show putR l = ([], 2) from if_neg (by omega)]
    exact Ent.tup2 Ent.nil (Ent.rfl' _)
  rintro _ _ ⟨rfl, rfl⟩
  have hl4 : l.length ≤ 4000 := by omega
  repeat' (first
    | refine AOps.q rfl rfl rfl (fun hg => by first | exact std0 | exact std1) (by exact rfl) ?_
    | refine AWP.seq ?_
    | refine AWP.regionK (fun K' hK => ?_)
    | (refine AOps.nil (hK _ _ ?_); clear hK K')
    | refine AOps.e (EStep.boxW rfl rfl rfl rfl rfl True.intro rfl rfl ?_)
    | refine AOps.e (EStep.storeW tabOk rfl rfl rfl True.intro rfl rfl True.intro rfl rfl rfl rfl rfl rfl rfl ?_)
    | refine AOps.e (EStep.allocW tabOk rfl rfl rfl rfl rfl rfl ?_)
    | (refine AWP.condW rfl True.intro (fun hc => ?_) (fun hc => ?_) <;> (first | (simp only [decide_eq_true_eq] at hc) | (simp only [decide_eq_false_iff_not, Int.not_lt, Int.not_le] at hc) | skip))
    | refine AWP.block ?_
    | refine AWP.exit ?_
    | refine AWP.skip ?_
    | refine AWP.ret ?_
    | refine AWP.drawK2 (by decide +kernel) (by kernel_rfl) (by decide +kernel) rfl (fun K' hK => ?_)
    | refine AWP.drawL2 (by kernel_rfl) (by decide +kernel) rfl (fun K' hK => ?_)
    | (refine AQ.nil (hK _ ?_); clear hK K')
    | refine AQ.nil ?_
    | refine AQ.q rfl rfl (fun hg => by first | exact std0 | exact std1) (by exact rfl) ?_)
  refine AWP.loopW (ι := Nat) (fun k => [(13, .sl 1 (l.map encN) .no), (14, .int l.length), (15, .int k), (4, .sl 1 ((num l.length ++ (l.take k).flatMap num).map by8) (.own 0))]) (fun k => [.own 1 ((num l.length ++ (l.take k).flatMap num).map by8).length]) (fun k => k ≤ l.length) (fun k => l.length - k) 0 (Nat.zero_le _) ⟨rfl, rfl, rfl, (by show AV.sl 1 ((num l.length).map by8) _ = _; simp), True.intro⟩ (by show [AObj.own 1 ((num l.length).map by8).length] = _; simp) ?_
  intro k hk
  have hb := flat_len (l.take k)
  have hb2 := num_len l.length
  have hb3 : (l.take k).length ≤ 4000 := by simp; omega
  by_cases hlt : k < l.length
  · have hp := TCall.val (first := []) (caps := []) (avs := [.sl 1 ((num l.length ++ (l.take k).flatMap num).map by8) (.own 0), .int (l.getD k default)]) (put_T (l.getD k default) (hi _ (getD_mem hlt)) (num l.length ++ (l.take k).flatMap num) (by rw [List.length_append]; omega))
    repeat' (first
      | refine AOps.q rfl rfl rfl (fun hg => by first | exact std0 | exact std1) (by exact rfl) ?_
      | refine AWP.seq ?_
      | refine AWP.regionK (fun K' hK => ?_)
      | (refine AOps.nil (hK _ _ ?_); clear hK K')
      | refine AOps.e (EStep.boxW rfl rfl rfl rfl rfl True.intro rfl rfl ?_)
      | refine AOps.e (EStep.storeW tabOk rfl rfl rfl True.intro rfl rfl True.intro rfl rfl rfl rfl rfl rfl rfl ?_)
      | refine AOps.e (EStep.allocW tabOk rfl rfl rfl rfl rfl rfl ?_)
      | refine AOps.e (EStep.callT (hp) rfl rfl rfl rfl rfl nd rfl rfl nds ?_)
      | (refine AWP.condW rfl True.intro (fun hc => ?_) (fun hc => ?_) <;> (first | (simp only [decide_eq_true_eq] at hc) | (simp only [decide_eq_false_iff_not, Int.not_lt, Int.not_le] at hc) | skip))
      | refine AWP.block ?_
      | refine AWP.exit ?_
      | refine AWP.skip ?_
      | refine AWP.ret ?_
      | refine AWP.drawK2 (by decide +kernel) (by kernel_rfl) (by decide +kernel) rfl (fun K' hK => ?_)
      | refine AWP.drawL2 (by kernel_rfl) (by decide +kernel) rfl (fun K' hK => ?_)
      | (refine AQ.nil (hK _ ?_); clear hK K')
      | refine AQ.nil ?_
      | refine AQ.q rfl rfl (fun hg => by first | exact std0 | exact std1) (by exact rfl) ?_)
    · rintro _ _ ⟨rfl, rfl⟩
      repeat' (first
        | refine AOps.q rfl rfl rfl (fun hg => by first | exact std0 | exact std1) (by exact rfl) ?_
        | refine AWP.seq ?_
        | refine AWP.regionK (fun K' hK => ?_)
        | (refine AOps.nil (hK _ _ ?_); clear hK K')
        | refine AOps.e (EStep.boxW rfl rfl rfl rfl rfl True.intro rfl rfl ?_)
        | refine AOps.e (EStep.storeW tabOk rfl rfl rfl True.intro rfl rfl True.intro rfl rfl rfl rfl rfl rfl rfl ?_)
        | refine AOps.e (EStep.allocW tabOk rfl rfl rfl rfl rfl rfl ?_)
        | (refine AWP.condW rfl True.intro (fun hc => ?_) (fun hc => ?_) <;> (first | (simp only [decide_eq_true_eq] at hc) | (simp only [decide_eq_false_iff_not, Int.not_lt, Int.not_le] at hc) | skip))
        | refine AWP.block ?_
        | refine AWP.exit ?_
        | refine AWP.skip ?_
        | refine AWP.ret ?_
        | refine AWP.drawK2 (by decide +kernel) (by kernel_rfl) (by decide +kernel) rfl (fun K' hK => ?_)
        | refine AWP.drawL2 (by kernel_rfl) (by decide +kernel) rfl (fun K' hK => ?_)
        | (refine AQ.nil (hK _ ?_); clear hK K')
        | refine AQ.nil ?_
        | refine AQ.q rfl rfl (fun hg => by first | exact std0 | exact std1) (by exact rfl) ?_)
      have e : num l.length ++ (l.take (k + 1)).flatMap num = (num l.length ++ (l.take k).flatMap num) ++ num (l.getD k default) := by rw [take_flat hlt, List.append_assoc]
      exact ⟨k + 1, by omega, by omega, ⟨rfl, rfl, rfl, by rw [e]; rfl, True.intro⟩, by rw [e]⟩
    · exfalso; omega
  · repeat' (first
      | refine AOps.q rfl rfl rfl (fun hg => by first | exact std0 | exact std1) (by exact rfl) ?_
      | refine AWP.seq ?_
      | refine AWP.regionK (fun K' hK => ?_)
      | (refine AOps.nil (hK _ _ ?_); clear hK K')
      | refine AOps.e (EStep.boxW rfl rfl rfl rfl rfl True.intro rfl rfl ?_)
      | refine AOps.e (EStep.storeW tabOk rfl rfl rfl True.intro rfl rfl True.intro rfl rfl rfl rfl rfl rfl rfl ?_)
      | refine AOps.e (EStep.allocW tabOk rfl rfl rfl rfl rfl rfl ?_)
      | (refine AWP.condW rfl True.intro (fun hc => ?_) (fun hc => ?_) <;> (first | (simp only [decide_eq_true_eq] at hc) | (simp only [decide_eq_false_iff_not, Int.not_lt, Int.not_le] at hc) | skip))
      | refine AWP.block ?_
      | refine AWP.exit ?_
      | refine AWP.skip ?_
      | refine AWP.ret ?_
      | refine AWP.drawK2 (by decide +kernel) (by kernel_rfl) (by decide +kernel) rfl (fun K' hK => ?_)
      | refine AWP.drawL2 (by kernel_rfl) (by decide +kernel) rfl (fun K' hK => ?_)
      | (refine AQ.nil (hK _ ?_); clear hK K')
      | refine AQ.nil ?_
      | refine AQ.q rfl rfl (fun hg => by first | exact std0 | exact std1) (by exact rfl) ?_)
    · exfalso; omega
    · refine ⟨.inr rfl, Ent.of ?_⟩
      have htk : l.take k = l := List.take_of_length_le (by omega)
      rw [show putR l = (putL l, 0) from if_pos hl4, htk]; rfl
end Go.Proofs.Ytpkolkfglgalpaa
