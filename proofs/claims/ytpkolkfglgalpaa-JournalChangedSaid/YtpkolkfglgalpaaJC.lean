/- Contracts by content: the codec of the reference: integers as bytes. No statement is proved here. -/
import Derived.Test.YtpkolkfglgalpaaJA
import Derived.Test.YtpkolkfglgalpaaM5
set_option linter.unusedVariables false
set_option linter.unusedSimpArgs false
namespace Go.Proofs.Ytpkolkfglgalpaa
open Go.Ab Go.Jo
attribute [local irreducible] AWP AOps EStep AQ PStep PRun PCall TCall VCall DStep TDies AWD DCall

theorem lebF_step {f u : Nat} (h : 128 ≤ u) : lebF (f + 1) u = UInt8.ofNat (u % 128 + 128) :: lebF f (u / 128) := by rw [lebF, if_neg (by omega)]
theorem lebF_last {f u : Nat} (h : u < 128) : lebF (f + 1) u = [UInt8.ofNat u] := by rw [lebF, if_pos h]
theorem by8_of {n : Int} {c : UInt8} (h : n = c.toNat) : [AV.prim (.int .u8 n)] = by8 c := by rw [h]
theorem wrap8 (n : Int) : IntKind.u8.wrap n = n % 256 := by simp [IntKind.wrap, IntKind.bits, IntKind.signed]
theorem ofNat_toNat8 (n : Nat) : ((UInt8.ofNat n).toNat : Int) = (n : Int) % 256 := by rw [UInt8.toNat_ofNat']; omega
theorem tmodN (a b : Nat) : ((a : Int).tmod (b : Int)) = ((a % b : Nat) : Int) := by rw [Int.tmod_eq_emod_of_nonneg (by omega)]; rfl
theorem tdivN (a b : Nat) : ((a : Int).tdiv (b : Int)) = ((a / b : Nat) : Int) := by rw [Int.tdiv_eq_ediv_of_nonneg (by omega)]; rfl

theorem w_low (u : Nat) : IntKind.u8.wrap (IntKind.u8.wrap ((u : Int).tmod 128) + 128) = ((UInt8.ofNat (u % 128 + 128)).toNat : Int) := by
  have h := tmodN u 128
  rw [wrap8, wrap8, ofNat_toNat8]
  have h' : (u : Int).tmod 128 = ((u % 128 : Nat) : Int) := h
  rw [h']; omega
theorem w_last (u : Nat) : IntKind.u8.wrap (u : Int) = ((UInt8.ofNat u).toNat : Int) := by rw [wrap8, ofNat_toNat8]
theorem w_quo {u : Nat} (h : u < 18446744073709551616) : IntKind.u64.wrap ((u : Int).tdiv 128) = ((u / 128 : Nat) : Int) := by
  have h' : (u : Int).tdiv 128 = ((u / 128 : Nat) : Int) := tdivN u 128
  rw [h', IntKind.wrap_u64]; omega
theorem div_pow {u f : Nat} (h : u < 128 ^ (f + 1)) : u / 128 < 128 ^ f := by
  rw [Nat.pow_succ] at h
  exact Nat.div_lt_of_lt_mul (by rw [Nat.mul_comm]; exact h)
theorem snoc8 {l : Bs} {c : UInt8} {n : Int} {t : Tok} (h : n = c.toNat) : AV.sl 1 (l.map by8 ++ [[.prim (.int .u8 n)]]) t = AV.sl 1 ((l ++ [c]).map by8) t := by
  rw [h, List.map_append]; rfl

theorem one_T (n : Int) (hn : InI n) : TCall Try.prog 52 [.int n] [] (fun r s => r = .sl 1 ((num n).map by8) (.own 0) ∧ s = [.own 1 (num n).length]) := by
  have h1 := hn.1
  have h2 := hn.2
  have hz := zig_lt hn
  refine TCall.body Try.func52 rfl rfl Try.ntmps52 rfl rfl ?_
  repeat' (first
    | refine AOps.q rfl rfl rfl (fun hg => by first | exact std0 | exact std1) (by exact rfl) ?_
    | refine AWP.seq ?_
    | refine AWP.regionK (fun K' hK => ?_)
    | (refine AOps.nil (hK _ _ ?_); clear hK K')
    | refine AOps.e (EStep.boxW rfl rfl rfl rfl rfl True.intro rfl rfl ?_)
    | refine AOps.e (EStep.storeW tabOk rfl rfl rfl True.intro rfl rfl True.intro rfl rfl rfl rfl rfl rfl rfl ?_)
    | refine AOps.e (EStep.allocW tabOk rfl rfl rfl rfl rfl rfl ?_)
    | (refine AWP.condW rfl True.intro (fun hc => ?_) (fun hc => ?_) <;> (first | (simp only [decide_eq_true_eq] at hc) | (simp only [decide_eq_false_iff_not, Int.not_lt, Int.not_le] at hc) | skip))
    | refine AWP.block ?_
    | refine AWP.exit ?_
    | refine AWP.skip ?_
    | refine AWP.ret ?_
    | refine AWP.drawK2 (by decide +kernel) (by kernel_rfl) (by decide +kernel) rfl (fun K' hK => ?_)
    | refine AWP.drawL2 (by kernel_rfl) (by decide +kernel) rfl (fun K' hK => ?_)
    | (refine AQ.nil (hK _ ?_); clear hK K')
    | refine AQ.nil ?_
    | refine AQ.q rfl rfl (fun hg => by first | exact std0 | exact std1) (by exact rfl) ?_)
  all_goals (refine AWP.keep [(3, .prim (.int .u64 (zig n : Nat))), (4, .nils)] ⟨?_, rfl, True.intro⟩ ?_)
  any_goals (show AV.prim (.int .u64 _) = _; congr 2; simp only [IntKind.wrap_u64, zig]; split <;> omega)
  all_goals (refine AWP.ownNil (d := 4) (sz := 1) rfl ?_)
  all_goals (refine AWP.loopW (ι := Nat × Bs × Nat) (fun i => [(3, .prim (.int .u64 (i.1 : Nat))), (4, .sl 1 (i.2.1.map by8) (.own 0))]) (fun i => [.own 1 (i.2.1.map by8).length]) (fun i => i.2.1 ++ lebF (i.2.2 + 1) i.1 = num n ∧ i.1 < 128 ^ (i.2.2 + 1) ∧ i.2.1.length + i.2.2 = 9 ∧ i.1 < 18446744073709551616) (fun i => i.2.2) (zig n, [], 9) ⟨rfl, by simp only; omega, rfl, hz⟩ ⟨rfl, rfl, True.intro⟩ rfl ?_)
  all_goals (rintro ⟨u, out, f⟩ ⟨g1, g2, g3, g4⟩; simp only at g1 g2 g3 g4)
  all_goals (have hlen : ((u, out, f) : Nat × Bs × Nat).2.1.length ≤ 9 := by simp only; omega)
  all_goals (by_cases hu : 128 ≤ u)
  all_goals (repeat' (first  | refine AOps.q rfl rfl rfl (fun hg => by first | exact std0 | exact PRun.buildSlW tabOk rfl rfl nds | exact std1) (by exact rfl) ?_  | refine AWP.seq ?_  | refine AWP.regionK (fun K' hK => ?_)  | (refine AOps.nil (hK _ _ ?_); clear hK K')  | refine AOps.e (EStep.boxW rfl rfl rfl rfl rfl True.intro rfl rfl ?_)  | refine AOps.e (EStep.storeW tabOk rfl rfl rfl True.intro rfl rfl True.intro rfl rfl rfl rfl rfl rfl rfl ?_)  | refine AOps.e (EStep.allocW tabOk rfl rfl rfl rfl rfl rfl ?_)  | refine AOps.e (EStep.appendOwn tabOk rfl rfl rfl (by decide) (Rd.w rfl True.intro) rfl (Rd.w rfl True.intro) (.sl rfl (by first | (intro x hx; rcases List.mem_singleton.1 hx with rfl; rfl) | exact one_by8 _ | exact one_ints _)) (LOk.of (tabOk.get rfl)) (LOk.of (tabOk.get rfl)) rfl rfl (by simp only [List.length_map, List.length_append, List.length_cons, List.length_nil]; omega) (by simp only [List.length_map, List.length_append, List.length_cons, List.length_nil]; omega) ?_)  | (refine AWP.condW rfl True.intro (fun hc => ?_) (fun hc => ?_) <;> (first | (simp only [decide_eq_true_eq] at hc) | (simp only [decide_eq_false_iff_not, Int.not_lt, Int.not_le] at hc) | skip))  | refine AWP.block ?_  | refine AWP.exit ?_  | refine AWP.skip ?_  | refine AWP.ret ?_  | refine AWP.drawK2 (by decide +kernel) (by kernel_rfl) (by decide +kernel) rfl (fun K' hK => ?_)  | refine AWP.drawL2 (by kernel_rfl) (by decide +kernel) rfl (fun K' hK => ?_)  | (refine AQ.nil (hK _ ?_); clear hK K')  | refine AQ.nil ?_  | refine AQ.q rfl rfl (fun hg => by first | exact std0 | exact PRun.buildSlW tabOk rfl rfl nds | exact std1) (by exact rfl) ?_))
  all_goals (first | (exfalso; simp only [decide_eq_false_iff_not] at hc; omega) | (exfalso; omega) | skip)
  all_goals (first | exact ⟨.inr rfl, _, [.own 1 (num n).length], ⟨((snoc8 (t := .own 0) (w_last u)).trans (by rw [← g1, lebF_last (by omega)])), rfl⟩, (by show [AObj.own 1 ((out.map by8).length + 1)] = _; rw [← g1, lebF_last (by omega)]; simp), Nat.zero_le _, rfl, rfl, rfl⟩ | skip)
  all_goals
    cases f with
    | zero => exfalso; simp at g2; omega
    | succ f' =>
      refine ⟨(u / 128, out ++ [UInt8.ofNat (u % 128 + 128)], f'), ⟨by rw [← g1, lebF_step hu]; simp, div_pow g2, by simp; omega, by simp only; omega⟩, by simp, ⟨?_, snoc8 (w_low u), True.intro⟩, ?_⟩
      · show AV.prim (.int .u64 _) = _
        rw [w_quo g4]
      · show [AObj.own 1 ((out.map by8).length + 1)] = _
        simp
theorem one_spec (n : Int) (hn : InI n) : PCall Try.prog 52 [.int n] (.sl 1 ((num n).map by8) .no) :=
  (one_T n hn).pcall fun r s h => Ent.of (by rw [h.1]; rfl)
end Go.Proofs.Ytpkolkfglgalpaa
