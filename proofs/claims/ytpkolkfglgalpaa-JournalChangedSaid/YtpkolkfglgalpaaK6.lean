/- Contracts by content: the program's Append and Load; slices.Grow and Concat. No statement is proved here. -/
import Derived.Test.YtpkolkfglgalpaaK5
import Derived.Test.YtpkolkfglgalpaaJU
import Derived.Test.YtpkolkfglgalpaaM6
set_option linter.unusedVariables false
set_option linter.unusedSimpArgs false
namespace Go.Proofs.Ytpkolkfglgalpaa
open Go.Ab Go.Jo
attribute [local irreducible] AWP AOps EStep AQ PStep PRun PCall TCall VCall DStep TDies AWD DCall

theorem grow_T (m : Nat) (h0 : 0 < m) (h1 : m ≤ 4611686018427) : TCall Try.prog 46 [.nils, .int m] [] (fun r s => r = .sl 1 [] (.own 0) ∧ s = [.own 1 0]) := by
  refine TCall.body Try.func46 rfl rfl Try.ntmps46 rfl rfl ?_
  repeat' (first
    | refine AOps.q rfl rfl rfl (fun hg => by first | exact std0 | exact PRun.capNil tabOk rfl rfl nd rfl | exact PRun.sliceNil tabOk rfl rfl nd rfl nd rfl | exact PRun.sliceOwn0 tabOk rfl rfl nd rfl nd rfl rfl h0 | exact std1) (by exact rfl) ?_
    | refine AWP.seq ?_
    | refine AWP.regionK (fun K' hK => ?_)
    | (refine AOps.nil (hK _ _ ?_); clear hK K')
    | refine AOps.e (EStep.boxW rfl rfl rfl rfl rfl True.intro rfl rfl ?_)
    | refine AOps.e (EStep.storeW tabOk rfl rfl rfl True.intro rfl rfl True.intro rfl rfl rfl rfl rfl rfl rfl ?_)
    | refine AOps.e (EStep.allocW tabOk rfl rfl rfl rfl rfl rfl ?_)
    | refine AOps.e (EStep.appendMake (m := m) tabOk rfl rfl rfl rfl (Rd.w rfl True.intro) (Rd.w rfl True.intro) (by omega) h0 (LOk.of (tabOk.get rfl)) (LOk.of (tabOk.get rfl)) (LOk.of (tabOk.get rfl)) rfl rfl (by decide) (by simp only; omega) (by omega) ?_)
    | (refine AWP.condW rfl True.intro (fun hc => ?_) (fun hc => ?_) <;> (first | (simp only [decide_eq_true_eq] at hc) | (simp only [decide_eq_false_iff_not, Int.not_lt, Int.not_le] at hc) | skip))
    | refine AWP.block ?_
    | refine AWP.exit ?_
    | refine AWP.skip ?_
    | refine AWP.ret ?_
    | refine AWP.drawK2 (by decide +kernel) (by kernel_rfl) (by decide +kernel) rfl (fun K' hK => ?_)
    | refine AWP.drawL2 (by kernel_rfl) (by decide +kernel) rfl (fun K' hK => ?_)
    | (refine AQ.nil (hK _ ?_); clear hK K')
    | refine AQ.nil ?_
    | refine AQ.q rfl rfl (fun hg => by first | exact std0 | exact PRun.capNil tabOk rfl rfl nd rfl | exact PRun.sliceNil tabOk rfl rfl nd rfl nd rfl | exact PRun.sliceOwn0 tabOk rfl rfl nd rfl nd rfl rfl h0 | exact std1) (by exact rfl) ?_)
  · exfalso; omega
  · exact ⟨.inr rfl, _, _, ⟨rfl, rfl⟩, rfl, Nat.zero_le _, rfl, rfl, rfl⟩
  · exfalso; omega
def encB (b : Bs) : List AV := [.sl 1 (b.map by8) .no]
def szK (a c : Bs) : Nat → Nat
  | 0 => 0
  | 1 => a.length
  | _ => a.length + c.length
def catK (a c : Bs) : Nat → Bs
  | 0 => []
  | 1 => a
  | _ => a ++ c
set_option maxHeartbeats 800000 in
set_option maxRecDepth 20000 in
theorem concat_spec (a c : Bs) (h0 : 0 < a.length + c.length) (h1 : a.length + c.length ≤ 4611686018427) : PCall Try.prog 34 [.sl 1 ([a, c].map encB) .no] (.sl 1 ((a ++ c).map by8) .no) := by
  have hv := TCall.val (first := []) (caps := []) (avs := [.nils, .int (a.length + c.length : Nat)]) (grow_T (a.length + c.length) h0 h1)
  refine PCall.body Try.func34 rfl rfl Try.ntmps34 rfl rfl ?_
  repeat' (first
    | refine AOps.q rfl rfl rfl (fun hg => by first | exact std0 | exact std1) (by exact rfl) ?_
    | refine AWP.seq ?_
    | refine AWP.regionK (fun K' hK => ?_)
    | (refine AOps.nil (hK _ _ ?_); clear hK K')
    | refine AOps.e (EStep.boxW rfl rfl rfl rfl rfl True.intro rfl rfl ?_)
    | refine AOps.e (EStep.storeW tabOk rfl rfl rfl True.intro rfl rfl True.intro rfl rfl rfl rfl rfl rfl rfl ?_)
    | refine AOps.e (EStep.allocW tabOk rfl rfl rfl rfl rfl rfl ?_)
    | (refine AWP.condW rfl True.intro (fun hc => ?_) (fun hc => ?_) <;> (first | (simp only [decide_eq_true_eq] at hc) | (simp only [decide_eq_false_iff_not, Int.not_lt, Int.not_le] at hc) | skip))
    | refine AWP.block ?_
    | refine AWP.exit ?_
    | refine AWP.skip ?_
    | refine AWP.ret ?_
    | refine AWP.drawK2 (by decide +kernel) (by kernel_rfl) (by decide +kernel) rfl (fun K' hK => ?_)
    | refine AWP.drawL2 (by kernel_rfl) (by decide +kernel) rfl (fun K' hK => ?_)
    | (refine AQ.nil (hK _ ?_); clear hK K')
    | refine AQ.nil ?_
    | refine AQ.q rfl rfl (fun hg => by first | exact std0 | exact std1) (by exact rfl) ?_)
  refine AWP.loopW (ι := Nat) (fun k => [(0, .sl 1 ([a, c].map encB) .no), (3, .int (szK a c k : Nat)), (9, .sl 1 ([a, c].map encB) .no), (10, .int 2), (11, .int k)]) (fun _ => []) (fun k => k ≤ 2) (fun k => 2 - k) 0 (Nat.zero_le _) ⟨rfl, rfl, rfl, rfl, rfl, True.intro⟩ rfl ?_
  intro k hk
  have hk4 : k = 0 ∨ k = 1 ∨ k = 2 := by omega
  have s0 : ((szK a c 0 : Nat) : Int) + (([a, c].getD (((0 : Nat) : Int).toNat) default).length : Nat) = (a.length : Nat) := by show ((0 : Nat) : Int) + (a.length : Nat) = _; omega
  have s1 : ((szK a c 1 : Nat) : Int) + (([a, c].getD (((1 : Nat) : Int).toNat) default).length : Nat) = (a.length + c.length : Nat) := by show ((a.length : Nat) : Int) + (c.length : Nat) = _; omega
  rcases hk4 with rfl | rfl | rfl
  · repeat' (first
      | refine AWP.regionPan rfl rfl (fun K' hK => ?_)
      | refine AOps.q rfl rfl rfl (fun hg => by first | exact PRun.indexMW tabOk rfl rfl nd rfl nd rfl rfl ⟨Int.natCast_nonneg _, Int.ofNat_lt.2 (show _ < 2 by omega)⟩ | exact std0 | exact PRun.buildZ (by exact ⟨rfl, rfl⟩) rfl | exact PRun.ifaceW (by kernel_rfl) rfl rfl nd rfl | exact std1) (by exact rfl) ?_
      | refine AWP.seq ?_
      | refine AWP.regionK (fun K' hK => ?_)
      | (refine AOps.nil (hK _ _ ?_); clear hK K')
      | refine AOps.e (EStep.boxW rfl rfl rfl rfl rfl True.intro rfl rfl ?_)
      | refine AOps.e (EStep.storeW tabOk rfl rfl rfl True.intro rfl rfl True.intro rfl rfl rfl rfl rfl rfl rfl ?_)
      | refine AOps.e (EStep.allocW tabOk rfl rfl rfl rfl rfl rfl ?_)
      | refine AOps.e (EStep.callT (hv) rfl rfl rfl rfl rfl nd rfl rfl nds ?_)
      | refine DStep.panic rfl rfl rfl True.intro ?_
      | (refine AWP.condW rfl True.intro (fun hc => ?_) (fun hc => ?_) <;> (first | (simp only [decide_eq_true_eq] at hc) | (simp only [decide_eq_false_iff_not, Int.not_lt, Int.not_le] at hc) | skip))
      | refine AWP.block ?_
      | refine AWP.exit ?_
      | refine AWP.skip ?_
      | refine AWP.ret ?_
      | refine AWP.drawK2 (by decide +kernel) (by kernel_rfl) (by decide +kernel) rfl (fun K' hK => ?_)
      | refine AWP.drawL2 (by kernel_rfl) (by decide +kernel) rfl (fun K' hK => ?_)
      | (refine AQ.nil (hK _ ?_); clear hK K')
      | refine AQ.nil ?_
      | refine AQ.q rfl rfl (fun hg => by first | exact PRun.indexMW tabOk rfl rfl nd rfl nd rfl rfl ⟨Int.natCast_nonneg _, Int.ofNat_lt.2 (show _ < 2 by omega)⟩ | exact std0 | exact PRun.buildZ (by exact ⟨rfl, rfl⟩) rfl | exact PRun.ifaceW (by kernel_rfl) rfl rfl nd rfl | exact std1) (by exact rfl) ?_)
    all_goals first
      | (exfalso; omega)
      | exact ⟨1, by omega, by omega, ⟨rfl, congrArg AV.int s0, rfl, rfl, rfl, True.intro⟩, rfl⟩
  · repeat' (first
      | refine AWP.regionPan rfl rfl (fun K' hK => ?_)
      | refine AOps.q rfl rfl rfl (fun hg => by first | exact PRun.indexMW tabOk rfl rfl nd rfl nd rfl rfl ⟨Int.natCast_nonneg _, Int.ofNat_lt.2 (show _ < 2 by omega)⟩ | exact std0 | exact PRun.buildZ (by exact ⟨rfl, rfl⟩) rfl | exact PRun.ifaceW (by kernel_rfl) rfl rfl nd rfl | exact std1) (by exact rfl) ?_
      | refine AWP.seq ?_
      | refine AWP.regionK (fun K' hK => ?_)
      | (refine AOps.nil (hK _ _ ?_); clear hK K')
      | refine AOps.e (EStep.boxW rfl rfl rfl rfl rfl True.intro rfl rfl ?_)
      | refine AOps.e (EStep.storeW tabOk rfl rfl rfl True.intro rfl rfl True.intro rfl rfl rfl rfl rfl rfl rfl ?_)
      | refine AOps.e (EStep.allocW tabOk rfl rfl rfl rfl rfl rfl ?_)
      | refine AOps.e (EStep.callT (hv) rfl rfl rfl rfl rfl nd rfl rfl nds ?_)
      | refine DStep.panic rfl rfl rfl True.intro ?_
      | (refine AWP.condW rfl True.intro (fun hc => ?_) (fun hc => ?_) <;> (first | (simp only [decide_eq_true_eq] at hc) | (simp only [decide_eq_false_iff_not, Int.not_lt, Int.not_le] at hc) | skip))
      | refine AWP.block ?_
      | refine AWP.exit ?_
      | refine AWP.skip ?_
      | refine AWP.ret ?_
      | refine AWP.drawK2 (by decide +kernel) (by kernel_rfl) (by decide +kernel) rfl (fun K' hK => ?_)
      | refine AWP.drawL2 (by kernel_rfl) (by decide +kernel) rfl (fun K' hK => ?_)
      | (refine AQ.nil (hK _ ?_); clear hK K')
      | refine AQ.nil ?_
      | refine AQ.q rfl rfl (fun hg => by first | exact PRun.indexMW tabOk rfl rfl nd rfl nd rfl rfl ⟨Int.natCast_nonneg _, Int.ofNat_lt.2 (show _ < 2 by omega)⟩ | exact std0 | exact PRun.buildZ (by exact ⟨rfl, rfl⟩) rfl | exact PRun.ifaceW (by kernel_rfl) rfl rfl nd rfl | exact std1) (by exact rfl) ?_)
    all_goals first
      | (exfalso; omega)
      | exact ⟨2, by omega, by omega, ⟨rfl, congrArg AV.int s1, rfl, rfl, rfl, True.intro⟩, rfl⟩
  repeat' (first
    | refine AOps.q rfl rfl rfl (fun hg => by first | exact std0 | exact std1) (by exact rfl) ?_
    | refine AWP.seq ?_
    | refine AWP.regionK (fun K' hK => ?_)
    | (refine AOps.nil (hK _ _ ?_); clear hK K')
    | refine AOps.e (EStep.boxW rfl rfl rfl rfl rfl True.intro rfl rfl ?_)
    | refine AOps.e (EStep.storeW tabOk rfl rfl rfl True.intro rfl rfl True.intro rfl rfl rfl rfl rfl rfl rfl ?_)
    | refine AOps.e (EStep.allocW tabOk rfl rfl rfl rfl rfl rfl ?_)
    | refine AOps.e (EStep.callT (hv) rfl rfl rfl rfl rfl nd rfl rfl nds ?_)
    | (refine AWP.condW rfl True.intro (fun hc => ?_) (fun hc => ?_) <;> (first | (simp only [decide_eq_true_eq] at hc) | (simp only [decide_eq_false_iff_not, Int.not_lt, Int.not_le] at hc) | skip))
    | refine AWP.block ?_
    | refine AWP.exit ?_
    | refine AWP.skip ?_
    | refine AWP.ret ?_
    | (refine AQ.nil (hK _ ?_); clear hK K')
    | refine AQ.nil ?_
    | refine AQ.q rfl rfl (fun hg => by first | exact std0 | exact std1) (by exact rfl) ?_)
  · exfalso; omega
  · exfalso; omega
  rintro _ _ ⟨rfl, rfl⟩
  repeat' (first
    | refine AOps.q rfl rfl rfl (fun hg => by first | exact std0 | exact std1) (by exact rfl) ?_
    | refine AWP.seq ?_
    | refine AWP.regionK (fun K' hK => ?_)
    | (refine AOps.nil (hK _ _ ?_); clear hK K')
    | refine AOps.e (EStep.boxW rfl rfl rfl rfl rfl True.intro rfl rfl ?_)
    | refine AOps.e (EStep.storeW tabOk rfl rfl rfl True.intro rfl rfl True.intro rfl rfl rfl rfl rfl rfl rfl ?_)
    | refine AOps.e (EStep.allocW tabOk rfl rfl rfl rfl rfl rfl ?_)
    | (refine AWP.condW rfl True.intro (fun hc => ?_) (fun hc => ?_) <;> (first | (simp only [decide_eq_true_eq] at hc) | (simp only [decide_eq_false_iff_not, Int.not_lt, Int.not_le] at hc) | skip))
    | refine AWP.block ?_
    | refine AWP.exit ?_
    | refine AWP.skip ?_
    | refine AWP.ret ?_
    | refine AWP.drawK2 (by decide +kernel) (by kernel_rfl) (by decide +kernel) rfl (fun K' hK => ?_)
    | refine AWP.drawL2 (by kernel_rfl) (by decide +kernel) rfl (fun K' hK => ?_)
    | (refine AQ.nil (hK _ ?_); clear hK K')
    | refine AQ.nil ?_
    | refine AQ.q rfl rfl (fun hg => by first | exact std0 | exact std1) (by exact rfl) ?_)
  refine AWP.loopW (ι := Nat) (fun k => [(0, .sl 1 ([a, c].map encB) .no), (6, .sl 1 ((catK a c k).map by8) (.own 0)), (25, .sl 1 ([a, c].map encB) .no), (26, .int 2), (27, .int k)]) (fun k => [.own 1 ((catK a c k).map by8).length]) (fun k => k ≤ 2) (fun k => 2 - k) 0 (Nat.zero_le _) ⟨rfl, rfl, rfl, rfl, rfl, True.intro⟩ rfl ?_
  clear s0 s1 hk
  intro k hk
  have hk4 : k = 0 ∨ k = 1 ∨ k = 2 := by omega
  have t0 : ((catK a c 0).map by8).length = 0 := rfl
  have t1 : ((catK a c 1).map by8).length = a.length := List.length_map ..
  have t2 : (([a, c].getD (((0 : Nat) : Int).toNat) default).map by8).length = a.length := List.length_map ..
  have t3 : (([a, c].getD (((1 : Nat) : Int).toNat) default).map by8).length = c.length := List.length_map ..
  rcases hk4 with rfl | rfl | rfl
  all_goals repeat' (first  | refine AOps.q rfl rfl rfl (fun hg => by first | exact PRun.indexMW tabOk rfl rfl nd rfl nd rfl rfl ⟨Int.natCast_nonneg _, Int.ofNat_lt.2 (show _ < 2 by omega)⟩ | exact std0 | exact std1) (by exact rfl) ?_  | refine AWP.seq ?_  | refine AWP.regionK (fun K' hK => ?_)  | (refine AOps.nil (hK _ _ ?_); clear hK K')  | refine AOps.e (EStep.boxW rfl rfl rfl rfl rfl True.intro rfl rfl ?_)  | refine AOps.e (EStep.storeW tabOk rfl rfl rfl True.intro rfl rfl True.intro rfl rfl rfl rfl rfl rfl rfl ?_)  | refine AOps.e (EStep.allocW tabOk rfl rfl rfl rfl rfl rfl ?_)  | refine AOps.e (EStep.appendOwn' tabOk rfl rfl rfl (by decide) (Rd.w rfl True.intro) rfl (Rd.w rfl True.intro) (.sl rfl (one_by8 _)) (LOk.of (tabOk.get rfl)) (LOk.of (tabOk.get rfl)) rfl rfl (by simp only; omega) (by omega) ?_)  | (refine AWP.condW rfl True.intro (fun hc => ?_) (fun hc => ?_) <;> (first | (simp only [decide_eq_true_eq] at hc) | (simp only [decide_eq_false_iff_not, Int.not_lt, Int.not_le] at hc) | skip))  | refine AWP.block ?_  | refine AWP.exit ?_  | refine AWP.skip ?_  | refine AWP.ret ?_  | refine AWP.drawK2 (by decide +kernel) (by kernel_rfl) (by decide +kernel) rfl (fun K' hK => ?_)  | refine AWP.drawL2 (by kernel_rfl) (by decide +kernel) rfl (fun K' hK => ?_)  | (refine AQ.nil (hK _ ?_); clear hK K')  | refine AQ.nil ?_  | refine AQ.q rfl rfl (fun hg => by first | exact PRun.indexMW tabOk rfl rfl nd rfl nd rfl rfl ⟨Int.natCast_nonneg _, Int.ofNat_lt.2 (show _ < 2 by omega)⟩ | exact std0 | exact std1) (by exact rfl) ?_)
  all_goals first
    | (exfalso; omega)
    | exact ⟨1, by omega, by omega, ⟨rfl, rfl, rfl, rfl, rfl, True.intro⟩, rfl⟩
    | exact ⟨.inr rfl, Ent.of rfl⟩
    | exact ⟨2, by omega, by omega, ⟨rfl, by show AV.sl 1 (a.map by8 ++ c.map by8) _ = AV.sl 1 ((a ++ c).map by8) _; rw [List.map_append], rfl, rfl, rfl, True.intro⟩, by show [AObj.own 1 (a.map by8 ++ c.map by8).length] = [AObj.own 1 ((a ++ c).map by8).length]; rw [List.map_append]⟩
end Go.Proofs.Ytpkolkfglgalpaa
