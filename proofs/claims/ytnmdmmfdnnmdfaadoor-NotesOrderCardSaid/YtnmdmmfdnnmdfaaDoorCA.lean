/- Contracts by content: package ratio. No statement is proved here. -/
import Derived.Test.YtnmdmmfdnnmdfaaDoorCW
set_option linter.unusedVariables false
set_option linter.unusedSimpArgs false
namespace Go.Proofs.YtnmdmmfdnnmdfaaDoor
open Go.Ab
attribute [local irreducible] AWP AOps EStep AQ PStep PRun PCall TCall VCall

theorem tdiv_le (a b : Int) : (a.tdiv b).natAbs ≤ a.natAbs := by
  rw [Int.natAbs_tdiv]; exact Nat.div_le_self _ _

theorem size_spec (n : Int) (h : InI64 (0 - n)) : PCall Tryd.prog 141 [.int n] (.int (n.natAbs : Nat)) := by
  have h1 := h.1
  have h2 := h.2
  refine PCall.body Tryd.func141 rfl rfl Tryd.ntmps141 rfl rfl ?_
  repeat' (first | refine AOps.q rfl rfl rfl (fun hg => by first | exact std0 | exact std1) (by exact rfl) ?_ | refine AWP.seq ?_ | refine AWP.regionK (fun K' hK => ?_) | (refine AOps.nil (hK _ _ ?_); clear hK K') | refine AOps.e (EStep.boxW rfl rfl rfl rfl rfl True.intro rfl rfl ?_) | refine AOps.e (EStep.storeW tabOk rfl rfl rfl True.intro rfl rfl True.intro rfl rfl rfl rfl rfl rfl rfl ?_) | refine AOps.e (EStep.allocW tabOk rfl rfl rfl rfl rfl rfl ?_) | (refine AWP.condW rfl True.intro (fun hc => ?_) (fun hc => ?_) <;> (first | (simp only [decide_eq_true_eq] at hc) | (simp only [decide_eq_false_iff_not, Int.not_lt, Int.not_le] at hc) | skip)) | refine AWP.block ?_ | refine AWP.exit ?_ | refine AWP.skip ?_ | refine AWP.ret ?_ | refine AWP.drawK2 (by decide +kernel) (by kernel_rfl) (by decide +kernel) rfl (fun K' hK => ?_) | refine AWP.drawL2 (by kernel_rfl) (by decide +kernel) rfl (fun K' hK => ?_) | (refine AQ.nil (hK _ ?_); clear hK K') | refine AQ.nil ?_ | refine AQ.q rfl rfl (fun hg => by first | exact std0 | exact std1) (by exact rfl) ?_)
  exact ⟨.inr rfl, Ent.int (by omega)⟩

/-- The objects of 'reduced' where its inner function is called. -/
def redS (n d : Int) : Store := [.var [.int n, .int d], .var [.int 0, .int 0], .var [.fn (.func 142) [] [.ptr 2 0]]]
theorem common_spec (n d : Int) (b : Nat) : ∀ a : Nat, a ≤ 9223372036854775807 → b ≤ 9223372036854775807 →
    TCall Tryd.prog 142 [.int a, .int b, .ptr 2 0] (redS n d) (fun r s => r = .int (Nat.gcd a b) ∧ s = redS n d) := by
  induction b using Nat.strongRecOn with
  | _ b ih =>
  intro a ha hb
  refine TCall.body Tryd.func142 rfl rfl Tryd.ntmps142 rfl rfl ?_
  by_cases h0 : b = 0
  · subst h0
    repeat' (first | refine AOps.q rfl rfl rfl (fun hg => by first | exact std0 | exact std1) (by exact rfl) ?_ | refine AWP.seq ?_ | refine AWP.regionK (fun K' hK => ?_) | (refine AOps.nil (hK _ _ ?_); clear hK K') | refine AOps.e (EStep.boxW rfl rfl rfl rfl rfl True.intro rfl rfl ?_) | refine AOps.e (EStep.storeW tabOk rfl rfl rfl True.intro rfl rfl True.intro rfl rfl rfl rfl rfl rfl rfl ?_) | refine AOps.e (EStep.allocW tabOk rfl rfl rfl rfl rfl rfl ?_) | (refine AWP.condW rfl True.intro (fun hc => ?_) (fun hc => ?_) <;> (first | (simp only [decide_eq_true_eq] at hc) | (simp only [decide_eq_false_iff_not, Int.not_lt, Int.not_le] at hc) | skip)) | refine AWP.block ?_ | refine AWP.exit ?_ | refine AWP.skip ?_ | refine AWP.ret ?_ | refine AWP.drawK2 (by decide +kernel) (by kernel_rfl) (by decide +kernel) rfl (fun K' hK => ?_) | refine AWP.drawL2 (by kernel_rfl) (by decide +kernel) rfl (fun K' hK => ?_) | (refine AQ.nil (hK _ ?_); clear hK K') | refine AQ.nil ?_ | refine AQ.q rfl rfl (fun hg => by first | exact std0 | exact std1) (by exact rfl) ?_)
    · exact ⟨.inr rfl, _, _, ⟨by simp, rfl⟩, rfl, Nat.le_refl _, rfl, rfl, rfl⟩
    · simp at hc
  · have hlt : a % b < b := Nat.mod_lt _ (by omega)
    have hv := TCall.val (first := []) (caps := [.ptr 2 0]) (avs := [.int b, .int ((a % b : Nat) : Int)]) (ih (a % b) hlt b hb (by omega))
    repeat' (first | refine AOps.q rfl rfl rfl (fun hg => by first | exact std0 | exact PRun.callQ (hv) rfl rfl nd rfl rfl nds | exact std1) (by exact rfl) ?_ | refine AWP.seq ?_ | refine AWP.regionK (fun K' hK => ?_) | (refine AOps.nil (hK _ _ ?_); clear hK K') | refine AOps.e (EStep.boxW rfl rfl rfl rfl rfl True.intro rfl rfl ?_) | refine AOps.e (EStep.storeW tabOk rfl rfl rfl True.intro rfl rfl True.intro rfl rfl rfl rfl rfl rfl rfl ?_) | refine AOps.e (EStep.allocW tabOk rfl rfl rfl rfl rfl rfl ?_) | (refine AWP.condW rfl True.intro (fun hc => ?_) (fun hc => ?_) <;> (first | (simp only [decide_eq_true_eq] at hc) | (simp only [decide_eq_false_iff_not, Int.not_lt, Int.not_le] at hc) | skip)) | refine AWP.block ?_ | refine AWP.exit ?_ | refine AWP.skip ?_ | refine AWP.ret ?_ | refine AWP.drawK2 (by decide +kernel) (by kernel_rfl) (by decide +kernel) rfl (fun K' hK => ?_) | refine AWP.drawL2 (by kernel_rfl) (by decide +kernel) rfl (fun K' hK => ?_) | (refine AQ.nil (hK _ ?_); clear hK K') | refine AQ.nil ?_ | refine AQ.q rfl rfl (fun hg => by first | exact std0 | exact PRun.callQ (hv) rfl rfl nd rfl rfl nds | exact std1) (by exact rfl) ?_)
    · exfalso; simp at hc; omega
    · exact ⟨.inr rfl, _, _, ⟨by rw [Nat.gcd_comm a b, Nat.gcd_rec b a, Nat.gcd_comm], rfl⟩, rfl, Nat.le_refl _, rfl, rfl, rfl⟩

/-- What 'reduced' makes of a fraction. -/
def redG (n d : Int) : Int := if d < 0 then -(Int.gcd n d : Int) else Int.gcd n d
theorem reduced_spec (n d : Int) (hn : InI64 (2 * n)) (hd : InI64 (2 * d)) (h0 : d ≠ 0) : PCall Tryd.prog 123 [.agg [.int n, .int d]] (.agg [.int (n.tdiv (redG n d)), .int (d.tdiv (redG n d))]) := by
  have hn1 := hn.1
  have hn2 := hn.2
  have hd1 := hd.1
  have hd2 := hd.2
  have hg0 : 0 < Nat.gcd n.natAbs d.natAbs := Int.gcd_pos_of_ne_zero_right n h0
  have hg1 : Nat.gcd n.natAbs d.natAbs ≤ d.natAbs := Nat.gcd_le_right _ (by omega)
  have hv := TCall.val (first := []) (caps := [.ptr 2 0]) (avs := [.int n.natAbs, .int d.natAbs]) (common_spec n d d.natAbs n.natAbs (by omega) (by omega))
  have e : redG n d = if d < 0 then -(Nat.gcd n.natAbs d.natAbs : Int) else Nat.gcd n.natAbs d.natAbs := rfl
  generalize Nat.gcd n.natAbs d.natAbs = g at *
  have q1 := tdiv_le n g
  have q2 := tdiv_le n (-g)
  have q3 := tdiv_le d g
  have q4 := tdiv_le d (-g)
  refine PCall.bodyS tabOk Tryd.func123 rfl rfl Tryd.ntmps123 rfl ?_
  repeat' (first | refine AOps.q rfl rfl rfl (fun hg => by first | exact std0 | exact PRun.callW (size_spec n ⟨by omega, by omega⟩) rfl rfl nd rfl nds | exact PRun.callW (size_spec d ⟨by omega, by omega⟩) rfl rfl nd rfl nds | exact PRun.callQ (hv) rfl rfl nd rfl rfl nds | exact PRun.buildW tabOk rfl rfl nds | exact std1) (by exact rfl) ?_ | refine AWP.seq ?_ | refine AWP.regionK (fun K' hK => ?_) | (refine AOps.nil (hK _ _ ?_); clear hK K') | refine AOps.e (EStep.boxW rfl rfl rfl rfl rfl True.intro rfl rfl ?_) | refine AOps.e (EStep.storeW tabOk rfl rfl rfl True.intro rfl rfl True.intro rfl rfl rfl rfl rfl rfl rfl ?_) | refine AOps.e (EStep.allocW tabOk rfl rfl rfl rfl rfl rfl ?_) | (refine AWP.condW rfl True.intro (fun hc => ?_) (fun hc => ?_) <;> (first | (simp only [decide_eq_true_eq] at hc) | (simp only [decide_eq_false_iff_not, Int.not_lt, Int.not_le] at hc) | skip)) | refine AWP.block ?_ | refine AWP.exit ?_ | refine AWP.skip ?_ | refine AWP.ret ?_ | refine AWP.drawK2 (by decide +kernel) (by kernel_rfl) (by decide +kernel) rfl (fun K' hK => ?_) | refine AWP.drawL2 (by kernel_rfl) (by decide +kernel) rfl (fun K' hK => ?_) | (refine AQ.nil (hK _ ?_); clear hK K') | refine AQ.nil ?_ | refine AQ.q rfl rfl (fun hg => by first | exact std0 | exact PRun.callW (size_spec n ⟨by omega, by omega⟩) rfl rfl nd rfl nds | exact PRun.callW (size_spec d ⟨by omega, by omega⟩) rfl rfl nd rfl nds | exact PRun.callQ (hv) rfl rfl nd rfl rfl nds | exact PRun.buildW tabOk rfl rfl nds | exact std1) (by exact rfl) ?_)
  · refine ⟨.inr rfl, _, rfl, Ent.of ?_⟩
    rw [e, if_pos hc]; rfl
  · refine ⟨.inr rfl, _, rfl, Ent.of ?_⟩
    rw [e, if_neg (by omega)]; rfl

end Go.Proofs.YtnmdmmfdnnmdfaaDoor
