/- Contracts by content of the small functions of package edition and of its reference: in, few, name, letter, form. No statement is proved here. -/
import Derived.Test.YtnmdmmfdnnmdfaaGreatDoorCW
set_option linter.unusedVariables false
set_option linter.unusedSimpArgs false
namespace Go.Proofs.YtnmdmmfdnnmdfaaGreatDoor.Ed
open Go.Ab
attribute [local irreducible] AWP AOps EStep AQ PStep PRun PCall TCall VCall
theorem in_spec (a b c : Int) : PCall Tryz.prog 59 [.int a, .int b, .int c] (.b (inB a b c)) := by
  refine PCall.body Tryz.func59 rfl rfl Tryz.ntmps59 rfl rfl ?_
  repeat' (first | refine AOps.q rfl rfl rfl (fun hg => by first | exact std0 | exact std1) (by exact rfl) ?_ | refine AWP.seq ?_ | refine AWP.regionK (fun K' hK => ?_) | (refine AOps.nil (hK _ _ ?_); clear hK K') | refine AOps.e (EStep.boxW rfl rfl rfl rfl rfl True.intro rfl rfl ?_) | refine AOps.e (EStep.storeW tabOk rfl rfl rfl True.intro rfl rfl True.intro rfl rfl rfl rfl rfl rfl rfl ?_) | refine AOps.e (EStep.allocW tabOk rfl rfl rfl rfl rfl rfl ?_) | (refine AWP.condW rfl True.intro (fun hc => ?_) (fun hc => ?_) <;> (first | (simp only [decide_eq_true_eq] at hc) | (simp only [decide_eq_false_iff_not, Int.not_lt, Int.not_le] at hc) | skip)) | refine AWP.block ?_ | refine AWP.exit ?_ | refine AWP.skip ?_ | refine AWP.ret ?_ | refine AWP.drawK2 (by decide +kernel) (by kernel_rfl) (by decide +kernel) rfl (fun K' hK => ?_) | refine AWP.drawL2 (by kernel_rfl) (by decide +kernel) rfl (fun K' hK => ?_) | (refine AQ.nil (hK _ ?_); clear hK K') | refine AQ.nil ?_ | refine AQ.q rfl rfl (fun hg => by first | exact std0 | exact std1) (by exact rfl) ?_)
  exact ⟨.inr rfl, fun _ _ h => h⟩

structure Printed where
  number : Int
  bar : Int
  pass : Int
  deriving Inhabited
structure Letter where
  name : ByteArray
  pos : Int
  deriving Inhabited
structure Edition where
  id : Int
  version : Int
  bars : List Printed
  letters : List Letter
def encP (p : Printed) : List AV := [.int p.number, .int p.bar, .int p.pass]
def encL (p : Letter) : List AV := [.str p.name, .int p.pos]
def encE (e : Edition) : List AV := [.int e.id, .int e.version, .sl 3 (e.bars.map encP) .no, .sl 2 (e.letters.map encL) .no]

theorem few_spec (e : Edition) : PCall Tryz.prog 14 [.agg (encE e)] (.b (decide ((e.bars.length : Int) ≤ 80) && decide ((e.letters.length : Int) ≤ 60))) := by
  refine PCall.body Tryz.func14 rfl rfl Tryz.ntmps14 rfl rfl ?_
  repeat' (first | refine AOps.q rfl rfl rfl (fun hg => by first | exact std0 | exact std1) (by exact rfl) ?_ | refine AWP.seq ?_ | refine AWP.regionK (fun K' hK => ?_) | (refine AOps.nil (hK _ _ ?_); clear hK K') | refine AOps.e (EStep.boxW rfl rfl rfl rfl rfl True.intro rfl rfl ?_) | refine AOps.e (EStep.storeW tabOk rfl rfl rfl True.intro rfl rfl True.intro rfl rfl rfl rfl rfl rfl rfl ?_) | refine AOps.e (EStep.allocW tabOk rfl rfl rfl rfl rfl rfl ?_) | (refine AWP.condW rfl True.intro (fun hc => ?_) (fun hc => ?_) <;> (first | (simp only [decide_eq_true_eq] at hc) | (simp only [decide_eq_false_iff_not, Int.not_lt, Int.not_le] at hc) | skip)) | refine AWP.block ?_ | refine AWP.exit ?_ | refine AWP.skip ?_ | refine AWP.ret ?_ | refine AWP.drawK2 (by decide +kernel) (by kernel_rfl) (by decide +kernel) rfl (fun K' hK => ?_) | refine AWP.drawL2 (by kernel_rfl) (by decide +kernel) rfl (fun K' hK => ?_) | (refine AQ.nil (hK _ ?_); clear hK K') | refine AQ.nil ?_ | refine AQ.q rfl rfl (fun hg => by first | exact std0 | exact std1) (by exact rfl) ?_)
  exact ⟨.inr rfl, fun _ _ h => h⟩


def nameAt (s : ByteArray) (i : Nat) : Bool :=
  (decide (((s.data.toList.getD i 0).toNat : Int) ≥ 65) && decide (((s.data.toList.getD i 0).toNat : Int) ≤ 90)) ||
  ((decide (((s.data.toList.getD i 0).toNat : Int) ≥ 48) && decide (((s.data.toList.getD i 0).toNat : Int) ≤ 57)) && decide (i ≠ 0))
def nameB (s : ByteArray) : Bool := decide (1 ≤ s.size) && decide (s.size ≤ 12) && (List.range s.size).all (nameAt s)

theorem nameB_true {s : ByteArray} (h1 : 1 ≤ s.size) (h2 : s.size ≤ 12) (h : ∀ j, j < s.size → nameAt s j = true) : nameB s = true := by
  simp [nameB, h1, h2]; exact h
theorem nameB_false {s : ByteArray} {k : Nat} (hk : k < s.size) (h : nameAt s k = false) : nameB s = false := by
  cases hn : nameB s with
  | false => rfl
  | true =>
    simp [nameB] at hn
    have := hn.2 k hk
    rw [h] at this; cases this

theorem name_spec (s : ByteArray) : PCall Tryz.prog 51 [.str s] (.b (nameB s)) := by
  refine PCall.body Tryz.func51 rfl rfl Tryz.ntmps51 rfl rfl ?_
  repeat' (first | refine AOps.q rfl rfl rfl (fun hg => by first | exact std0 | exact std1) (by exact rfl) ?_ | refine AWP.seq ?_ | refine AWP.regionK (fun K' hK => ?_) | (refine AOps.nil (hK _ _ ?_); clear hK K') | refine AOps.e (EStep.boxW rfl rfl rfl rfl rfl True.intro rfl rfl ?_) | refine AOps.e (EStep.storeW tabOk rfl rfl rfl True.intro rfl rfl True.intro rfl rfl rfl rfl rfl rfl rfl ?_) | refine AOps.e (EStep.allocW tabOk rfl rfl rfl rfl rfl rfl ?_) | (refine AWP.condW rfl True.intro (fun hc => ?_) (fun hc => ?_) <;> (first | (simp only [decide_eq_true_eq] at hc) | (simp only [decide_eq_false_iff_not, Int.not_lt, Int.not_le] at hc) | skip)) | refine AWP.block ?_ | refine AWP.exit ?_ | refine AWP.skip ?_ | refine AWP.ret ?_ | refine AWP.drawK2 (by decide +kernel) (by kernel_rfl) (by decide +kernel) rfl (fun K' hK => ?_) | refine AWP.drawL2 (by kernel_rfl) (by decide +kernel) rfl (fun K' hK => ?_) | (refine AQ.nil (hK _ ?_); clear hK K') | refine AQ.nil ?_ | refine AQ.q rfl rfl (fun hg => by first | exact std0 | exact std1) (by exact rfl) ?_)
  · -- too short, too long
    have e : nameB s = false := by
      simp at hc
      rcases hc with h | h
      · have : s.size = 0 := by omega
        simp [nameB, this]
      · have : ¬ s.size ≤ 12 := by omega
        simp [nameB, this]
    rw [e]; exact ⟨.inr rfl, fun _ _ h => h⟩
  · simp at hc
    have hs1 : 1 ≤ s.size := by omega
    have hs2 : s.size ≤ 12 := by omega
    clear hc
    refine AWP.loopW (ι := Nat) (fun k => [(0, .str s), (3, .int k)]) (fun _ => []) (fun k => k ≤ s.size ∧ ∀ j, j < k → nameAt s j = true) (fun k => s.size - k) 0 ⟨Nat.zero_le _, fun j h => absurd h (by omega)⟩ ⟨rfl, rfl, True.intro⟩ rfl ?_
    rintro k ⟨hk, hall⟩
    repeat' (first | refine AOps.q rfl rfl rfl (fun hg => by first | exact std0 | exact std1) (by exact rfl) ?_ | refine AWP.seq ?_ | refine AWP.regionK (fun K' hK => ?_) | (refine AOps.nil (hK _ _ ?_); clear hK K') | refine AOps.e (EStep.boxW rfl rfl rfl rfl rfl True.intro rfl rfl ?_) | refine AOps.e (EStep.storeW tabOk rfl rfl rfl True.intro rfl rfl True.intro rfl rfl rfl rfl rfl rfl rfl ?_) | refine AOps.e (EStep.allocW tabOk rfl rfl rfl rfl rfl rfl ?_) | (refine AWP.condW rfl True.intro (fun hc => ?_) (fun hc => ?_) <;> (first | (simp only [decide_eq_true_eq] at hc) | (simp only [decide_eq_false_iff_not, Int.not_lt, Int.not_le] at hc) | skip)) | refine AWP.block ?_ | refine AWP.exit ?_ | refine AWP.skip ?_ | refine AWP.ret ?_ | refine AWP.drawK2 (by decide +kernel) (by kernel_rfl) (by decide +kernel) rfl (fun K' hK => ?_) | refine AWP.drawL2 (by kernel_rfl) (by decide +kernel) rfl (fun K' hK => ?_) | (refine AQ.nil (hK _ ?_); clear hK K') | refine AQ.nil ?_ | refine AQ.q rfl rfl (fun hg => by first | exact std0 | exact std1) (by exact rfl) ?_)
    · have e : nameB s = false := nameB_false (k := k) (by omega) (by simp [nameAt] at hc ⊢; omega)
      rw [e]; exact ⟨.inr rfl, fun _ _ h => h⟩
    · refine ⟨k + 1, ⟨by omega, fun j hj => ?_⟩, by omega, ⟨rfl, rfl, True.intro⟩, rfl⟩
      rcases Nat.lt_or_ge j k with h | h
      · exact hall j h
      · have : j = k := by omega
        subst this
        simp [nameAt] at hc ⊢; omega
    · rw [nameB_true hs1 hs2 fun j hj => hall j (by omega)]
      exact ⟨.inr rfl, fun _ _ h => h⟩

/-- The index of a letter by its name, or -1. -/
def letterI (l : List Letter) (nm : ByteArray) : Int := findI (fun x => x.name.toList == nm.toList) l

theorem letter_spec (l : List Letter) (nm : ByteArray) (hl : l.length ≤ 9223372036854775807) : PCall Tryz.prog 52 [.sl 2 (l.map encL) .no, .str nm] (.int (letterI l nm)) := by
  refine PCall.body Tryz.func52 rfl rfl Tryz.ntmps52 rfl rfl ?_
  repeat' (first | refine AOps.q rfl rfl rfl (fun hg => by first | exact std0 | exact std1) (by exact rfl) ?_ | refine AWP.seq ?_ | refine AWP.regionK (fun K' hK => ?_) | (refine AOps.nil (hK _ _ ?_); clear hK K') | refine AOps.e (EStep.boxW rfl rfl rfl rfl rfl True.intro rfl rfl ?_) | refine AOps.e (EStep.storeW tabOk rfl rfl rfl True.intro rfl rfl True.intro rfl rfl rfl rfl rfl rfl rfl ?_) | refine AOps.e (EStep.allocW tabOk rfl rfl rfl rfl rfl rfl ?_) | (refine AWP.condW rfl True.intro (fun hc => ?_) (fun hc => ?_) <;> (first | (simp only [decide_eq_true_eq] at hc) | (simp only [decide_eq_false_iff_not, Int.not_lt, Int.not_le] at hc) | skip)) | refine AWP.block ?_ | refine AWP.exit ?_ | refine AWP.skip ?_ | refine AWP.ret ?_ | refine AWP.drawK2 (by decide +kernel) (by kernel_rfl) (by decide +kernel) rfl (fun K' hK => ?_) | refine AWP.drawL2 (by kernel_rfl) (by decide +kernel) rfl (fun K' hK => ?_) | (refine AQ.nil (hK _ ?_); clear hK K') | refine AQ.nil ?_ | refine AQ.q rfl rfl (fun hg => by first | exact std0 | exact std1) (by exact rfl) ?_)
  refine AWP.loopW (ι := Nat) (fun k => [(0, .sl 2 (l.map encL) .no), (1, .str nm), (5, .int k)]) (fun _ => []) (fun k => k ≤ l.length ∧ ∀ j, j < k → ((l.getD j default).name.toList == nm.toList) = false) (fun k => l.length - k) 0 ⟨Nat.zero_le _, fun j h => absurd h (by omega)⟩ ⟨rfl, rfl, rfl, True.intro⟩ rfl ?_
  rintro k ⟨hk, hall⟩
  repeat' (first | refine AOps.q rfl rfl rfl (fun hg => by first | exact std0 | exact std1) (by exact rfl) ?_ | refine AWP.seq ?_ | refine AWP.regionK (fun K' hK => ?_) | (refine AOps.nil (hK _ _ ?_); clear hK K') | refine AOps.e (EStep.boxW rfl rfl rfl rfl rfl True.intro rfl rfl ?_) | refine AOps.e (EStep.storeW tabOk rfl rfl rfl True.intro rfl rfl True.intro rfl rfl rfl rfl rfl rfl rfl ?_) | refine AOps.e (EStep.allocW tabOk rfl rfl rfl rfl rfl rfl ?_) | (refine AWP.condW rfl True.intro (fun hc => ?_) (fun hc => ?_) <;> (first | (simp only [decide_eq_true_eq] at hc) | (simp only [decide_eq_false_iff_not, Int.not_lt, Int.not_le] at hc) | skip)) | refine AWP.block ?_ | refine AWP.exit ?_ | refine AWP.skip ?_ | refine AWP.ret ?_ | refine AWP.drawK2 (by decide +kernel) (by kernel_rfl) (by decide +kernel) rfl (fun K' hK => ?_) | refine AWP.drawL2 (by kernel_rfl) (by decide +kernel) rfl (fun K' hK => ?_) | (refine AQ.nil (hK _ ?_); clear hK K') | refine AQ.nil ?_ | refine AQ.q rfl rfl (fun hg => by first | exact std0 | exact std1) (by exact rfl) ?_)
  · refine ⟨.inr rfl, ?_⟩
    rw [show letterI l nm = k from findI_at (by omega) hc hall]
    exact fun _ _ h => h
  · exact ⟨k + 1, ⟨by omega, fun j hj => lt_succ_cases hall hc hj⟩, by omega, ⟨rfl, rfl, rfl, True.intro⟩, rfl⟩
  · refine ⟨.inr rfl, ?_⟩
    rw [show letterI l nm = -1 from findI_no fun j hj => hall j (by omega)]
    exact fun _ _ h => h

def barOk (p : Printed) : Bool := inB p.number 0 100000 && inB p.bar 1 1000000 && inB p.pass 0 9
def letOk (e : Edition) (i : Nat) : Bool :=
  nameB (e.letters.getD i default).name && inB (e.letters.getD i default).pos 0 ((e.bars.length : Int) - 1) && letterI e.letters (e.letters.getD i default).name == (i : Int)
def headOk (e : Edition) : Bool := inB e.id 1 1000000 && inB e.version 1 1000000 && inB e.bars.length 1 4000 && decide ((e.letters.length : Int) ≤ 1000)
def formB (e : Edition) : Bool := headOk e && e.bars.all barOk && (List.range e.letters.length).all (letOk e)

theorem form_spec (e : Edition) : PCall Tryz.prog 50 [.agg (encE e)] (.b (formB e)) := by
  refine PCall.body Tryz.func50 rfl rfl Tryz.ntmps50 rfl rfl ?_
  repeat' (first | refine AOps.q rfl rfl rfl (fun hg => by first | exact std0 | exact PRun.callW (in_spec _ _ _) rfl rfl nd rfl nds | exact std1) (by exact rfl) ?_ | refine AWP.seq ?_ | refine AWP.regionK (fun K' hK => ?_) | (refine AOps.nil (hK _ _ ?_); clear hK K') | refine AOps.e (EStep.boxW rfl rfl rfl rfl rfl True.intro rfl rfl ?_) | refine AOps.e (EStep.storeW tabOk rfl rfl rfl True.intro rfl rfl True.intro rfl rfl rfl rfl rfl rfl rfl ?_) | refine AOps.e (EStep.allocW tabOk rfl rfl rfl rfl rfl rfl ?_) | (refine AWP.condW rfl True.intro (fun hc => ?_) (fun hc => ?_) <;> (first | (simp only [decide_eq_true_eq] at hc) | (simp only [decide_eq_false_iff_not, Int.not_lt, Int.not_le] at hc) | skip)) | refine AWP.block ?_ | refine AWP.exit ?_ | refine AWP.skip ?_ | refine AWP.ret ?_ | refine AWP.drawK2 (by decide +kernel) (by kernel_rfl) (by decide +kernel) rfl (fun K' hK => ?_) | refine AWP.drawL2 (by kernel_rfl) (by decide +kernel) rfl (fun K' hK => ?_) | (refine AQ.nil (hK _ ?_); clear hK K') | refine AQ.nil ?_ | refine AQ.q rfl rfl (fun hg => by first | exact std0 | exact PRun.callW (in_spec _ _ _) rfl rfl nd rfl nds | exact std1) (by exact rfl) ?_)
  · have : headOk e = false := by simp [headOk, inB] at hc ⊢; omega
    refine ⟨.inr rfl, ?_⟩
    rw [show formB e = false by simp [formB, this]]
    exact fun _ _ h => h
  have hh : headOk e = true := by simp [headOk, inB] at hc ⊢; omega
  have hl1 : e.bars.length ≤ 4000 := by simp [inB] at hc; omega
  have hl2 : e.letters.length ≤ 1000 := by simp [inB] at hc; omega
  clear hc
  repeat' (first | refine AOps.q rfl rfl rfl (fun hg => by first | exact std0 | exact PRun.callW (in_spec _ _ _) rfl rfl nd rfl nds | exact std1) (by exact rfl) ?_ | refine AWP.seq ?_ | refine AWP.regionK (fun K' hK => ?_) | (refine AOps.nil (hK _ _ ?_); clear hK K') | refine AOps.e (EStep.boxW rfl rfl rfl rfl rfl True.intro rfl rfl ?_) | refine AOps.e (EStep.storeW tabOk rfl rfl rfl True.intro rfl rfl True.intro rfl rfl rfl rfl rfl rfl rfl ?_) | refine AOps.e (EStep.allocW tabOk rfl rfl rfl rfl rfl rfl ?_) | (refine AWP.condW rfl True.intro (fun hc => ?_) (fun hc => ?_) <;> (first | (simp only [decide_eq_true_eq] at hc) | (simp only [decide_eq_false_iff_not, Int.not_lt, Int.not_le] at hc) | skip)) | refine AWP.block ?_ | refine AWP.exit ?_ | refine AWP.skip ?_ | refine AWP.ret ?_ | refine AWP.drawK2 (by decide +kernel) (by kernel_rfl) (by decide +kernel) rfl (fun K' hK => ?_) | refine AWP.drawL2 (by kernel_rfl) (by decide +kernel) rfl (fun K' hK => ?_) | (refine AQ.nil (hK _ ?_); clear hK K') | refine AQ.nil ?_ | refine AQ.q rfl rfl (fun hg => by first | exact std0 | exact PRun.callW (in_spec _ _ _) rfl rfl nd rfl nds | exact std1) (by exact rfl) ?_)
  refine AWP.loopW (ι := Nat) (fun k => [(1, .ptr 0 0), (6, .int k)]) (fun _ => [.var (encE e)]) (fun k => k ≤ e.bars.length ∧ ∀ j, j < k → barOk (e.bars.getD j default) = true) (fun k => e.bars.length - k) 0 ⟨Nat.zero_le _, fun j h => absurd h (by omega)⟩ ⟨rfl, rfl, True.intro⟩ rfl ?_
  rintro k ⟨hk, hall⟩
  repeat' (first | refine AOps.q rfl rfl rfl (fun hg => by first | exact std0 | exact PRun.callW (in_spec _ _ _) rfl rfl nd rfl nds | exact std1) (by exact rfl) ?_ | refine AWP.seq ?_ | refine AWP.regionK (fun K' hK => ?_) | (refine AOps.nil (hK _ _ ?_); clear hK K') | refine AOps.e (EStep.boxW rfl rfl rfl rfl rfl True.intro rfl rfl ?_) | refine AOps.e (EStep.storeW tabOk rfl rfl rfl True.intro rfl rfl True.intro rfl rfl rfl rfl rfl rfl rfl ?_) | refine AOps.e (EStep.allocW tabOk rfl rfl rfl rfl rfl rfl ?_) | (refine AWP.condW rfl True.intro (fun hc => ?_) (fun hc => ?_) <;> (first | (simp only [decide_eq_true_eq] at hc) | (simp only [decide_eq_false_iff_not, Int.not_lt, Int.not_le] at hc) | skip)) | refine AWP.block ?_ | refine AWP.exit ?_ | refine AWP.skip ?_ | refine AWP.ret ?_ | refine AWP.drawK2 (by decide +kernel) (by kernel_rfl) (by decide +kernel) rfl (fun K' hK => ?_) | refine AWP.drawL2 (by kernel_rfl) (by decide +kernel) rfl (fun K' hK => ?_) | (refine AQ.nil (hK _ ?_); clear hK K') | refine AQ.nil ?_ | refine AQ.q rfl rfl (fun hg => by first | exact std0 | exact PRun.callW (in_spec _ _ _) rfl rfl nd rfl nds | exact std1) (by exact rfl) ?_)
  · have hb : barOk (e.bars.getD k default) = false := by
      rw [Int.toNat_natCast] at hc
      unfold barOk; revert hc
      cases inB (e.bars.getD k default).number 0 100000 <;> cases inB (e.bars.getD k default).bar 1 1000000 <;> cases inB (e.bars.getD k default).pass 0 9 <;> simp
    refine ⟨.inr rfl, ?_⟩
    rw [show formB e = false by simp only [formB, all_no (k := k) (by omega) hb, Bool.and_false, Bool.false_and]]
    exact fun _ _ h => h
  · have hb : barOk (e.bars.getD k default) = true := by
      rw [Int.toNat_natCast] at hc
      unfold barOk; revert hc
      cases inB (e.bars.getD k default).number 0 100000 <;> cases inB (e.bars.getD k default).bar 1 1000000 <;> cases inB (e.bars.getD k default).pass 0 9 <;> simp
    exact ⟨k + 1, ⟨by omega, fun j hj => lt_succ_cases hall hb hj⟩, by omega, ⟨rfl, rfl, True.intro⟩, rfl⟩
  have hbars : e.bars.all barOk = true := all_yes fun j hj => hall j (by omega)
  clear hall hc hk
  refine AWP.loopW (ι := Nat) (fun k => [(1, .ptr 0 0), (9, .int k)]) (fun _ => [.var (encE e)]) (fun k => k ≤ e.letters.length ∧ ∀ j, j < k → letOk e j = true) (fun k => e.letters.length - k) 0 ⟨Nat.zero_le _, fun j h => absurd h (by omega)⟩ ⟨rfl, rfl, True.intro⟩ rfl ?_
  rintro k ⟨hk, hall⟩
  repeat' (first | refine AOps.q rfl rfl rfl (fun hg => by first | exact std0 | exact PRun.callW (in_spec _ _ _) rfl rfl nd rfl nds | exact PRun.callW (name_spec _) rfl rfl nd rfl nds | exact PRun.callW (letter_spec e.letters _ (by omega)) rfl rfl nd rfl nds | exact std1) (by exact rfl) ?_ | refine AWP.seq ?_ | refine AWP.regionK (fun K' hK => ?_) | (refine AOps.nil (hK _ _ ?_); clear hK K') | refine AOps.e (EStep.boxW rfl rfl rfl rfl rfl True.intro rfl rfl ?_) | refine AOps.e (EStep.storeW tabOk rfl rfl rfl True.intro rfl rfl True.intro rfl rfl rfl rfl rfl rfl rfl ?_) | refine AOps.e (EStep.allocW tabOk rfl rfl rfl rfl rfl rfl ?_) | (refine AWP.condW rfl True.intro (fun hc => ?_) (fun hc => ?_) <;> (first | (simp only [decide_eq_true_eq] at hc) | (simp only [decide_eq_false_iff_not, Int.not_lt, Int.not_le] at hc) | skip)) | refine AWP.block ?_ | refine AWP.exit ?_ | refine AWP.skip ?_ | refine AWP.ret ?_ | refine AWP.drawK2 (by decide +kernel) (by kernel_rfl) (by decide +kernel) rfl (fun K' hK => ?_) | refine AWP.drawL2 (by kernel_rfl) (by decide +kernel) rfl (fun K' hK => ?_) | (refine AQ.nil (hK _ ?_); clear hK K') | refine AQ.nil ?_ | refine AQ.q rfl rfl (fun hg => by first | exact std0 | exact PRun.callW (in_spec _ _ _) rfl rfl nd rfl nds | exact PRun.callW (name_spec _) rfl rfl nd rfl nds | exact PRun.callW (letter_spec e.letters _ (by omega)) rfl rfl nd rfl nds | exact std1) (by exact rfl) ?_)
  · have hb : letOk e k = false := by
      rw [Int.toNat_natCast] at hc
      unfold letOk; revert hc
      cases nameB (e.letters.getD k default).name <;> cases inB (e.letters.getD k default).pos 0 (↑e.bars.length - 1) <;> simp
    refine ⟨.inr rfl, ?_⟩
    rw [show formB e = false by simp only [formB, allR_no (show k < e.letters.length by omega) hb, Bool.and_false]]
    exact fun _ _ h => h
  · have hb : letOk e k = true := by
      rw [Int.toNat_natCast] at hc
      unfold letOk; revert hc
      cases nameB (e.letters.getD k default).name <;> cases inB (e.letters.getD k default).pos 0 (↑e.bars.length - 1) <;> simp
    exact ⟨k + 1, ⟨by omega, fun j hj => lt_succ_cases hall hb hj⟩, by omega, ⟨rfl, rfl, True.intro⟩, rfl⟩
  · have hlet : (List.range e.letters.length).all (letOk e) = true := allR_yes fun j hj => hall j (by omega)
    refine ⟨.inr rfl, ?_⟩
    rw [show formB e = true by simp only [formB, hh, hbars, hlet, Bool.and_true]]
    exact fun _ _ h => h
end Go.Proofs.YtnmdmmfdnnmdfaaGreatDoor.Ed
