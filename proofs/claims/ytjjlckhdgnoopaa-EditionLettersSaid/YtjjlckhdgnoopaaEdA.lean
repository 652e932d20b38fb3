/- Contracts by content of the small functions of package edition and of its reference: in, few, name, letter, form. No statement is proved here. -/
import Derived.Test.YtjjlckhdgnoopaaRows
import Derived.Test.YtjjlckhdgnoopaaAb14
namespace Go.Proofs.Ytjjlckhdgnoopaa
open Go.Ab
attribute [local irreducible] AWP AOps EStep AQ PStep PRun PCall
def tab : Tab := [
  (2, ⟨.int .i64, 1, 8, [.i .i64]⟩),
  (3, ⟨.int .i64, 1, 8, [.i .i64]⟩),
  (4, ⟨.bool, 1, 1, [.bool]⟩),
  (5, ⟨.int .u8, 1, 1, [.i .u8]⟩),
  (6, ⟨.int .u8, 1, 1, [.i .u8]⟩),
  (7, ⟨.struct [(2, 0, 1), (3, 1, 1), (4, 2, 1), (6, 3, 1)], 4, 24, [.i .i64, .i .i64, .bool, .i .u8]⟩),
  (8, ⟨.struct [(2, 0, 1), (3, 1, 1), (4, 2, 1), (6, 3, 1)], 4, 24, [.i .i64, .i .i64, .bool, .i .u8]⟩),
  (9, ⟨.str, 1, 16, [.str]⟩),
  (10, ⟨.str, 1, 16, [.str]⟩),
  (11, ⟨.str, 1, 16, [.str]⟩),
  (12, ⟨.int .u64, 1, 8, [.i .u64]⟩),
  (13, ⟨.struct [(9, 0, 1), (12, 1, 1)], 2, 24, [.str, .i .u64]⟩),
  (14, ⟨.struct [(9, 0, 1), (12, 1, 1)], 2, 24, [.str, .i .u64]⟩),
  (15, ⟨.ptr 67, 1, 8, [.ptr]⟩),
  (16, ⟨.ptr 70, 1, 8, [.ptr]⟩),
  (17, ⟨.ptr 80, 1, 8, [.ptr]⟩),
  (18, ⟨.struct [(17, 0, 1)], 1, 8, [.ptr]⟩),
  (19, ⟨.struct [(17, 0, 1)], 1, 8, [.ptr]⟩),
  (20, ⟨.iface, 1, 16, [.iface]⟩),
  (21, ⟨.int .i32, 1, 4, [.i .i32]⟩),
  (22, ⟨.slice 36, 1, 24, [.slice]⟩),
  (23, ⟨.slice 32, 1, 24, [.slice]⟩),
  (24, ⟨.struct [(3, 0, 1), (3, 1, 1), (22, 2, 1), (23, 3, 1)], 4, 64, [.i .i64, .i .i64, .slice, .slice]⟩),
  (25, ⟨.struct [(3, 0, 1), (3, 1, 1), (22, 2, 1), (23, 3, 1)], 4, 64, [.i .i64, .i .i64, .slice, .slice]⟩),
  (28, ⟨.int .i64, 1, 8, [.i .i64]⟩),
  (31, ⟨.struct [(9, 0, 1), (3, 1, 1)], 2, 24, [.str, .i .i64]⟩),
  (32, ⟨.struct [(9, 0, 1), (3, 1, 1)], 2, 24, [.str, .i .i64]⟩),
  (35, ⟨.struct [(3, 0, 1), (3, 1, 1), (3, 2, 1)], 3, 24, [.i .i64, .i .i64, .i .i64]⟩),
  (36, ⟨.struct [(3, 0, 1), (3, 1, 1), (3, 2, 1)], 3, 24, [.i .i64, .i .i64, .i .i64]⟩),
  (38, ⟨.struct [(3, 0, 1), (3, 1, 1)], 2, 16, [.i .i64, .i .i64]⟩),
  (39, ⟨.struct [(3, 0, 1), (3, 1, 1)], 2, 16, [.i .i64, .i .i64]⟩),
  (42, ⟨.slice 3, 1, 24, [.slice]⟩),
  (47, ⟨.int .u16, 1, 2, [.i .u16]⟩),
  (54, ⟨.map 9 3, 1, 8, [.map]⟩),
  (66, ⟨.struct [(17, 0, 1), (17, 1, 1), (17, 2, 1), (9, 3, 1)], 4, 40, [.ptr, .ptr, .ptr, .str]⟩),
  (67, ⟨.struct [(17, 0, 1), (17, 1, 1), (17, 2, 1), (9, 3, 1)], 4, 40, [.ptr, .ptr, .ptr, .str]⟩),
  (72, ⟨.int .u32, 1, 4, [.i .u32]⟩),
  (73, ⟨.int .u8, 1, 1, [.i .u8]⟩),
  (74, ⟨.int .u8, 1, 1, [.i .u8]⟩),
  (76, ⟨.ptr 5, 1, 8, [.ptr]⟩),
  (77, ⟨.int .i32, 1, 4, [.i .i32]⟩),
  (78, ⟨.int .i32, 1, 4, [.i .i32]⟩),
  (79, ⟨.struct [(12, 0, 1), (12, 1, 1), (72, 2, 1), (73, 3, 1), (5, 4, 1), (5, 5, 1), (74, 6, 1), (75, 7, 1), (76, 8, 1), (77, 9, 1), (78, 10, 1)], 11, 48, [.i .u64, .i .u64, .i .u32, .i .u8, .i .u8, .i .u8, .i .u8, .func, .ptr, .i .i32, .i .i32]⟩),
  (80, ⟨.struct [(12, 0, 1), (12, 1, 1), (72, 2, 1), (73, 3, 1), (5, 4, 1), (5, 5, 1), (74, 6, 1), (75, 7, 1), (76, 8, 1), (77, 9, 1), (78, 10, 1)], 11, 48, [.i .u64, .i .u64, .i .u32, .i .u8, .i .u8, .i .u8, .i .u8, .func, .ptr, .i .i32, .i .i32]⟩)]
theorem tabOk : tab.Ok Try.prog := Tab.ok_of _ _ (by kernel_rfl)
theorem in_spec (a b c : Int) : PCall Try.prog 16 [.int a, .int b, .int c] (.b (inB a b c)) := by
  refine PCall.body Try.func16 rfl rfl Try.ntmps16 rfl rfl ?_
  repeat' (first
    | refine AOps.q rfl rfl rfl (fun hg => by first | exact PRun.step tabOk rfl (by first | exact True.intro | exact ⟨True.intro, True.intro, True.intro⟩ | exact hg | exact ⟨True.intro, True.intro⟩ | exact ⟨hg, hg, True.intro⟩ | (repeat' (first | exact True.intro | exact hg | omega | decide | refine ⟨?_, ?_⟩ | (intro h; change (_ == _) = true; rw [h]; rfl) | (intro h; change (_ && (_ == _)) = true; rw [Bool.and_eq_true]; exact ⟨hg, by rw [h]; rfl⟩) | (exfalso; revert hg; simp [GG.holds]; done)))) | exact PRun.indexMW tabOk rfl rfl (by first | exact True.intro | exact hg) rfl (by first | exact True.intro | exact hg) rfl rfl (by omega) | exact PRun.lenM tabOk rfl rfl (by first | exact True.intro | exact hg) rfl | exact PRun.lenW tabOk rfl rfl (by first | exact True.intro | exact hg) rfl | exact PRun.binW rfl rfl (by first | exact True.intro | exact hg) rfl (by first | exact True.intro | exact hg) rfl | exact PRun.negWr rfl rfl (by first | exact True.intro | exact hg)) (by exact rfl) ?_
    | refine AWP.seq ?_
    | refine AWP.regionK (fun K' hK => ?_)
    | (refine AOps.nil (hK _ _ ?_); clear hK K')
    | refine AOps.e (EStep.boxW rfl rfl rfl rfl rfl True.intro rfl rfl ?_)
    | refine AOps.e (EStep.storeW tabOk rfl rfl rfl True.intro rfl rfl True.intro rfl rfl rfl rfl rfl rfl rfl ?_)
    | refine AOps.e (EStep.allocW tabOk rfl rfl rfl rfl rfl rfl ?_)
    | (refine AWP.condW rfl True.intro (fun hc => ?_) (fun hc => ?_) <;> (first | (simp only [decide_eq_true_eq] at hc) | (simp only [decide_eq_false_iff_not, Int.not_lt, Int.not_le] at hc) | skip))
    | refine AWP.block ?_
    | refine AWP.exit ?_
    | refine AWP.skip ?_
    | refine AWP.ret ?_
    | refine AWP.drawK (by kernel_rfl) (by decide +kernel) rfl (fun K' hK => ?_)
    | (refine AQ.nil (hK _ ?_); clear hK K')
    | refine AQ.q rfl rfl (fun hg => by first | exact PRun.step tabOk rfl (by first | exact True.intro | exact ⟨True.intro, True.intro, True.intro⟩ | exact hg | exact ⟨True.intro, True.intro⟩ | exact ⟨hg, hg, True.intro⟩ | (repeat' (first | exact True.intro | exact hg | omega | decide | refine ⟨?_, ?_⟩ | (intro h; change (_ == _) = true; rw [h]; rfl) | (intro h; change (_ && (_ == _)) = true; rw [Bool.and_eq_true]; exact ⟨hg, by rw [h]; rfl⟩) | (exfalso; revert hg; simp [GG.holds]; done)))) | exact PRun.indexMW tabOk rfl rfl (by first | exact True.intro | exact hg) rfl (by first | exact True.intro | exact hg) rfl rfl (by omega) | exact PRun.lenM tabOk rfl rfl (by first | exact True.intro | exact hg) rfl | exact PRun.lenW tabOk rfl rfl (by first | exact True.intro | exact hg) rfl | exact PRun.binW rfl rfl (by first | exact True.intro | exact hg) rfl (by first | exact True.intro | exact hg) rfl | exact PRun.negWr rfl rfl (by first | exact True.intro | exact hg)) (by exact rfl) ?_)
  exact ⟨.inr rfl, fun _ _ h => h⟩

structure Printed where
  number : Int
  bar : Int
  pass : Int
  deriving Inhabited
structure Letter where
  name : ByteArray
  pos : Int
  deriving Inhabited
structure Edition where
  id : Int
  version : Int
  bars : List Printed
  letters : List Letter
def encP (p : Printed) : List AV := [.int p.number, .int p.bar, .int p.pass]
def encL (p : Letter) : List AV := [.str p.name, .int p.pos]
def encE (e : Edition) : List AV := [.int e.id, .int e.version, .sl 3 (e.bars.map encP) .no, .sl 2 (e.letters.map encL) .no]

theorem few_spec (e : Edition) : PCall Try.prog 9 [.agg (encE e)] (.b (decide ((e.bars.length : Int) ≤ 80) && decide ((e.letters.length : Int) ≤ 60))) := by
  refine PCall.body Try.func9 rfl rfl Try.ntmps9 rfl rfl ?_
  repeat' (first
    | refine AOps.q rfl rfl rfl (fun hg => by first | exact PRun.step tabOk rfl (by first | exact True.intro | exact ⟨True.intro, True.intro, True.intro⟩ | exact hg | exact ⟨True.intro, True.intro⟩ | exact ⟨hg, hg, True.intro⟩ | (repeat' (first | exact True.intro | exact hg | omega | decide | refine ⟨?_, ?_⟩ | (intro h; change (_ == _) = true; rw [h]; rfl) | (intro h; change (_ && (_ == _)) = true; rw [Bool.and_eq_true]; exact ⟨hg, by rw [h]; rfl⟩) | (exfalso; revert hg; simp [GG.holds]; done)))) | exact PRun.indexMW tabOk rfl rfl (by first | exact True.intro | exact hg) rfl (by first | exact True.intro | exact hg) rfl rfl (by omega) | exact PRun.lenM tabOk rfl rfl (by first | exact True.intro | exact hg) rfl | exact PRun.lenW tabOk rfl rfl (by first | exact True.intro | exact hg) rfl | exact PRun.binW rfl rfl (by first | exact True.intro | exact hg) rfl (by first | exact True.intro | exact hg) rfl | exact PRun.negWr rfl rfl (by first | exact True.intro | exact hg)) (by exact rfl) ?_
    | refine AWP.seq ?_
    | refine AWP.regionK (fun K' hK => ?_)
    | (refine AOps.nil (hK _ _ ?_); clear hK K')
    | refine AOps.e (EStep.boxW rfl rfl rfl rfl rfl True.intro rfl rfl ?_)
    | refine AOps.e (EStep.storeW tabOk rfl rfl rfl True.intro rfl rfl True.intro rfl rfl rfl rfl rfl rfl rfl ?_)
    | refine AOps.e (EStep.allocW tabOk rfl rfl rfl rfl rfl rfl ?_)
    | (refine AWP.condW rfl True.intro (fun hc => ?_) (fun hc => ?_) <;> (first | (simp only [decide_eq_true_eq] at hc) | (simp only [decide_eq_false_iff_not, Int.not_lt, Int.not_le] at hc) | skip))
    | refine AWP.block ?_
    | refine AWP.exit ?_
    | refine AWP.skip ?_
    | refine AWP.ret ?_
    | refine AWP.drawK (by kernel_rfl) (by decide +kernel) rfl (fun K' hK => ?_)
    | (refine AQ.nil (hK _ ?_); clear hK K')
    | refine AQ.q rfl rfl (fun hg => by first | exact PRun.step tabOk rfl (by first | exact True.intro | exact ⟨True.intro, True.intro, True.intro⟩ | exact hg | exact ⟨True.intro, True.intro⟩ | exact ⟨hg, hg, True.intro⟩ | (repeat' (first | exact True.intro | exact hg | omega | decide | refine ⟨?_, ?_⟩ | (intro h; change (_ == _) = true; rw [h]; rfl) | (intro h; change (_ && (_ == _)) = true; rw [Bool.and_eq_true]; exact ⟨hg, by rw [h]; rfl⟩) | (exfalso; revert hg; simp [GG.holds]; done)))) | exact PRun.indexMW tabOk rfl rfl (by first | exact True.intro | exact hg) rfl (by first | exact True.intro | exact hg) rfl rfl (by omega) | exact PRun.lenM tabOk rfl rfl (by first | exact True.intro | exact hg) rfl | exact PRun.lenW tabOk rfl rfl (by first | exact True.intro | exact hg) rfl | exact PRun.binW rfl rfl (by first | exact True.intro | exact hg) rfl (by first | exact True.intro | exact hg) rfl | exact PRun.negWr rfl rfl (by first | exact True.intro | exact hg)) (by exact rfl) ?_)
  exact ⟨.inr rfl, fun _ _ h => h⟩


def nameAt (s : ByteArray) (i : Nat) : Bool :=
  (decide (((s.data.toList.getD i 0).toNat : Int) ≥ 65) && decide (((s.data.toList.getD i 0).toNat : Int) ≤ 90)) ||
  ((decide (((s.data.toList.getD i 0).toNat : Int) ≥ 48) && decide (((s.data.toList.getD i 0).toNat : Int) ≤ 57)) && decide (i ≠ 0))
def nameB (s : ByteArray) : Bool := decide (1 ≤ s.size) && decide (s.size ≤ 12) && (List.range s.size).all (nameAt s)

theorem nameB_true {s : ByteArray} (h1 : 1 ≤ s.size) (h2 : s.size ≤ 12) (h : ∀ j, j < s.size → nameAt s j = true) : nameB s = true := by
  simp [nameB, h1, h2]; exact h
theorem nameB_false {s : ByteArray} {k : Nat} (hk : k < s.size) (h : nameAt s k = false) : nameB s = false := by
  cases hn : nameB s with
  | false => rfl
  | true =>
    simp [nameB] at hn
    have := hn.2 k hk
    rw [h] at this; cases this

theorem name_spec (s : ByteArray) : PCall Try.prog 17 [.str s] (.b (nameB s)) := by
  refine PCall.body Try.func17 rfl rfl Try.ntmps17 rfl rfl ?_
  repeat' (first
    | refine AOps.q rfl rfl rfl (fun hg => by first | exact PRun.step tabOk rfl (by first | exact True.intro | exact ⟨True.intro, True.intro, True.intro⟩ | exact hg | exact ⟨True.intro, True.intro⟩ | exact ⟨hg, hg, True.intro⟩ | (repeat' (first | exact True.intro | exact hg | omega | decide | refine ⟨?_, ?_⟩ | (intro h; change (_ == _) = true; rw [h]; rfl) | (intro h; change (_ && (_ == _)) = true; rw [Bool.and_eq_true]; exact ⟨hg, by rw [h]; rfl⟩) | (exfalso; revert hg; simp [GG.holds]; done)))) | exact PRun.indexMW tabOk rfl rfl (by first | exact True.intro | exact hg) rfl (by first | exact True.intro | exact hg) rfl rfl (by omega) | exact PRun.lenM tabOk rfl rfl (by first | exact True.intro | exact hg) rfl | exact PRun.lenW tabOk rfl rfl (by first | exact True.intro | exact hg) rfl | exact PRun.binW rfl rfl (by first | exact True.intro | exact hg) rfl (by first | exact True.intro | exact hg) rfl | exact PRun.negWr rfl rfl (by first | exact True.intro | exact hg)) (by exact rfl) ?_
    | refine AWP.seq ?_
    | refine AWP.regionK (fun K' hK => ?_)
    | (refine AOps.nil (hK _ _ ?_); clear hK K')
    | refine AOps.e (EStep.boxW rfl rfl rfl rfl rfl True.intro rfl rfl ?_)
    | refine AOps.e (EStep.storeW tabOk rfl rfl rfl True.intro rfl rfl True.intro rfl rfl rfl rfl rfl rfl rfl ?_)
    | refine AOps.e (EStep.allocW tabOk rfl rfl rfl rfl rfl rfl ?_)
    | (refine AWP.condW rfl True.intro (fun hc => ?_) (fun hc => ?_) <;> (first | (simp only [decide_eq_true_eq] at hc) | (simp only [decide_eq_false_iff_not, Int.not_lt, Int.not_le] at hc) | skip))
    | refine AWP.block ?_
    | refine AWP.exit ?_
    | refine AWP.skip ?_
    | refine AWP.ret ?_
    | refine AWP.drawK (by kernel_rfl) (by decide +kernel) rfl (fun K' hK => ?_)
    | (refine AQ.nil (hK _ ?_); clear hK K')
    | refine AQ.q rfl rfl (fun hg => by first | exact PRun.step tabOk rfl (by first | exact True.intro | exact ⟨True.intro, True.intro, True.intro⟩ | exact hg | exact ⟨True.intro, True.intro⟩ | exact ⟨hg, hg, True.intro⟩ | (repeat' (first | exact True.intro | exact hg | omega | decide | refine ⟨?_, ?_⟩ | (intro h; change (_ == _) = true; rw [h]; rfl) | (intro h; change (_ && (_ == _)) = true; rw [Bool.and_eq_true]; exact ⟨hg, by rw [h]; rfl⟩) | (exfalso; revert hg; simp [GG.holds]; done)))) | exact PRun.indexMW tabOk rfl rfl (by first | exact True.intro | exact hg) rfl (by first | exact True.intro | exact hg) rfl rfl (by omega) | exact PRun.lenM tabOk rfl rfl (by first | exact True.intro | exact hg) rfl | exact PRun.lenW tabOk rfl rfl (by first | exact True.intro | exact hg) rfl | exact PRun.binW rfl rfl (by first | exact True.intro | exact hg) rfl (by first | exact True.intro | exact hg) rfl | exact PRun.negWr rfl rfl (by first | exact True.intro | exact hg)) (by exact rfl) ?_)
  · -- too short, too long
    have e : nameB s = false := by
      simp at hc
      rcases hc with h | h
      · have : s.size = 0 := by omega
        simp [nameB, this]
      · have : ¬ s.size ≤ 12 := by omega
        simp [nameB, this]
    rw [e]; exact ⟨.inr rfl, fun _ _ h => h⟩
  · simp at hc
    have hs1 : 1 ≤ s.size := by omega
    have hs2 : s.size ≤ 12 := by omega
    clear hc
    refine AWP.loopW (ι := Nat) (fun k => [(0, .str s), (3, .int k)]) (fun _ => []) (fun k => k ≤ s.size ∧ ∀ j, j < k → nameAt s j = true) (fun k => s.size - k) 0 ⟨Nat.zero_le _, fun j h => absurd h (by omega)⟩ ⟨rfl, rfl, True.intro⟩ rfl ?_
    rintro k ⟨hk, hall⟩
    repeat' (first
      | refine AOps.q rfl rfl rfl (fun hg => by first | exact PRun.step tabOk rfl (by first | exact True.intro | exact ⟨True.intro, True.intro, True.intro⟩ | exact hg | exact ⟨True.intro, True.intro⟩ | exact ⟨hg, hg, True.intro⟩ | (repeat' (first | exact True.intro | exact hg | omega | decide | refine ⟨?_, ?_⟩ | (intro h; change (_ == _) = true; rw [h]; rfl) | (intro h; change (_ && (_ == _)) = true; rw [Bool.and_eq_true]; exact ⟨hg, by rw [h]; rfl⟩) | (exfalso; revert hg; simp [GG.holds]; done)))) | exact PRun.indexMW tabOk rfl rfl (by first | exact True.intro | exact hg) rfl (by first | exact True.intro | exact hg) rfl rfl (by omega) | exact PRun.lenM tabOk rfl rfl (by first | exact True.intro | exact hg) rfl | exact PRun.lenW tabOk rfl rfl (by first | exact True.intro | exact hg) rfl | exact PRun.binW rfl rfl (by first | exact True.intro | exact hg) rfl (by first | exact True.intro | exact hg) rfl | exact PRun.negWr rfl rfl (by first | exact True.intro | exact hg)) (by exact rfl) ?_
      | refine AWP.seq ?_
      | refine AWP.regionK (fun K' hK => ?_)
      | (refine AOps.nil (hK _ _ ?_); clear hK K')
      | refine AOps.e (EStep.boxW rfl rfl rfl rfl rfl True.intro rfl rfl ?_)
      | refine AOps.e (EStep.storeW tabOk rfl rfl rfl True.intro rfl rfl True.intro rfl rfl rfl rfl rfl rfl rfl ?_)
      | refine AOps.e (EStep.allocW tabOk rfl rfl rfl rfl rfl rfl ?_)
      | (refine AWP.condW rfl True.intro (fun hc => ?_) (fun hc => ?_) <;> (first | (simp only [decide_eq_true_eq] at hc) | (simp only [decide_eq_false_iff_not, Int.not_lt, Int.not_le] at hc) | skip))
      | refine AWP.block ?_
      | refine AWP.exit ?_
      | refine AWP.skip ?_
      | refine AWP.ret ?_
      | refine AWP.drawK (by kernel_rfl) (by decide +kernel) rfl (fun K' hK => ?_)
      | (refine AQ.nil (hK _ ?_); clear hK K')
      | refine AQ.q rfl rfl (fun hg => by first | exact PRun.step tabOk rfl (by first | exact True.intro | exact ⟨True.intro, True.intro, True.intro⟩ | exact hg | exact ⟨True.intro, True.intro⟩ | exact ⟨hg, hg, True.intro⟩ | (repeat' (first | exact True.intro | exact hg | omega | decide | refine ⟨?_, ?_⟩ | (intro h; change (_ == _) = true; rw [h]; rfl) | (intro h; change (_ && (_ == _)) = true; rw [Bool.and_eq_true]; exact ⟨hg, by rw [h]; rfl⟩) | (exfalso; revert hg; simp [GG.holds]; done)))) | exact PRun.indexMW tabOk rfl rfl (by first | exact True.intro | exact hg) rfl (by first | exact True.intro | exact hg) rfl rfl (by omega) | exact PRun.lenM tabOk rfl rfl (by first | exact True.intro | exact hg) rfl | exact PRun.lenW tabOk rfl rfl (by first | exact True.intro | exact hg) rfl | exact PRun.binW rfl rfl (by first | exact True.intro | exact hg) rfl (by first | exact True.intro | exact hg) rfl | exact PRun.negWr rfl rfl (by first | exact True.intro | exact hg)) (by exact rfl) ?_)
    · have e : nameB s = false := nameB_false (k := k) (by omega) (by simp [nameAt] at hc ⊢; omega)
      rw [e]; exact ⟨.inr rfl, fun _ _ h => h⟩
    · refine ⟨k + 1, ⟨by omega, fun j hj => ?_⟩, by omega, ⟨rfl, rfl, True.intro⟩, rfl⟩
      rcases Nat.lt_or_ge j k with h | h
      · exact hall j h
      · have : j = k := by omega
        subst this
        simp [nameAt] at hc ⊢; omega
    · rw [nameB_true hs1 hs2 fun j hj => hall j (by omega)]
      exact ⟨.inr rfl, fun _ _ h => h⟩

/-- The index of a letter by its name, or -1. -/
def letterI (l : List Letter) (nm : ByteArray) : Int := findI (fun x => x.name.toList == nm.toList) l

theorem letter_spec (l : List Letter) (nm : ByteArray) (hl : l.length ≤ 9223372036854775807) : PCall Try.prog 18 [.sl 2 (l.map encL) .no, .str nm] (.int (letterI l nm)) := by
  refine PCall.body Try.func18 rfl rfl Try.ntmps18 rfl rfl ?_
  repeat' (first
    | refine AOps.q rfl rfl rfl (fun hg => by first | exact PRun.step tabOk rfl (by first | exact True.intro | exact ⟨True.intro, True.intro, True.intro⟩ | exact hg | exact ⟨True.intro, True.intro⟩ | exact ⟨hg, hg, True.intro⟩ | (repeat' (first | exact True.intro | exact hg | omega | decide | refine ⟨?_, ?_⟩ | (intro h; change (_ == _) = true; rw [h]; rfl) | (intro h; change (_ && (_ == _)) = true; rw [Bool.and_eq_true]; exact ⟨hg, by rw [h]; rfl⟩) | (exfalso; revert hg; simp [GG.holds]; done)))) | exact PRun.indexMW tabOk rfl rfl (by first | exact True.intro | exact hg) rfl (by first | exact True.intro | exact hg) rfl rfl (by omega) | exact PRun.lenM tabOk rfl rfl (by first | exact True.intro | exact hg) rfl | exact PRun.lenW tabOk rfl rfl (by first | exact True.intro | exact hg) rfl | exact PRun.binW rfl rfl (by first | exact True.intro | exact hg) rfl (by first | exact True.intro | exact hg) rfl | exact PRun.negWr rfl rfl (by first | exact True.intro | exact hg)) (by exact rfl) ?_
    | refine AWP.seq ?_
    | refine AWP.regionK (fun K' hK => ?_)
    | (refine AOps.nil (hK _ _ ?_); clear hK K')
    | refine AOps.e (EStep.boxW rfl rfl rfl rfl rfl True.intro rfl rfl ?_)
    | refine AOps.e (EStep.storeW tabOk rfl rfl rfl True.intro rfl rfl True.intro rfl rfl rfl rfl rfl rfl rfl ?_)
    | refine AOps.e (EStep.allocW tabOk rfl rfl rfl rfl rfl rfl ?_)
    | (refine AWP.condW rfl True.intro (fun hc => ?_) (fun hc => ?_) <;> (first | (simp only [decide_eq_true_eq] at hc) | (simp only [decide_eq_false_iff_not, Int.not_lt, Int.not_le] at hc) | skip))
    | refine AWP.block ?_
    | refine AWP.exit ?_
    | refine AWP.skip ?_
    | refine AWP.ret ?_
    | refine AWP.drawK (by kernel_rfl) (by decide +kernel) rfl (fun K' hK => ?_)
    | (refine AQ.nil (hK _ ?_); clear hK K')
    | refine AQ.q rfl rfl (fun hg => by first | exact PRun.step tabOk rfl (by first | exact True.intro | exact ⟨True.intro, True.intro, True.intro⟩ | exact hg | exact ⟨True.intro, True.intro⟩ | exact ⟨hg, hg, True.intro⟩ | (repeat' (first | exact True.intro | exact hg | omega | decide | refine ⟨?_, ?_⟩ | (intro h; change (_ == _) = true; rw [h]; rfl) | (intro h; change (_ && (_ == _)) = true; rw [Bool.and_eq_true]; exact ⟨hg, by rw [h]; rfl⟩) | (exfalso; revert hg; simp [GG.holds]; done)))) | exact PRun.indexMW tabOk rfl rfl (by first | exact True.intro | exact hg) rfl (by first | exact True.intro | exact hg) rfl rfl (by omega) | exact PRun.lenM tabOk rfl rfl (by first | exact True.intro | exact hg) rfl | exact PRun.lenW tabOk rfl rfl (by first | exact True.intro | exact hg) rfl | exact PRun.binW rfl rfl (by first | exact True.intro | exact hg) rfl (by first | exact True.intro | exact hg) rfl | exact PRun.negWr rfl rfl (by first | exact True.intro | exact hg)) (by exact rfl) ?_)
  refine AWP.loopW (ι := Nat) (fun k => [(0, .sl 2 (l.map encL) .no), (1, .str nm), (5, .int k)]) (fun _ => []) (fun k => k ≤ l.length ∧ ∀ j, j < k → ((l.getD j default).name.toList == nm.toList) = false) (fun k => l.length - k) 0 ⟨Nat.zero_le _, fun j h => absurd h (by omega)⟩ ⟨rfl, rfl, rfl, True.intro⟩ rfl ?_
  rintro k ⟨hk, hall⟩
  repeat' (first
    | refine AOps.q rfl rfl rfl (fun hg => by first | exact PRun.step tabOk rfl (by first | exact True.intro | exact ⟨True.intro, True.intro, True.intro⟩ | exact hg | exact ⟨True.intro, True.intro⟩ | exact ⟨hg, hg, True.intro⟩ | (repeat' (first | exact True.intro | exact hg | omega | decide | refine ⟨?_, ?_⟩ | (intro h; change (_ == _) = true; rw [h]; rfl) | (intro h; change (_ && (_ == _)) = true; rw [Bool.and_eq_true]; exact ⟨hg, by rw [h]; rfl⟩) | (exfalso; revert hg; simp [GG.holds]; done)))) | exact PRun.indexMW tabOk rfl rfl (by first | exact True.intro | exact hg) rfl (by first | exact True.intro | exact hg) rfl rfl (by omega) | exact PRun.lenM tabOk rfl rfl (by first | exact True.intro | exact hg) rfl | exact PRun.lenW tabOk rfl rfl (by first | exact True.intro | exact hg) rfl | exact PRun.binW rfl rfl (by first | exact True.intro | exact hg) rfl (by first | exact True.intro | exact hg) rfl | exact PRun.negWr rfl rfl (by first | exact True.intro | exact hg)) (by exact rfl) ?_
    | refine AWP.seq ?_
    | refine AWP.regionK (fun K' hK => ?_)
    | (refine AOps.nil (hK _ _ ?_); clear hK K')
    | refine AOps.e (EStep.boxW rfl rfl rfl rfl rfl True.intro rfl rfl ?_)
    | refine AOps.e (EStep.storeW tabOk rfl rfl rfl True.intro rfl rfl True.intro rfl rfl rfl rfl rfl rfl rfl ?_)
    | refine AOps.e (EStep.allocW tabOk rfl rfl rfl rfl rfl rfl ?_)
    | (refine AWP.condW rfl True.intro (fun hc => ?_) (fun hc => ?_) <;> (first | (simp only [decide_eq_true_eq] at hc) | (simp only [decide_eq_false_iff_not, Int.not_lt, Int.not_le] at hc) | skip))
    | refine AWP.block ?_
    | refine AWP.exit ?_
    | refine AWP.skip ?_
    | refine AWP.ret ?_
    | refine AWP.drawK (by kernel_rfl) (by decide +kernel) rfl (fun K' hK => ?_)
    | (refine AQ.nil (hK _ ?_); clear hK K')
    | refine AQ.q rfl rfl (fun hg => by first | exact PRun.step tabOk rfl (by first | exact True.intro | exact ⟨True.intro, True.intro, True.intro⟩ | exact hg | exact ⟨True.intro, True.intro⟩ | exact ⟨hg, hg, True.intro⟩ | (repeat' (first | exact True.intro | exact hg | omega | decide | refine ⟨?_, ?_⟩ | (intro h; change (_ == _) = true; rw [h]; rfl) | (intro h; change (_ && (_ == _)) = true; rw [Bool.and_eq_true]; exact ⟨hg, by rw [h]; rfl⟩) | (exfalso; revert hg; simp [GG.holds]; done)))) | exact PRun.indexMW tabOk rfl rfl (by first | exact True.intro | exact hg) rfl (by first | exact True.intro | exact hg) rfl rfl (by omega) | exact PRun.lenM tabOk rfl rfl (by first | exact True.intro | exact hg) rfl | exact PRun.lenW tabOk rfl rfl (by first | exact True.intro | exact hg) rfl | exact PRun.binW rfl rfl (by first | exact True.intro | exact hg) rfl (by first | exact True.intro | exact hg) rfl | exact PRun.negWr rfl rfl (by first | exact True.intro | exact hg)) (by exact rfl) ?_)
  · refine ⟨.inr rfl, ?_⟩
    rw [show letterI l nm = k from findI_at (by omega) hc hall]
    exact fun _ _ h => h
  · exact ⟨k + 1, ⟨by omega, fun j hj => lt_succ_cases hall hc hj⟩, by omega, ⟨rfl, rfl, rfl, True.intro⟩, rfl⟩
  · refine ⟨.inr rfl, ?_⟩
    rw [show letterI l nm = -1 from findI_no fun j hj => hall j (by omega)]
    exact fun _ _ h => h

def barOk (p : Printed) : Bool := inB p.number 0 100000 && inB p.bar 1 1000000 && inB p.pass 0 9
def letOk (e : Edition) (i : Nat) : Bool :=
  nameB (e.letters.getD i default).name && inB (e.letters.getD i default).pos 0 ((e.bars.length : Int) - 1) && letterI e.letters (e.letters.getD i default).name == (i : Int)
def headOk (e : Edition) : Bool := inB e.id 1 1000000 && inB e.version 1 1000000 && inB e.bars.length 1 4000 && decide ((e.letters.length : Int) ≤ 1000)
def formB (e : Edition) : Bool := headOk e && e.bars.all barOk && (List.range e.letters.length).all (letOk e)

theorem form_spec (e : Edition) : PCall Try.prog 10 [.agg (encE e)] (.b (formB e)) := by
  refine PCall.body Try.func10 rfl rfl Try.ntmps10 rfl rfl ?_
  repeat' (first
    | refine AOps.q rfl rfl rfl (fun hg => by first | exact PRun.step tabOk rfl (by first | exact True.intro | exact ⟨True.intro, True.intro, True.intro⟩ | exact hg | exact ⟨True.intro, True.intro⟩ | exact ⟨hg, hg, True.intro⟩ | (repeat' (first | exact True.intro | exact hg | omega | decide | refine ⟨?_, ?_⟩ | (intro h; change (_ == _) = true; rw [h]; rfl) | (intro h; change (_ && (_ == _)) = true; rw [Bool.and_eq_true]; exact ⟨hg, by rw [h]; rfl⟩) | (exfalso; revert hg; simp [GG.holds]; done)))) | exact PRun.callW (in_spec _ _ _) rfl rfl (by first | exact True.intro | exact hg) rfl (by first | exact True.intro | exact ⟨True.intro, True.intro⟩ | exact ⟨True.intro, True.intro, True.intro⟩ | (repeat' (first | exact True.intro | exact hg | refine ⟨?_, ?_⟩))) | exact PRun.indexMW tabOk rfl rfl (by first | exact True.intro | exact hg) rfl (by first | exact True.intro | exact hg) rfl rfl (by omega) | exact PRun.lenM tabOk rfl rfl (by first | exact True.intro | exact hg) rfl | exact PRun.lenW tabOk rfl rfl (by first | exact True.intro | exact hg) rfl | exact PRun.binW rfl rfl (by first | exact True.intro | exact hg) rfl (by first | exact True.intro | exact hg) rfl | exact PRun.negWr rfl rfl (by first | exact True.intro | exact hg)) (by exact rfl) ?_
    | refine AWP.seq ?_
    | refine AWP.regionK (fun K' hK => ?_)
    | (refine AOps.nil (hK _ _ ?_); clear hK K')
    | refine AOps.e (EStep.boxW rfl rfl rfl rfl rfl True.intro rfl rfl ?_)
    | refine AOps.e (EStep.storeW tabOk rfl rfl rfl True.intro rfl rfl True.intro rfl rfl rfl rfl rfl rfl rfl ?_)
    | refine AOps.e (EStep.allocW tabOk rfl rfl rfl rfl rfl rfl ?_)
    | (refine AWP.condW rfl True.intro (fun hc => ?_) (fun hc => ?_) <;> (first | (simp only [decide_eq_true_eq] at hc) | (simp only [decide_eq_false_iff_not, Int.not_lt, Int.not_le] at hc) | skip))
    | refine AWP.block ?_
    | refine AWP.exit ?_
    | refine AWP.skip ?_
    | refine AWP.ret ?_
    | refine AWP.drawK (by kernel_rfl) (by decide +kernel) rfl (fun K' hK => ?_)
    | (refine AQ.nil (hK _ ?_); clear hK K')
    | refine AQ.q rfl rfl (fun hg => by first | exact PRun.step tabOk rfl (by first | exact True.intro | exact ⟨True.intro, True.intro, True.intro⟩ | exact hg | exact ⟨True.intro, True.intro⟩ | exact ⟨hg, hg, True.intro⟩ | (repeat' (first | exact True.intro | exact hg | omega | decide | refine ⟨?_, ?_⟩ | (intro h; change (_ == _) = true; rw [h]; rfl) | (intro h; change (_ && (_ == _)) = true; rw [Bool.and_eq_true]; exact ⟨hg, by rw [h]; rfl⟩) | (exfalso; revert hg; simp [GG.holds]; done)))) | exact PRun.callW (in_spec _ _ _) rfl rfl (by first | exact True.intro | exact hg) rfl (by first | exact True.intro | exact ⟨True.intro, True.intro⟩ | exact ⟨True.intro, True.intro, True.intro⟩ | (repeat' (first | exact True.intro | exact hg | refine ⟨?_, ?_⟩))) | exact PRun.indexMW tabOk rfl rfl (by first | exact True.intro | exact hg) rfl (by first | exact True.intro | exact hg) rfl rfl (by omega) | exact PRun.lenM tabOk rfl rfl (by first | exact True.intro | exact hg) rfl | exact PRun.lenW tabOk rfl rfl (by first | exact True.intro | exact hg) rfl | exact PRun.binW rfl rfl (by first | exact True.intro | exact hg) rfl (by first | exact True.intro | exact hg) rfl | exact PRun.negWr rfl rfl (by first | exact True.intro | exact hg)) (by exact rfl) ?_)
  · have : headOk e = false := by simp [headOk, inB] at hc ⊢; omega
    refine ⟨.inr rfl, ?_⟩
    rw [show formB e = false by simp [formB, this]]
    exact fun _ _ h => h
  have hh : headOk e = true := by simp [headOk, inB] at hc ⊢; omega
  have hl1 : e.bars.length ≤ 4000 := by simp [inB] at hc; omega
  have hl2 : e.letters.length ≤ 1000 := by simp [inB] at hc; omega
  clear hc
  repeat' (first
    | refine AOps.q rfl rfl rfl (fun hg => by first | exact PRun.step tabOk rfl (by first | exact True.intro | exact ⟨True.intro, True.intro, True.intro⟩ | exact hg | exact ⟨True.intro, True.intro⟩ | exact ⟨hg, hg, True.intro⟩ | (repeat' (first | exact True.intro | exact hg | omega | decide | refine ⟨?_, ?_⟩ | (intro h; change (_ == _) = true; rw [h]; rfl) | (intro h; change (_ && (_ == _)) = true; rw [Bool.and_eq_true]; exact ⟨hg, by rw [h]; rfl⟩) | (exfalso; revert hg; simp [GG.holds]; done)))) | exact PRun.callW (in_spec _ _ _) rfl rfl (by first | exact True.intro | exact hg) rfl (by first | exact True.intro | exact ⟨True.intro, True.intro⟩ | exact ⟨True.intro, True.intro, True.intro⟩ | (repeat' (first | exact True.intro | exact hg | refine ⟨?_, ?_⟩))) | exact PRun.indexMW tabOk rfl rfl (by first | exact True.intro | exact hg) rfl (by first | exact True.intro | exact hg) rfl rfl (by omega) | exact PRun.lenM tabOk rfl rfl (by first | exact True.intro | exact hg) rfl | exact PRun.lenW tabOk rfl rfl (by first | exact True.intro | exact hg) rfl | exact PRun.binW rfl rfl (by first | exact True.intro | exact hg) rfl (by first | exact True.intro | exact hg) rfl | exact PRun.negWr rfl rfl (by first | exact True.intro | exact hg)) (by exact rfl) ?_
    | refine AWP.seq ?_
    | refine AWP.regionK (fun K' hK => ?_)
    | (refine AOps.nil (hK _ _ ?_); clear hK K')
    | refine AOps.e (EStep.boxW rfl rfl rfl rfl rfl True.intro rfl rfl ?_)
    | refine AOps.e (EStep.storeW tabOk rfl rfl rfl True.intro rfl rfl True.intro rfl rfl rfl rfl rfl rfl rfl ?_)
    | refine AOps.e (EStep.allocW tabOk rfl rfl rfl rfl rfl rfl ?_)
    | (refine AWP.condW rfl True.intro (fun hc => ?_) (fun hc => ?_) <;> (first | (simp only [decide_eq_true_eq] at hc) | (simp only [decide_eq_false_iff_not, Int.not_lt, Int.not_le] at hc) | skip))
    | refine AWP.block ?_
    | refine AWP.exit ?_
    | refine AWP.skip ?_
    | refine AWP.ret ?_
    | refine AWP.drawK (by kernel_rfl) (by decide +kernel) rfl (fun K' hK => ?_)
    | (refine AQ.nil (hK _ ?_); clear hK K')
    | refine AQ.q rfl rfl (fun hg => by first | exact PRun.step tabOk rfl (by first | exact True.intro | exact ⟨True.intro, True.intro, True.intro⟩ | exact hg | exact ⟨True.intro, True.intro⟩ | exact ⟨hg, hg, True.intro⟩ | (repeat' (first | exact True.intro | exact hg | omega | decide | refine ⟨?_, ?_⟩ | (intro h; change (_ == _) = true; rw [h]; rfl) | (intro h; change (_ && (_ == _)) = true; rw [Bool.and_eq_true]; exact ⟨hg, by rw [h]; rfl⟩) | (exfalso; revert hg; simp [GG.holds]; done)))) | exact PRun.callW (in_spec _ _ _) rfl rfl (by first | exact True.intro | exact hg) rfl (by first | exact True.intro | exact ⟨True.intro, True.intro⟩ | exact ⟨True.intro, True.intro, True.intro⟩ | (repeat' (first | exact True.intro | exact hg | refine ⟨?_, ?_⟩))) | exact PRun.indexMW tabOk rfl rfl (by first | exact True.intro | exact hg) rfl (by first | exact True.intro | exact hg) rfl rfl (by omega) | exact PRun.lenM tabOk rfl rfl (by first | exact True.intro | exact hg) rfl | exact PRun.lenW tabOk rfl rfl (by first | exact True.intro | exact hg) rfl | exact PRun.binW rfl rfl (by first | exact True.intro | exact hg) rfl (by first | exact True.intro | exact hg) rfl | exact PRun.negWr rfl rfl (by first | exact True.intro | exact hg)) (by exact rfl) ?_)
  refine AWP.loopW (ι := Nat) (fun k => [(1, .ptr 0 0), (6, .int k)]) (fun _ => [.var (encE e)]) (fun k => k ≤ e.bars.length ∧ ∀ j, j < k → barOk (e.bars.getD j default) = true) (fun k => e.bars.length - k) 0 ⟨Nat.zero_le _, fun j h => absurd h (by omega)⟩ ⟨rfl, rfl, True.intro⟩ rfl ?_
  rintro k ⟨hk, hall⟩
  repeat' (first
    | refine AOps.q rfl rfl rfl (fun hg => by first | exact PRun.step tabOk rfl (by first | exact True.intro | exact ⟨True.intro, True.intro, True.intro⟩ | exact hg | exact ⟨True.intro, True.intro⟩ | exact ⟨hg, hg, True.intro⟩ | (repeat' (first | exact True.intro | exact hg | omega | decide | refine ⟨?_, ?_⟩ | (intro h; change (_ == _) = true; rw [h]; rfl) | (intro h; change (_ && (_ == _)) = true; rw [Bool.and_eq_true]; exact ⟨hg, by rw [h]; rfl⟩) | (exfalso; revert hg; simp [GG.holds]; done)))) | exact PRun.callW (in_spec _ _ _) rfl rfl (by first | exact True.intro | exact hg) rfl (by first | exact True.intro | exact ⟨True.intro, True.intro⟩ | exact ⟨True.intro, True.intro, True.intro⟩ | (repeat' (first | exact True.intro | exact hg | refine ⟨?_, ?_⟩))) | exact PRun.indexMW tabOk rfl rfl (by first | exact True.intro | exact hg) rfl (by first | exact True.intro | exact hg) rfl rfl (by omega) | exact PRun.lenM tabOk rfl rfl (by first | exact True.intro | exact hg) rfl | exact PRun.lenW tabOk rfl rfl (by first | exact True.intro | exact hg) rfl | exact PRun.binW rfl rfl (by first | exact True.intro | exact hg) rfl (by first | exact True.intro | exact hg) rfl | exact PRun.negWr rfl rfl (by first | exact True.intro | exact hg)) (by exact rfl) ?_
    | refine AWP.seq ?_
    | refine AWP.regionK (fun K' hK => ?_)
    | (refine AOps.nil (hK _ _ ?_); clear hK K')
    | refine AOps.e (EStep.boxW rfl rfl rfl rfl rfl True.intro rfl rfl ?_)
    | refine AOps.e (EStep.storeW tabOk rfl rfl rfl True.intro rfl rfl True.intro rfl rfl rfl rfl rfl rfl rfl ?_)
    | refine AOps.e (EStep.allocW tabOk rfl rfl rfl rfl rfl rfl ?_)
    | (refine AWP.condW rfl True.intro (fun hc => ?_) (fun hc => ?_) <;> (first | (simp only [decide_eq_true_eq] at hc) | (simp only [decide_eq_false_iff_not, Int.not_lt, Int.not_le] at hc) | skip))
    | refine AWP.block ?_
    | refine AWP.exit ?_
    | refine AWP.skip ?_
    | refine AWP.ret ?_
    | refine AWP.drawK (by kernel_rfl) (by decide +kernel) rfl (fun K' hK => ?_)
    | (refine AQ.nil (hK _ ?_); clear hK K')
    | refine AQ.q rfl rfl (fun hg => by first | exact PRun.step tabOk rfl (by first | exact True.intro | exact ⟨True.intro, True.intro, True.intro⟩ | exact hg | exact ⟨True.intro, True.intro⟩ | exact ⟨hg, hg, True.intro⟩ | (repeat' (first | exact True.intro | exact hg | omega | decide | refine ⟨?_, ?_⟩ | (intro h; change (_ == _) = true; rw [h]; rfl) | (intro h; change (_ && (_ == _)) = true; rw [Bool.and_eq_true]; exact ⟨hg, by rw [h]; rfl⟩) | (exfalso; revert hg; simp [GG.holds]; done)))) | exact PRun.callW (in_spec _ _ _) rfl rfl (by first | exact True.intro | exact hg) rfl (by first | exact True.intro | exact ⟨True.intro, True.intro⟩ | exact ⟨True.intro, True.intro, True.intro⟩ | (repeat' (first | exact True.intro | exact hg | refine ⟨?_, ?_⟩))) | exact PRun.indexMW tabOk rfl rfl (by first | exact True.intro | exact hg) rfl (by first | exact True.intro | exact hg) rfl rfl (by omega) | exact PRun.lenM tabOk rfl rfl (by first | exact True.intro | exact hg) rfl | exact PRun.lenW tabOk rfl rfl (by first | exact True.intro | exact hg) rfl | exact PRun.binW rfl rfl (by first | exact True.intro | exact hg) rfl (by first | exact True.intro | exact hg) rfl | exact PRun.negWr rfl rfl (by first | exact True.intro | exact hg)) (by exact rfl) ?_)
  · have hb : barOk (e.bars.getD k default) = false := by
      rw [Int.toNat_natCast] at hc
      unfold barOk; revert hc
      cases inB (e.bars.getD k default).number 0 100000 <;> cases inB (e.bars.getD k default).bar 1 1000000 <;> cases inB (e.bars.getD k default).pass 0 9 <;> simp
    refine ⟨.inr rfl, ?_⟩
    rw [show formB e = false by simp only [formB, all_no (k := k) (by omega) hb, Bool.and_false, Bool.false_and]]
    exact fun _ _ h => h
  · have hb : barOk (e.bars.getD k default) = true := by
      rw [Int.toNat_natCast] at hc
      unfold barOk; revert hc
      cases inB (e.bars.getD k default).number 0 100000 <;> cases inB (e.bars.getD k default).bar 1 1000000 <;> cases inB (e.bars.getD k default).pass 0 9 <;> simp
    exact ⟨k + 1, ⟨by omega, fun j hj => lt_succ_cases hall hb hj⟩, by omega, ⟨rfl, rfl, True.intro⟩, rfl⟩
  have hbars : e.bars.all barOk = true := all_yes fun j hj => hall j (by omega)
  clear hall hc hk
  refine AWP.loopW (ι := Nat) (fun k => [(1, .ptr 0 0), (9, .int k)]) (fun _ => [.var (encE e)]) (fun k => k ≤ e.letters.length ∧ ∀ j, j < k → letOk e j = true) (fun k => e.letters.length - k) 0 ⟨Nat.zero_le _, fun j h => absurd h (by omega)⟩ ⟨rfl, rfl, True.intro⟩ rfl ?_
  rintro k ⟨hk, hall⟩
  repeat' (first
    | refine AOps.q rfl rfl rfl (fun hg => by first | exact PRun.step tabOk rfl (by first | exact True.intro | exact ⟨True.intro, True.intro, True.intro⟩ | exact hg | exact ⟨True.intro, True.intro⟩ | exact ⟨hg, hg, True.intro⟩ | (repeat' (first | exact True.intro | exact hg | omega | decide | refine ⟨?_, ?_⟩ | (intro h; change (_ == _) = true; rw [h]; rfl) | (intro h; change (_ && (_ == _)) = true; rw [Bool.and_eq_true]; exact ⟨hg, by rw [h]; rfl⟩) | (exfalso; revert hg; simp [GG.holds]; done)))) | exact PRun.callW (in_spec _ _ _) rfl rfl (by first | exact True.intro | exact hg) rfl (by first | exact True.intro | exact ⟨True.intro, True.intro⟩ | exact ⟨True.intro, True.intro, True.intro⟩ | (repeat' (first | exact True.intro | exact hg | refine ⟨?_, ?_⟩))) | exact PRun.callW (name_spec _) rfl rfl (by first | exact True.intro | exact hg) rfl (by first | exact True.intro | exact ⟨True.intro, True.intro⟩ | exact ⟨True.intro, True.intro, True.intro⟩ | (repeat' (first | exact True.intro | exact hg | refine ⟨?_, ?_⟩))) | exact PRun.callW (letter_spec e.letters _ (by omega)) rfl rfl (by first | exact True.intro | exact hg) rfl (by first | exact True.intro | exact ⟨True.intro, True.intro⟩ | exact ⟨True.intro, True.intro, True.intro⟩ | (repeat' (first | exact True.intro | exact hg | refine ⟨?_, ?_⟩))) | exact PRun.indexMW tabOk rfl rfl (by first | exact True.intro | exact hg) rfl (by first | exact True.intro | exact hg) rfl rfl (by omega) | exact PRun.lenM tabOk rfl rfl (by first | exact True.intro | exact hg) rfl | exact PRun.lenW tabOk rfl rfl (by first | exact True.intro | exact hg) rfl | exact PRun.binW rfl rfl (by first | exact True.intro | exact hg) rfl (by first | exact True.intro | exact hg) rfl | exact PRun.negWr rfl rfl (by first | exact True.intro | exact hg)) (by exact rfl) ?_
    | refine AWP.seq ?_
    | refine AWP.regionK (fun K' hK => ?_)
    | (refine AOps.nil (hK _ _ ?_); clear hK K')
    | refine AOps.e (EStep.boxW rfl rfl rfl rfl rfl True.intro rfl rfl ?_)
    | refine AOps.e (EStep.storeW tabOk rfl rfl rfl True.intro rfl rfl True.intro rfl rfl rfl rfl rfl rfl rfl ?_)
    | refine AOps.e (EStep.allocW tabOk rfl rfl rfl rfl rfl rfl ?_)
    | (refine AWP.condW rfl True.intro (fun hc => ?_) (fun hc => ?_) <;> (first | (simp only [decide_eq_true_eq] at hc) | (simp only [decide_eq_false_iff_not, Int.not_lt, Int.not_le] at hc) | skip))
    | refine AWP.block ?_
    | refine AWP.exit ?_
    | refine AWP.skip ?_
    | refine AWP.ret ?_
    | refine AWP.drawK (by kernel_rfl) (by decide +kernel) rfl (fun K' hK => ?_)
    | (refine AQ.nil (hK _ ?_); clear hK K')
    | refine AQ.q rfl rfl (fun hg => by first | exact PRun.step tabOk rfl (by first | exact True.intro | exact ⟨True.intro, True.intro, True.intro⟩ | exact hg | exact ⟨True.intro, True.intro⟩ | exact ⟨hg, hg, True.intro⟩ | (repeat' (first | exact True.intro | exact hg | omega | decide | refine ⟨?_, ?_⟩ | (intro h; change (_ == _) = true; rw [h]; rfl) | (intro h; change (_ && (_ == _)) = true; rw [Bool.and_eq_true]; exact ⟨hg, by rw [h]; rfl⟩) | (exfalso; revert hg; simp [GG.holds]; done)))) | exact PRun.callW (in_spec _ _ _) rfl rfl (by first | exact True.intro | exact hg) rfl (by first | exact True.intro | exact ⟨True.intro, True.intro⟩ | exact ⟨True.intro, True.intro, True.intro⟩ | (repeat' (first | exact True.intro | exact hg | refine ⟨?_, ?_⟩))) | exact PRun.callW (name_spec _) rfl rfl (by first | exact True.intro | exact hg) rfl (by first | exact True.intro | exact ⟨True.intro, True.intro⟩ | exact ⟨True.intro, True.intro, True.intro⟩ | (repeat' (first | exact True.intro | exact hg | refine ⟨?_, ?_⟩))) | exact PRun.callW (letter_spec e.letters _ (by omega)) rfl rfl (by first | exact True.intro | exact hg) rfl (by first | exact True.intro | exact ⟨True.intro, True.intro⟩ | exact ⟨True.intro, True.intro, True.intro⟩ | (repeat' (first | exact True.intro | exact hg | refine ⟨?_, ?_⟩))) | exact PRun.indexMW tabOk rfl rfl (by first | exact True.intro | exact hg) rfl (by first | exact True.intro | exact hg) rfl rfl (by omega) | exact PRun.lenM tabOk rfl rfl (by first | exact True.intro | exact hg) rfl | exact PRun.lenW tabOk rfl rfl (by first | exact True.intro | exact hg) rfl | exact PRun.binW rfl rfl (by first | exact True.intro | exact hg) rfl (by first | exact True.intro | exact hg) rfl | exact PRun.negWr rfl rfl (by first | exact True.intro | exact hg)) (by exact rfl) ?_)
  · have hb : letOk e k = false := by
      rw [Int.toNat_natCast] at hc
      unfold letOk; revert hc
      cases nameB (e.letters.getD k default).name <;> cases inB (e.letters.getD k default).pos 0 (↑e.bars.length - 1) <;> simp
    refine ⟨.inr rfl, ?_⟩
    rw [show formB e = false by simp only [formB, allR_no (show k < e.letters.length by omega) hb, Bool.and_false]]
    exact fun _ _ h => h
  · have hb : letOk e k = true := by
      rw [Int.toNat_natCast] at hc
      unfold letOk; revert hc
      cases nameB (e.letters.getD k default).name <;> cases inB (e.letters.getD k default).pos 0 (↑e.bars.length - 1) <;> simp
    exact ⟨k + 1, ⟨by omega, fun j hj => lt_succ_cases hall hb hj⟩, by omega, ⟨rfl, rfl, True.intro⟩, rfl⟩
  · have hlet : (List.range e.letters.length).all (letOk e) = true := allR_yes fun j hj => hall j (by omega)
    refine ⟨.inr rfl, ?_⟩
    rw [show formB e = true by simp only [formB, hh, hbars, hlet, Bool.and_true]]
    exact fun _ _ h => h
end Go.Proofs.Ytjjlckhdgnoopaa
