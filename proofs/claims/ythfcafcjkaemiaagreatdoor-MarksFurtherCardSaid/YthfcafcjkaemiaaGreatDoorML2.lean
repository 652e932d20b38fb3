/- Contracts by content: the head of the laws of marks. No statement is proved here. -/
import Derived.Test.YthfcafcjkaemiaaGreatDoorMI
import Derived.Test.YthfcafcjkaemiaaGreatDoorFV
set_option linter.unusedVariables false
set_option linter.unusedSimpArgs false
namespace Go.Proofs.YthfcafcjkaemiaaGreatDoor.Mk
open Go.Ab Go.Jo
attribute [local irreducible] AWP AOps EStep AQ PStep PRun PCall TCall VCall DStep TDies AWD DCall

def lawM (a b c : Int) (r : Rdr) : Jo.Mark := ⟨a, b, c, r, 1, 7, 1, []⟩
theorem mark_spec (a b c : Int) (r : Rdr) : PCall Tryz.prog 82 [.int a, .int b, .int c, .agg (encRd r)] (.agg (encMk (lawM a b c r))) := by
  refine PCall.bodyS tabOk Tryz.func82 rfl rfl Tryz.ntmps82 rfl ?_
  repeat' (first | refine AOps.q rfl rfl rfl (fun hg => by first | exact std0 | exact PRun.buildW tabOk rfl rfl nds | exact std1) (by exact rfl) ?_ | refine AWP.seq ?_ | refine AWP.regionK (fun K' hK => ?_) | (refine AOps.nil (hK _ _ ?_); clear hK K') | refine AOps.e (EStep.boxW rfl rfl rfl rfl rfl True.intro rfl rfl ?_) | refine AOps.e (EStep.storeW tabOk rfl rfl rfl True.intro rfl rfl True.intro rfl rfl rfl rfl rfl rfl rfl ?_) | refine AOps.e (EStep.allocW tabOk rfl rfl rfl rfl rfl rfl ?_) | (refine AWP.condW rfl True.intro (fun hc => ?_) (fun hc => ?_) <;> (first | (simp only [decide_eq_true_eq] at hc) | (simp only [decide_eq_false_iff_not, Int.not_lt, Int.not_le] at hc) | skip)) | refine AWP.block ?_ | refine AWP.exit ?_ | refine AWP.skip ?_ | refine AWP.ret ?_ | refine AWP.drawK2 (by decide +kernel) (by kernel_rfl) (by decide +kernel) rfl (fun K' hK => ?_) | refine AWP.drawL2 (by kernel_rfl) (by decide +kernel) rfl (fun K' hK => ?_) | (refine AQ.nil (hK _ ?_); clear hK K') | refine AQ.nil ?_ | refine AQ.q rfl rfl (fun hg => by first | exact std0 | exact PRun.buildW tabOk rfl rfl nds | exact std1) (by exact rfl) ?_)
  exact ⟨.inr rfl, _, rfl, Ent.of rfl⟩
def exP : Part := ⟨3, 2, 0, 0, 2, ⟨0, 0⟩, ⟨0, 0, 0⟩, ⟨0, 0, 8⟩⟩
def exN : Note := ⟨7, 3, 1, 0, 0, ⟨0, 1⟩, ⟨4, 1⟩, ⟨0, 0, 4⟩⟩
def exM : Score := ⟨1, [⟨1, ⟨4, 1⟩, 0⟩], [exP], [exN]⟩
def r1 : Rdr := ⟨3, 1, 1⟩
def r2 : Rdr := ⟨3, 1, 2⟩
set_option maxHeartbeats 4000000 in
theorem mexample_spec : PCall Tryz.prog 81 [] (.tup [.agg (encS exM), .agg (encRd r1), .agg (encRd r2)]) := by
  refine PCall.bodyS tabOk Tryz.func81 rfl rfl Tryz.ntmps81 rfl ?_
  repeat' (first | refine AOps.q rfl rfl rfl (fun hg => by first | exact std0 | exact PRun.buildW tabOk rfl rfl nds | exact PRun.buildSlW tabOk rfl rfl nds | exact std1) (by exact rfl) ?_ | refine AWP.seq ?_ | refine AWP.regionK (fun K' hK => ?_) | (refine AOps.nil (hK _ _ ?_); clear hK K') | refine AOps.e (EStep.boxW rfl rfl rfl rfl rfl True.intro rfl rfl ?_) | refine AOps.e (EStep.storeW tabOk rfl rfl rfl True.intro rfl rfl True.intro rfl rfl rfl rfl rfl rfl rfl ?_) | refine AOps.e (EStep.allocW tabOk rfl rfl rfl rfl rfl rfl ?_) | (refine AWP.condW rfl True.intro (fun hc => ?_) (fun hc => ?_) <;> (first | (simp only [decide_eq_true_eq] at hc) | (simp only [decide_eq_false_iff_not, Int.not_lt, Int.not_le] at hc) | skip)) | refine AWP.block ?_ | refine AWP.exit ?_ | refine AWP.skip ?_ | refine AWP.ret ?_ | refine AWP.drawK2 (by decide +kernel) (by kernel_rfl) (by decide +kernel) rfl (fun K' hK => ?_) | refine AWP.drawL2 (by kernel_rfl) (by decide +kernel) rfl (fun K' hK => ?_) | (refine AQ.nil (hK _ ?_); clear hK K') | refine AQ.nil ?_ | refine AQ.q rfl rfl (fun hg => by first | exact std0 | exact PRun.buildW tabOk rfl rfl nds | exact PRun.buildSlW tabOk rfl rfl nds | exact std1) (by exact rfl) ?_)
  exact ⟨.inr rfl, _, rfl, Ent.of rfl⟩
def mA : Jo.Mark := lawM 3 4 4 ⟨0, 0, 0⟩
def mB : Jo.Mark := lawM 9 4 3 ⟨2, 0, 0⟩
def mC : Jo.Mark := lawM 4 1 1 r1
theorem exm_ok : scoreOk exM = true := by rw [scoreOk_eq]; decide +kernel
theorem exm_1 : shownR exM [mB, mA, mC] r1 = ([mC, mA], 0) := by unfold shownR; rw [exm_ok]; decide +kernel
theorem exm_2 : shownR exM [mB, mA, mC] r2 = ([mA], 0) := by unfold shownR; rw [exm_ok]; decide +kernel
theorem exm_3 : shownR exM [] ⟨3, 3, 1⟩ = ([], 22) := by unfold shownR; rw [exm_ok]; decide +kernel
theorem exm_text (l : List Jo.Mark) (h : ∀ m ∈ l, m.text = []) : TextsIn l := fun m hm => by rw [h m hm]; decide
/-- Classes of effects: the variables that these slots point to, each one a chain. -/
def clsT (l : List Nat) (o : Oper) : Nat := match o.op, o.dst with
  | .alloc _, some d => ((l.idxOf? d).map (· + 1)).getD 0
  | .store _ (.tmp t) _, _ => ((l.idxOf? t).map (· + 1)).getD 0
  | _, _ => 0
def cellM (m : Jo.Mark) (k : Nat) : AObj := match k with
  | 0 => .arr 10 0 []
  | 1 => .arr 10 1 [encMk noMark]
  | _ => .arr 10 1 [encMk m]
abbrev cells3 (b : Store) (x y z : Jo.Mark) (i j k : Nat) : Store := b ++ [cellM x i, cellM y j, cellM z k]
set_option maxHeartbeats 8000000 in
set_option maxRecDepth 20000 in
theorem mhead_spec : PCall Tryz.prog 31 [] (.b true) := by
  have sm : exM.Small := ⟨by decide, by decide, by decide⟩
  have s1 := shown_spec exM sm (by decide) [mB, mA, mC] (by decide) (exm_text _ (by decide)) r1
  have s2 := shown_spec exM sm (by decide) [mB, mA, mC] (by decide) (exm_text _ (by decide)) r2
  have s3 := shown_spec exM sm (by decide) [] (by decide) (exm_text _ (by decide)) ⟨3, 3, 1⟩
  have b1 := before_spec mA mB (by decide) (by decide)
  have b2 := before_spec mB mA (by decide) (by decide)
  have m1 := meant_spec mC exP r1 (by decide)
  have m2 := meant_spec mC exP r2 (by decide)
  have m3 := meant_spec mC ⟨4, 0, 0, 0, 0, ⟨0, 0⟩, ⟨0, 0, 0⟩, ⟨0, 0, 0⟩⟩ r1 (by decide)
  have v1 := mvalid_spec mA (by decide)
  have v2 := mvalid_spec noMark (by decide)
  have e1 := same19_spec [mC, mA] [mC, mA] (by decide) (by decide)
  have e2 := same19_spec [mA] [mA] (by decide) (by decide)
  rw [exm_1] at s1
  rw [exm_2] at s2
  rw [exm_3] at s3
  rw [show beforeR mA mB = (true, 0) by decide +kernel] at b1
  rw [show beforeR mB mA = (false, 0) by decide +kernel] at b2
  rw [show meantR mC exP r1 = (true, 0) by decide +kernel] at m1
  rw [show meantR mC exP r2 = (false, 0) by decide +kernel] at m2
  rw [show meantR mC ⟨4, 0, 0, 0, 0, ⟨0, 0⟩, ⟨0, 0, 0⟩, ⟨0, 0, 0⟩⟩ r1 = (false, 22) by decide +kernel] at m3
  rw [show markOk mA = true by decide +kernel] at v1
  rw [show markOk noMark = false by decide +kernel] at v2
  rw [beq_self_eq_true] at e1 e2
  have s3n := PCall.argE2 Ent.nil s3
  have k1 := mark_spec 3 4 4 ⟨0, 0, 0⟩
  have k2 := mark_spec 9 4 3 ⟨2, 0, 0⟩
  have k3 := mark_spec 4 1 1 r1
  refine PCall.body Tryz.func31 rfl rfl Tryz.ntmps31 rfl rfl ?_
  repeat' (first | refine AOps.q rfl rfl rfl (fun hg => by first | exact std0 | exact PRun.callW (mexample_spec) rfl rfl nd rfl nds | exact std1) (by exact rfl) ?_ | refine AWP.seq ?_ | refine AWP.regionK (fun K' hK => ?_) | (refine AOps.nil (hK _ _ ?_); clear hK K') | refine AOps.e (EStep.boxW rfl rfl rfl rfl rfl True.intro rfl rfl ?_) | refine AOps.e (EStep.storeW tabOk rfl rfl rfl True.intro rfl rfl True.intro rfl rfl rfl rfl rfl rfl rfl ?_) | refine AOps.e (EStep.allocW tabOk rfl rfl rfl rfl rfl rfl ?_) | (refine AWP.condW rfl True.intro (fun hc => ?_) (fun hc => ?_) <;> (first | (simp only [decide_eq_true_eq] at hc) | (simp only [decide_eq_false_iff_not, Int.not_lt, Int.not_le] at hc) | skip)) | refine AWP.block ?_ | refine AWP.exit ?_ | refine AWP.skip ?_ | refine AWP.ret ?_ | refine AWP.drawK2 (by decide +kernel) (by kernel_rfl) (by decide +kernel) rfl (fun K' hK => ?_) | refine AWP.drawL2 (by kernel_rfl) (by decide +kernel) rfl (fun K' hK => ?_) | (refine AQ.nil (hK _ ?_); clear hK K') | refine AQ.nil ?_ | refine AQ.q rfl rfl (fun hg => by first | exact std0 | exact PRun.callW (mexample_spec) rfl rfl nd rfl nds | exact std1) (by exact rfl) ?_)
  refine AWP.newArr 10 ?_
  refine AWP.newArr 10 ?_
  refine AWP.newArr 10 ?_
  refine AWP.drawV 3 (clsT [4, 5, 6]) (fun J => cells3 [.var (encS exM), .var (encRd r1), .var (encRd r2)] mA mB mC (J 1) (J 2) (J 3)) rfl (by kernel_rfl) (by decide +kernel) rfl (by decide +kernel) (fun K' hK => ?_)
  repeat' (first
    | refine VQ.q rfl (by decide +kernel) rfl rfl (fun J' hg => by first | exact std0 | exact PRun.callW (k1) rfl rfl nd rfl nds | exact PRun.callW (k2) rfl rfl nd rfl nds | exact PRun.callW (k3) rfl rfl nd rfl nds | exact PRun.buildW tabOk rfl rfl nds | exact std1) (by exact rfl) ?_)
  refine VQ.e 1 0 (v := .eptr 3 10 0 0 1) (d := some 4) rfl (by decide +kernel) rfl ?_ ?_
  · intro env' he J' hJ
    show EStep _ _ _ _ (fun e s => _ ∧ s = cells3 _ mA mB mC (J' 1 + 1) (J' 2) (J' 3)) env' (cells3 _ mA mB mC (J' 1) (J' 2) (J' 3))
    rw [hJ]
    exact EStep.allocArr (l := 3) (sz := 10) tabOk rfl rfl rfl rfl rfl rfl rfl rfl ⟨rfl, rfl⟩
  refine VQ.e 2 0 (v := .eptr 4 10 0 0 1) (d := some 5) rfl (by decide +kernel) rfl ?_ ?_
  · intro env' he J' hJ
    show EStep _ _ _ _ (fun e s => _ ∧ s = cells3 _ mA mB mC (J' 1) (J' 2 + 1) (J' 3)) env' (cells3 _ mA mB mC (J' 1) (J' 2) (J' 3))
    rw [hJ]
    exact EStep.allocArr (l := 4) (sz := 10) tabOk rfl rfl rfl rfl rfl rfl rfl rfl ⟨rfl, rfl⟩
  refine VQ.e 3 0 (v := .eptr 5 10 0 0 1) (d := some 6) rfl (by decide +kernel) rfl ?_ ?_
  · intro env' he J' hJ
    show EStep _ _ _ _ (fun e s => _ ∧ s = cells3 _ mA mB mC (J' 1) (J' 2) (J' 3 + 1)) env' (cells3 _ mA mB mC (J' 1) (J' 2) (J' 3))
    rw [hJ]
    exact EStep.allocArr (l := 5) (sz := 10) tabOk rfl rfl rfl rfl rfl rfl rfl rfl ⟨rfl, rfl⟩
  refine VQ.e 1 1 (v := .any) (d := none) rfl (by decide +kernel) rfl ?_ ?_
  · intro env' he J' hJ
    show EStep _ _ _ _ (fun e s => _ ∧ s = cells3 _ mA mB mC (J' 1 + 1) (J' 2) (J' 3)) env' (cells3 _ mA mB mC (J' 1) (J' 2) (J' 3))
    rw [hJ]
    exact EStep.storeE (l := 3) tabOk rfl rfl ((rdv_congr (he 4 (by decide +kernel))).trans rfl) (by rw [rdn_congr (he 4 (by decide +kernel))]; first | exact True.intro | exact rfl) rfl (by decide) ((rdv_congr (he 30 (by decide +kernel))).trans rfl) (by rw [rdn_congr (he 30 (by decide +kernel))]; first | exact True.intro | exact rfl) rfl rfl rfl rfl rfl rfl ⟨rfl, rfl⟩
  refine VQ.e 2 1 (v := .any) (d := none) rfl (by decide +kernel) rfl ?_ ?_
  · intro env' he J' hJ
    show EStep _ _ _ _ (fun e s => _ ∧ s = cells3 _ mA mB mC (J' 1) (J' 2 + 1) (J' 3)) env' (cells3 _ mA mB mC (J' 1) (J' 2) (J' 3))
    rw [hJ]
    exact EStep.storeE (l := 4) tabOk rfl rfl ((rdv_congr (he 5 (by decide +kernel))).trans rfl) (by rw [rdn_congr (he 5 (by decide +kernel))]; first | exact True.intro | exact rfl) rfl (by decide) ((rdv_congr (he 32 (by decide +kernel))).trans rfl) (by rw [rdn_congr (he 32 (by decide +kernel))]; first | exact True.intro | exact rfl) rfl rfl rfl rfl rfl rfl ⟨rfl, rfl⟩
  refine VQ.e 3 1 (v := .any) (d := none) rfl (by decide +kernel) rfl ?_ ?_
  · intro env' he J' hJ
    show EStep _ _ _ _ (fun e s => _ ∧ s = cells3 _ mA mB mC (J' 1) (J' 2) (J' 3 + 1)) env' (cells3 _ mA mB mC (J' 1) (J' 2) (J' 3))
    rw [hJ]
    exact EStep.storeE (l := 5) tabOk rfl rfl ((rdv_congr (he 6 (by decide +kernel))).trans rfl) (by rw [rdn_congr (he 6 (by decide +kernel))]; first | exact True.intro | exact rfl) rfl (by decide) ((rdv_congr (he 34 (by decide +kernel))).trans rfl) (by rw [rdn_congr (he 34 (by decide +kernel))]; first | exact True.intro | exact rfl) rfl rfl rfl rfl rfl rfl ⟨rfl, rfl⟩
  refine VQ.nil (hK _ _ ?_)
  clear hK K'
  show AWP _ _ _ _ _ (cells3 [.var (encS exM), .var (encRd r1), .var (encRd r2)] mA mB mC 2 2 2)
  refine AWP.keep [(1, .ptr 0 0), (2, .ptr 1 0), (3, .ptr 2 0), (4, .eptr 3 10 0 0 1), (5, .eptr 4 10 0 0 1), (6, .eptr 5 10 0 0 1)] ⟨rfl, rfl, rfl, rfl, rfl, rfl, True.intro⟩ ?_
  repeat' (first | refine AOps.q rfl rfl rfl (fun hg => by first | exact std0 | exact PRun.loadE tabOk rfl rfl nd rfl (by decide) rfl rfl rfl | exact PRun.indexMW tabOk rfl rfl nd rfl nd rfl rfl (by decide) | exact PRun.buildW tabOk rfl rfl nds | exact PRun.buildSlW tabOk rfl rfl nds | exact PRun.callW (s1) rfl rfl nd rfl nds | exact PRun.callW (s2) rfl rfl nd rfl nds | exact PRun.callW (s3n) rfl rfl nd rfl nds | exact PRun.callW (b1) rfl rfl nd rfl nds | exact PRun.callW (b2) rfl rfl nd rfl nds | exact PRun.callW (m1) rfl rfl nd rfl nds | exact PRun.callW (m2) rfl rfl nd rfl nds | exact PRun.callW (m3) rfl rfl nd rfl nds | exact PRun.callW (v1) rfl rfl nd rfl nds | exact PRun.callW (v2) rfl rfl nd rfl nds | exact PRun.callW (e1) rfl rfl nd rfl nds | exact PRun.callW (e2) rfl rfl nd rfl nds | exact std1) (by exact rfl) ?_ | refine AWP.seq ?_ | refine AWP.regionK (fun K' hK => ?_) | (refine AOps.nil (hK _ _ ?_); clear hK K') | refine AOps.e (EStep.boxW rfl rfl rfl rfl rfl True.intro rfl rfl ?_) | refine AOps.e (EStep.storeW tabOk rfl rfl rfl True.intro rfl rfl True.intro rfl rfl rfl rfl rfl rfl rfl ?_) | refine AOps.e (EStep.allocW tabOk rfl rfl rfl rfl rfl rfl ?_) | (refine AWP.condW rfl True.intro (fun hc => ?_) (fun hc => ?_) <;> (first | (simp only [decide_eq_true_eq] at hc) | (simp only [decide_eq_false_iff_not, Int.not_lt, Int.not_le] at hc) | skip)) | refine AWP.block ?_ | refine AWP.exit ?_ | refine AWP.skip ?_ | refine AWP.ret ?_ | refine AWP.drawK2 (by decide +kernel) (by kernel_rfl) (by decide +kernel) rfl (fun K' hK => ?_) | refine AWP.drawL2 (by kernel_rfl) (by decide +kernel) rfl (fun K' hK => ?_) | (refine AQ.nil (hK _ ?_); clear hK K') | refine AQ.nil ?_ | refine AQ.q rfl rfl (fun hg => by first | exact std0 | exact PRun.loadE tabOk rfl rfl nd rfl (by decide) rfl rfl rfl | exact PRun.indexMW tabOk rfl rfl nd rfl nd rfl rfl (by decide) | exact PRun.buildW tabOk rfl rfl nds | exact PRun.buildSlW tabOk rfl rfl nds | exact PRun.callW (s1) rfl rfl nd rfl nds | exact PRun.callW (s2) rfl rfl nd rfl nds | exact PRun.callW (s3n) rfl rfl nd rfl nds | exact PRun.callW (b1) rfl rfl nd rfl nds | exact PRun.callW (b2) rfl rfl nd rfl nds | exact PRun.callW (m1) rfl rfl nd rfl nds | exact PRun.callW (m2) rfl rfl nd rfl nds | exact PRun.callW (m3) rfl rfl nd rfl nds | exact PRun.callW (v1) rfl rfl nd rfl nds | exact PRun.callW (v2) rfl rfl nd rfl nds | exact PRun.callW (e1) rfl rfl nd rfl nds | exact PRun.callW (e2) rfl rfl nd rfl nds | exact std1) (by exact rfl) ?_)
  exact ⟨.inr rfl, Ent.b (by decide)⟩
end Go.Proofs.YthfcafcjkaemiaaGreatDoor.Mk
