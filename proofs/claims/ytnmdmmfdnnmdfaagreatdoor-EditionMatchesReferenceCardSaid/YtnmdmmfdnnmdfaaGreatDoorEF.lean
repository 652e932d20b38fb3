/- Contracts by content: the reference's Number, Visit, Place of editions. No statement is proved here. -/
import Derived.Test.YtnmdmmfdnnmdfaaGreatDoorEE
set_option linter.unusedVariables false
set_option linter.unusedSimpArgs false
namespace Go.Proofs.YtnmdmmfdnnmdfaaGreatDoor.Ed
open Go.Ab
attribute [local irreducible] AWP AOps EStep AQ PStep PRun PCall TCall VCall

theorem visit11_spec (e : Edition) (hw : Wf e) (i pass : Int) : PCall Tryz.prog 22 [.agg (encE e), .int i, .int pass] (encVi (viR e i pass)) := by
  refine PCall.bodyS tabOk Tryz.func22 rfl rfl Tryz.ntmps22 rfl ?_
  have hb := hw.bars
  repeat' (first | refine AOps.q rfl rfl rfl (fun hg => by first | exact std0 | exact PRun.callW (in_spec _ _ _) rfl rfl nd rfl nds | exact PRun.callW (form_spec e) rfl rfl nd rfl nds | exact PRun.buildW tabOk rfl rfl nds | exact std1) (by exact rfl) ?_ | refine AWP.seq ?_ | refine AWP.regionK (fun K' hK => ?_) | (refine AOps.nil (hK _ _ ?_); clear hK K') | refine AOps.e (EStep.boxW rfl rfl rfl rfl rfl True.intro rfl rfl ?_) | refine AOps.e (EStep.storeW tabOk rfl rfl rfl True.intro rfl rfl True.intro rfl rfl rfl rfl rfl rfl rfl ?_) | refine AOps.e (EStep.allocW tabOk rfl rfl rfl rfl rfl rfl ?_) | (refine AWP.condW rfl True.intro (fun hc => ?_) (fun hc => ?_) <;> (first | (simp only [decide_eq_true_eq] at hc) | (simp only [decide_eq_false_iff_not, Int.not_lt, Int.not_le] at hc) | skip)) | refine AWP.block ?_ | refine AWP.exit ?_ | refine AWP.skip ?_ | refine AWP.ret ?_ | refine AWP.drawK2 (by decide +kernel) (by kernel_rfl) (by decide +kernel) rfl (fun K' hK => ?_) | refine AWP.drawL2 (by kernel_rfl) (by decide +kernel) rfl (fun K' hK => ?_) | (refine AQ.nil (hK _ ?_); clear hK K') | refine AQ.nil ?_ | refine AQ.q rfl rfl (fun hg => by first | exact std0 | exact PRun.callW (in_spec _ _ _) rfl rfl nd rfl nds | exact PRun.callW (form_spec e) rfl rfl nd rfl nds | exact PRun.buildW tabOk rfl rfl nds | exact std1) (by exact rfl) ?_)
  · refine ⟨.inr rfl, _, rfl, ?_⟩
    rw [show viR e i pass = ⟨0, 0, 1⟩ from by unfold viR; rw [if_neg]; revert hc; cases formB e <;> cases inB i 0 ((e.bars.length : Int) - 1) <;> cases inB pass 0 20000 <;> simp]
    exact fun _ _ h => h
  have hok := ok3 hc
  have hi : 0 ≤ i ∧ i < e.bars.length := by
    simp only [Bool.and_eq_true] at hok
    have := hok.1.2
    simp [inB] at this; omega
  clear hc
  repeat' (first | refine AOps.q rfl rfl rfl (fun hg => by first | exact std0 | exact PRun.buildW tabOk rfl rfl nds | exact std1) (by exact rfl) ?_ | refine AWP.seq ?_ | refine AWP.regionK (fun K' hK => ?_) | (refine AOps.nil (hK _ _ ?_); clear hK K') | refine AOps.e (EStep.boxW rfl rfl rfl rfl rfl True.intro rfl rfl ?_) | refine AOps.e (EStep.storeW tabOk rfl rfl rfl True.intro rfl rfl True.intro rfl rfl rfl rfl rfl rfl rfl ?_) | refine AOps.e (EStep.allocW tabOk rfl rfl rfl rfl rfl rfl ?_) | (refine AWP.condW rfl True.intro (fun hc => ?_) (fun hc => ?_) <;> (first | (simp only [decide_eq_true_eq] at hc) | (simp only [decide_eq_false_iff_not, Int.not_lt, Int.not_le] at hc) | skip)) | refine AWP.block ?_ | refine AWP.exit ?_ | refine AWP.skip ?_ | refine AWP.ret ?_ | refine AWP.drawK2 (by decide +kernel) (by kernel_rfl) (by decide +kernel) rfl (fun K' hK => ?_) | refine AWP.drawL2 (by kernel_rfl) (by decide +kernel) rfl (fun K' hK => ?_) | (refine AQ.nil (hK _ ?_); clear hK K') | refine AQ.nil ?_ | refine AQ.q rfl rfl (fun hg => by first | exact std0 | exact PRun.buildW tabOk rfl rfl nds | exact std1) (by exact rfl) ?_)
  all_goals (refine ⟨.inr rfl, _, rfl, ?_⟩)
  · rw [show viR e i pass = ⟨(e.bars.getD i.toNat default).bar, max 1 pass, 0⟩ from by unfold viR; rw [if_pos hok, if_pos (by simpa using hc)]]
    rw [Int.max_comm]
    exact fun _ _ h => h
  · rename_i hc0
    rw [show viR e i pass = ⟨0, 0, 30⟩ from by unfold viR; rw [if_pos hok, if_neg (by simpa using hc0), if_pos hc]]
    exact fun _ _ h => h
  · rename_i hc0
    rw [show viR e i pass = ⟨(e.bars.getD i.toNat default).bar, (e.bars.getD i.toNat default).pass, 0⟩ from by unfold viR; rw [if_pos hok, if_neg (by simpa using hc0), if_neg (by omega)]]
    exact fun _ _ h => h
theorem findI_drop {p : Printed → Bool} {l : List Printed} {i k : Nat} (h1 : i < k) (hk : k < l.length) (hp : p (l.getD k default) = true) : findI p (l.drop (i + 1)) ≥ 0 := by
  rcases Int.lt_or_le (findI p (l.drop (i + 1))) 0 with h | h
  · exfalso
    have h2 := findI_any p (l.drop (i + 1))
    rw [decide_eq_false (by omega)] at h2
    have h3 := List.all_eq_true.1 h2.symm (l.getD k default) (by
      rw [getD_lt hk, List.mem_iff_getElem]
      exact ⟨k - (i + 1), by simp; omega, by rw [List.getElem_drop]; congr 1; omega⟩)
    rw [hp] at h3; cases h3
  · exact h
theorem findI_drop_no {p : Printed → Bool} {l : List Printed} {i : Nat} (h : ∀ j, j < l.length → i < j → p (l.getD j default) = false) : findI p (l.drop (i + 1)) < 0 := by
  have h1 : findI p (l.drop (i + 1)) = -1 := findI_no fun j hj => by
    have hj' : i + 1 + j < l.length := by simp at hj; omega
    have := h (i + 1 + j) hj' (by omega)
    rw [getD_lt hj'] at this
    rw [getD_lt hj, List.getElem_drop]; exact this
  omega
/-- The match so far: none, or the only one. -/
def OneAt (p : Printed → Bool) (l : List Printed) (k : Nat) (a : Int) : Prop := (a = -1 ∧ ∀ j, j < k → p (l.getD j default) = false) ∨ (∃ i : Nat, a = i ∧ i < k ∧ p (l.getD i default) = true ∧ ∀ j, j < k → j ≠ i → p (l.getD j default) = false)
set_option maxHeartbeats 1600000 in
theorem number11_spec (e : Edition) (hw : Wf e) (n : Int) : PCall Tryz.prog 20 [.agg (encE e), .int n] (.tup [.int (numR e n).1, .int (numR e n).2]) := by
  have hb := hw.bars
  refine PCall.body Tryz.func20 rfl rfl Tryz.ntmps20 rfl rfl ?_
  repeat' (first | refine AOps.q rfl rfl rfl (fun hg => by first | exact std0 | exact PRun.callW (in_spec _ _ _) rfl rfl nd rfl nds | exact PRun.callW (form_spec e) rfl rfl nd rfl nds | exact std1) (by exact rfl) ?_ | refine AWP.seq ?_ | refine AWP.regionK (fun K' hK => ?_) | (refine AOps.nil (hK _ _ ?_); clear hK K') | refine AOps.e (EStep.boxW rfl rfl rfl rfl rfl True.intro rfl rfl ?_) | refine AOps.e (EStep.storeW tabOk rfl rfl rfl True.intro rfl rfl True.intro rfl rfl rfl rfl rfl rfl rfl ?_) | refine AOps.e (EStep.allocW tabOk rfl rfl rfl rfl rfl rfl ?_) | (refine AWP.condW rfl True.intro (fun hc => ?_) (fun hc => ?_) <;> (first | (simp only [decide_eq_true_eq] at hc) | (simp only [decide_eq_false_iff_not, Int.not_lt, Int.not_le] at hc) | skip)) | refine AWP.block ?_ | refine AWP.exit ?_ | refine AWP.skip ?_ | refine AWP.ret ?_ | refine AWP.drawK2 (by decide +kernel) (by kernel_rfl) (by decide +kernel) rfl (fun K' hK => ?_) | refine AWP.drawL2 (by kernel_rfl) (by decide +kernel) rfl (fun K' hK => ?_) | (refine AQ.nil (hK _ ?_); clear hK K') | refine AQ.nil ?_ | refine AQ.q rfl rfl (fun hg => by first | exact std0 | exact PRun.callW (in_spec _ _ _) rfl rfl nd rfl nds | exact PRun.callW (form_spec e) rfl rfl nd rfl nds | exact std1) (by exact rfl) ?_)
  · refine ⟨.inr rfl, ?_⟩
    rw [show numR e n = (0, 1) from by unfold numR; rw [if_neg]; revert hc; cases formB e <;> cases inB n 0 100000 <;> simp]
    exact fun _ _ h => h
  have hok := ok2 hc
  clear hc
  refine AWP.loopW (ι := Nat × Int) (fun i => [(1, .int n), (2, .ptr 0 0), (7, .int i.2), (8, .int i.1)]) (fun _ => [.var (encE e)]) (fun i => i.1 ≤ e.bars.length ∧ OneAt (numP n) e.bars i.1 i.2) (fun i => e.bars.length - i.1) (0, -1) ⟨Nat.zero_le _, .inl ⟨rfl, fun j h => absurd h (by omega)⟩⟩ ⟨rfl, rfl, rfl, rfl, True.intro⟩ rfl ?_
  rintro ⟨k, a⟩ ⟨hk, hone⟩
  dsimp only at hk hone ⊢
  by_cases hlt : k < e.bars.length
  · repeat' (first | refine AOps.q rfl rfl rfl (fun hg => by first | exact std0 | exact std1) (by exact rfl) ?_ | refine AWP.seq ?_ | refine AWP.regionK (fun K' hK => ?_) | (refine AOps.nil (hK _ _ ?_); clear hK K') | refine AOps.e (EStep.boxW rfl rfl rfl rfl rfl True.intro rfl rfl ?_) | refine AOps.e (EStep.storeW tabOk rfl rfl rfl True.intro rfl rfl True.intro rfl rfl rfl rfl rfl rfl rfl ?_) | refine AOps.e (EStep.allocW tabOk rfl rfl rfl rfl rfl rfl ?_) | (refine AWP.condW rfl True.intro (fun hc => ?_) (fun hc => ?_) <;> (first | (simp only [decide_eq_true_eq] at hc) | (simp only [decide_eq_false_iff_not, Int.not_lt, Int.not_le] at hc) | skip)) | refine AWP.block ?_ | refine AWP.exit ?_ | refine AWP.skip ?_ | refine AWP.ret ?_ | refine AWP.drawK2 (by decide +kernel) (by kernel_rfl) (by decide +kernel) rfl (fun K' hK => ?_) | refine AWP.drawL2 (by kernel_rfl) (by decide +kernel) rfl (fun K' hK => ?_) | (refine AQ.nil (hK _ ?_); clear hK K') | refine AQ.nil ?_ | refine AQ.q rfl rfl (fun hg => by first | exact std0 | exact std1) (by exact rfl) ?_)
    all_goals (first | (exfalso; omega) | skip)
    · have hp : numP n (e.bars.getD k default) = false := by
        unfold numP
        have h9 : ((e.bars.getD k default).number != n) = true := hc
        simpa using h9
      refine ⟨(k + 1, a), ⟨by dsimp only; omega, ?_⟩, by dsimp only; omega, ⟨rfl, rfl, rfl, rfl, True.intro⟩, rfl⟩
      dsimp only
      rcases hone with ⟨h1, h2⟩ | ⟨i, h1, h2, h3, h4⟩
      · exact .inl ⟨h1, fun j hj => by
          rcases Nat.lt_succ_iff_lt_or_eq.1 hj with h | rfl
          · exact h2 j h
          · exact hp⟩
      · exact .inr ⟨i, h1, by omega, h3, fun j hj hne => by
          rcases Nat.lt_succ_iff_lt_or_eq.1 hj with h | rfl
          · exact h4 j h hne
          · exact hp⟩
    · rename_i hc1
      have hp : numP n (e.bars.getD k default) = true := by
        unfold numP
        have h9 : ((e.bars.getD k default).number != n) = false := hc1
        simpa using h9
      rcases hone with ⟨h1, h2⟩ | ⟨i, h1, h2, h3, h4⟩
      · exfalso; omega
      · have e1 : numI e n = (i : Int) := findI_at (by omega) h3 fun j hj => h4 j (by omega) (by omega)
        refine ⟨.inr rfl, ?_⟩
        rw [show numR e n = (0, 5) from by
          unfold numR
          rw [if_pos hok, if_neg (by omega), e1, show ((i : Int) + 1).toNat = i + 1 by omega, if_pos (findI_drop h2 hlt hp)]]
        exact fun _ _ h => h
    · rename_i hc1
      have hp : numP n (e.bars.getD k default) = true := by
        unfold numP
        have h9 : ((e.bars.getD k default).number != n) = false := hc1
        simpa using h9
      rcases hone with ⟨h1, h2⟩ | ⟨i, h1, h2, h3, h4⟩
      · refine ⟨(k + 1, (k : Int)), ⟨by dsimp only; omega, .inr ⟨k, rfl, by dsimp only; omega, hp, fun j hj hne => h2 j (by dsimp only at hj; omega)⟩⟩, by dsimp only; omega, ⟨rfl, rfl, rfl, rfl, True.intro⟩, rfl⟩
      · exfalso; omega
  · repeat' (first | refine AOps.q rfl rfl rfl (fun hg => by first | exact std0 | exact std1) (by exact rfl) ?_ | refine AWP.seq ?_ | refine AWP.regionK (fun K' hK => ?_) | (refine AOps.nil (hK _ _ ?_); clear hK K') | refine AOps.e (EStep.boxW rfl rfl rfl rfl rfl True.intro rfl rfl ?_) | refine AOps.e (EStep.storeW tabOk rfl rfl rfl True.intro rfl rfl True.intro rfl rfl rfl rfl rfl rfl rfl ?_) | refine AOps.e (EStep.allocW tabOk rfl rfl rfl rfl rfl rfl ?_) | (refine AWP.condW rfl True.intro (fun hc => ?_) (fun hc => ?_) <;> (first | (simp only [decide_eq_true_eq] at hc) | (simp only [decide_eq_false_iff_not, Int.not_lt, Int.not_le] at hc) | skip)) | refine AWP.block ?_ | refine AWP.exit ?_ | refine AWP.skip ?_ | refine AWP.ret ?_ | refine AWP.drawK2 (by decide +kernel) (by kernel_rfl) (by decide +kernel) rfl (fun K' hK => ?_) | refine AWP.drawL2 (by kernel_rfl) (by decide +kernel) rfl (fun K' hK => ?_) | (refine AQ.nil (hK _ ?_); clear hK K') | refine AQ.nil ?_ | refine AQ.q rfl rfl (fun hg => by first | exact std0 | exact std1) (by exact rfl) ?_)
    all_goals (first | (exfalso; omega) | skip)
    · rcases hone with ⟨h1, h2⟩ | ⟨i, h1, h2, h3, h4⟩
      · have e1 : numI e n = -1 := findI_no fun j hj => h2 j (by omega)
        refine ⟨.inr rfl, ?_⟩
        rw [show numR e n = (0, 4) from by unfold numR; rw [if_pos hok, if_pos (by omega)]]
        exact fun _ _ h => h
      · exfalso; omega
    · rcases hone with ⟨h1, h2⟩ | ⟨i, h1, h2, h3, h4⟩
      · exfalso; omega
      · have e1 : numI e n = (i : Int) := findI_at (by omega) h3 fun j hj => h4 j (by omega) (by omega)
        have e2 := findI_drop_no (p := numP n) (l := e.bars) (i := i) fun j hj hij => h4 j (by omega) (by omega)
        subst h1
        refine ⟨.inr rfl, ?_⟩
        rw [show numR e n = ((i : Int), 0) from by
          unfold numR
          rw [if_pos hok, if_neg (by omega), e1, show ((i : Int) + 1).toNat = i + 1 by omega, if_neg (by omega)]]
        exact fun _ _ h => h
set_option maxHeartbeats 1600000 in
theorem place11_spec (e : Edition) (hw : Wf e) (vb vp : Int) : PCall Tryz.prog 24 [.agg (encE e), .agg [.int vb, .int vp]] (encPl (plR e vb vp)) := by
  have hb := hw.bars
  refine PCall.body Tryz.func24 rfl rfl Tryz.ntmps24 rfl rfl ?_
  repeat' (first | refine AOps.q rfl rfl rfl (fun hg => by first | exact std0 | exact PRun.callW (in_spec _ _ _) rfl rfl nd rfl nds | exact PRun.callW (form_spec e) rfl rfl nd rfl nds | exact std1) (by exact rfl) ?_ | refine AWP.seq ?_ | refine AWP.regionK (fun K' hK => ?_) | (refine AOps.nil (hK _ _ ?_); clear hK K') | refine AOps.e (EStep.boxW rfl rfl rfl rfl rfl True.intro rfl rfl ?_) | refine AOps.e (EStep.storeW tabOk rfl rfl rfl True.intro rfl rfl True.intro rfl rfl rfl rfl rfl rfl rfl ?_) | refine AOps.e (EStep.allocW tabOk rfl rfl rfl rfl rfl rfl ?_) | (refine AWP.condW rfl True.intro (fun hc => ?_) (fun hc => ?_) <;> (first | (simp only [decide_eq_true_eq] at hc) | (simp only [decide_eq_false_iff_not, Int.not_lt, Int.not_le] at hc) | skip)) | refine AWP.block ?_ | refine AWP.exit ?_ | refine AWP.skip ?_ | refine AWP.ret ?_ | refine AWP.drawK2 (by decide +kernel) (by kernel_rfl) (by decide +kernel) rfl (fun K' hK => ?_) | refine AWP.drawL2 (by kernel_rfl) (by decide +kernel) rfl (fun K' hK => ?_) | (refine AQ.nil (hK _ ?_); clear hK K') | refine AQ.nil ?_ | refine AQ.q rfl rfl (fun hg => by first | exact std0 | exact PRun.callW (in_spec _ _ _) rfl rfl nd rfl nds | exact PRun.callW (form_spec e) rfl rfl nd rfl nds | exact std1) (by exact rfl) ?_)
  · refine ⟨.inr rfl, ?_⟩
    rw [show plR e vb vp = ⟨0, 0, false, 1⟩ from by unfold plR; rw [if_neg]; revert hc; cases formB e <;> cases inB vb 1 1000000 <;> cases inB vp 1 20000 <;> simp]
    exact fun _ _ h => h
  have hok := ok3 hc
  have hvp : 1 ≤ vp := by
    simp only [Bool.and_eq_true] at hok
    have := hok.2
    simp [inB] at this; omega
  clear hc
  refine AWP.loopD (ι := Nat) (fun k => [(2, .ptr 0 0), (3, .ptr 1 0), (9, .int k)]) (fun _ => [.var (encE e), .var [.int vb, .int vp]]) (fun k => k ≤ e.bars.length ∧ ∀ j, j < k → plP vb vp (e.bars.getD j default) = false) (fun k => e.bars.length - k) 2 (fun _ => rfl) 0 ⟨Nat.zero_le _, fun j h => absurd h (by omega)⟩ ⟨rfl, rfl, rfl, True.intro⟩ rfl (fun _ _ => rfl) (fun _ _ => rfl) ?_
  rintro k ⟨hk, hall⟩
  by_cases hlt : k < e.bars.length
  · obtain ⟨b, hb1⟩ : ∃ b, e.bars.getD k default = b := ⟨_, rfl⟩
    have hpb : plP vb vp b = !((b.bar != vb) || (b.pass != 0 && b.pass != vp)) := by
      unfold plP bne
      cases b.bar == vb <;> cases b.pass == 0 <;> cases b.pass == vp <;> rfl
    repeat' (first | refine AOps.q rfl rfl rfl (fun hg => by first | exact std0 | exact std1) (by exact rfl) ?_ | refine AWP.seq ?_ | refine AWP.regionK (fun K' hK => ?_) | (refine AOps.nil (hK _ _ ?_); clear hK K') | refine AOps.e (EStep.boxW rfl rfl rfl rfl rfl True.intro rfl rfl ?_) | refine AOps.e (EStep.storeW tabOk rfl rfl rfl True.intro rfl rfl True.intro rfl rfl rfl rfl rfl rfl rfl ?_) | refine AOps.e (EStep.allocW tabOk rfl rfl rfl rfl rfl rfl ?_) | (refine AWP.condW rfl True.intro (fun hc => ?_) (fun hc => ?_) <;> (first | (simp only [decide_eq_true_eq] at hc) | (simp only [decide_eq_false_iff_not, Int.not_lt, Int.not_le] at hc) | skip)) | refine AWP.block ?_ | refine AWP.exit ?_ | refine AWP.skip ?_ | refine AWP.ret ?_ | refine AWP.drawK2 (by decide +kernel) (by kernel_rfl) (by decide +kernel) rfl (fun K' hK => ?_) | refine AWP.drawL2 (by kernel_rfl) (by decide +kernel) rfl (fun K' hK => ?_) | (refine AQ.nil (hK _ ?_); clear hK K') | refine AQ.nil ?_ | refine AQ.q rfl rfl (fun hg => by first | exact std0 | exact std1) (by exact rfl) ?_)
    all_goals (first | (exfalso; omega) | skip)
    · have h9 : ((e.bars.getD k default).bar != vb || ((e.bars.getD k default).pass != 0 && (e.bars.getD k default).pass != vp)) = true := hc
      rw [hb1] at h9
      rw [h9] at hpb
      refine ⟨k + 1, ⟨by omega, fun j hj => ?_⟩, by omega, ⟨rfl, rfl, rfl, True.intro⟩, rfl⟩
      rcases Nat.lt_succ_iff_lt_or_eq.1 hj with h | rfl
      · exact hall j h
      · rw [hb1]; exact hpb
    · rename_i hc1
      have h9 : ((e.bars.getD k default).bar != vb || ((e.bars.getD k default).pass != 0 && (e.bars.getD k default).pass != vp)) = false := hc1
      have h8 : ((e.bars.getD k default).pass != 0 || vp == 1) = true := hc
      rw [hb1] at h9 h8
      rw [h9] at hpb
      have e1 : plI e vb vp = (k : Int) := findI_at hlt (by rw [hb1]; exact hpb) fun j hj => hall j hj
      refine ⟨.inr rfl, ?_⟩
      rw [show plR e vb vp = ⟨(k : Int), 0, true, 0⟩ from by
        unfold plR
        rw [if_pos hok, if_neg (by omega), e1, Int.toNat_natCast, hb1, if_neg]
        intro h
        simp at h h8
        rcases h8 with h8 | h8
        · exact h8 h.1
        · omega]
      exact fun _ _ h => h
    · rename_i hc1
      have h9 : ((e.bars.getD k default).bar != vb || ((e.bars.getD k default).pass != 0 && (e.bars.getD k default).pass != vp)) = false := hc1
      have h8 : ((e.bars.getD k default).pass != 0 || vp == 1) = false := hc
      rw [hb1] at h9 h8
      rw [h9] at hpb
      have e1 : plI e vb vp = (k : Int) := findI_at hlt (by rw [hb1]; exact hpb) fun j hj => hall j hj
      refine ⟨.inr rfl, ?_⟩
      rw [show plR e vb vp = ⟨(k : Int), vp, true, 0⟩ from by
        unfold plR
        rw [if_pos hok, if_neg (by omega), e1, Int.toNat_natCast, hb1, if_pos]
        simp at h8 ⊢
        exact ⟨h8.1, by omega⟩]
      exact fun _ _ h => h
  · repeat' (first | refine AOps.q rfl rfl rfl (fun hg => by first | exact std0 | exact std1) (by exact rfl) ?_ | refine AWP.seq ?_ | refine AWP.regionK (fun K' hK => ?_) | (refine AOps.nil (hK _ _ ?_); clear hK K') | refine AOps.e (EStep.boxW rfl rfl rfl rfl rfl True.intro rfl rfl ?_) | refine AOps.e (EStep.storeW tabOk rfl rfl rfl True.intro rfl rfl True.intro rfl rfl rfl rfl rfl rfl rfl ?_) | refine AOps.e (EStep.allocW tabOk rfl rfl rfl rfl rfl rfl ?_) | (refine AWP.condW rfl True.intro (fun hc => ?_) (fun hc => ?_) <;> (first | (simp only [decide_eq_true_eq] at hc) | (simp only [decide_eq_false_iff_not, Int.not_lt, Int.not_le] at hc) | skip)) | refine AWP.block ?_ | refine AWP.exit ?_ | refine AWP.skip ?_ | refine AWP.ret ?_ | refine AWP.drawK2 (by decide +kernel) (by kernel_rfl) (by decide +kernel) rfl (fun K' hK => ?_) | refine AWP.drawL2 (by kernel_rfl) (by decide +kernel) rfl (fun K' hK => ?_) | (refine AQ.nil (hK _ ?_); clear hK K') | refine AQ.nil ?_ | refine AQ.q rfl rfl (fun hg => by first | exact std0 | exact std1) (by exact rfl) ?_)
    all_goals (first | (exfalso; omega) | skip)
    have e1 : plI e vb vp = -1 := findI_no fun j hj => hall j (by omega)
    refine ⟨.inr rfl, ?_⟩
    rw [show plR e vb vp = ⟨0, 0, false, 0⟩ from by unfold plR; rw [if_pos hok, if_pos (by omega)]]
    exact fun _ _ h => h
end Go.Proofs.YtnmdmmfdnnmdfaaGreatDoor.Ed
