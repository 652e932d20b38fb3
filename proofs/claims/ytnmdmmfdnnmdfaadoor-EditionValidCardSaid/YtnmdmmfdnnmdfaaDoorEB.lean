/- Contracts by content: within, other, runes, isName, letters. No statement is proved here. -/
import Derived.Test.YtnmdmmfdnnmdfaaDoorEA
import Derived.Lib.SlicesS
set_option linter.unusedVariables false
set_option linter.unusedSimpArgs false
namespace Go.Proofs.YtnmdmmfdnnmdfaaDoor.Ed
open Go.Ab
attribute [local irreducible] AWP AOps EStep AQ PStep PRun PCall TCall VCall

theorem within_spec (a b c : Int) : PCall Tryd.prog 74 [.int a, .int b, .int c] (.b (inB a b c)) := by
  refine PCall.body Tryd.func74 rfl rfl Tryd.ntmps74 rfl rfl ?_
  repeat' (first | refine AOps.q rfl rfl rfl (fun hg => by first | exact std0 | exact std1) (by exact rfl) ?_ | refine AWP.seq ?_ | refine AWP.regionK (fun K' hK => ?_) | (refine AOps.nil (hK _ _ ?_); clear hK K') | refine AOps.e (EStep.boxW rfl rfl rfl rfl rfl True.intro rfl rfl ?_) | refine AOps.e (EStep.storeW tabOk rfl rfl rfl True.intro rfl rfl True.intro rfl rfl rfl rfl rfl rfl rfl ?_) | refine AOps.e (EStep.allocW tabOk rfl rfl rfl rfl rfl rfl ?_) | (refine AWP.condW rfl True.intro (fun hc => ?_) (fun hc => ?_) <;> (first | (simp only [decide_eq_true_eq] at hc) | (simp only [decide_eq_false_iff_not, Int.not_lt, Int.not_le] at hc) | skip)) | refine AWP.block ?_ | refine AWP.exit ?_ | refine AWP.skip ?_ | refine AWP.ret ?_ | refine AWP.drawK2 (by decide +kernel) (by kernel_rfl) (by decide +kernel) rfl (fun K' hK => ?_) | refine AWP.drawL2 (by kernel_rfl) (by decide +kernel) rfl (fun K' hK => ?_) | (refine AQ.nil (hK _ ?_); clear hK K') | refine AQ.nil ?_ | refine AQ.q rfl rfl (fun hg => by first | exact std0 | exact std1) (by exact rfl) ?_)
  exact ⟨.inr rfl, fun _ _ h => h⟩

/-- The runes that no name has. -/
def otherB (c : Int) : Bool := (decide (c < 65) || decide (c > 90)) && (decide (c < 48) || decide (c > 57))
theorem other_spec (c : Int) : PCall Tryd.prog 108 [.prim (.int .i32 c)] (.b (otherB c)) := by
  refine PCall.body Tryd.func108 rfl rfl Tryd.ntmps108 rfl rfl ?_
  repeat' (first | refine AOps.q rfl rfl rfl (fun hg => by first | exact std0 | exact std1) (by exact rfl) ?_ | refine AWP.seq ?_ | refine AWP.regionK (fun K' hK => ?_) | (refine AOps.nil (hK _ _ ?_); clear hK K') | refine AOps.e (EStep.boxW rfl rfl rfl rfl rfl True.intro rfl rfl ?_) | refine AOps.e (EStep.storeW tabOk rfl rfl rfl True.intro rfl rfl True.intro rfl rfl rfl rfl rfl rfl rfl ?_) | refine AOps.e (EStep.allocW tabOk rfl rfl rfl rfl rfl rfl ?_) | (refine AWP.condW rfl True.intro (fun hc => ?_) (fun hc => ?_) <;> (first | (simp only [decide_eq_true_eq] at hc) | (simp only [decide_eq_false_iff_not, Int.not_lt, Int.not_le] at hc) | skip)) | refine AWP.block ?_ | refine AWP.exit ?_ | refine AWP.skip ?_ | refine AWP.ret ?_ | refine AWP.drawK2 (by decide +kernel) (by kernel_rfl) (by decide +kernel) rfl (fun K' hK => ?_) | refine AWP.drawL2 (by kernel_rfl) (by decide +kernel) rfl (fun K' hK => ?_) | (refine AQ.nil (hK _ ?_); clear hK K') | refine AQ.nil ?_ | refine AQ.q rfl rfl (fun hg => by first | exact std0 | exact std1) (by exact rfl) ?_)
  exact ⟨.inr rfl, fun _ _ h => h⟩

theorem runes_spec (s : ByteArray) (fv : AV) (p : Int → Bool) (truth : Bool) (hf : ∀ c : Nat, FnCall Tryd.prog fv [.prim (.int .i32 c)] (.b (p c))) (hp : ∀ c : Nat, 128 ≤ c → p c = truth) (hs : s.size ≤ 9223372036854775807) :
    PCall Tryd.prog 125 [.str s, fv, .b truth] (.int (findI (fun b => p (b.toNat : Int) == truth) s.data.toList)) := by
  refine PCall.bodyX [1] Tryd.func125 rfl rfl Tryd.ntmps125 rfl rfl ?_
  repeat' (first | refine AOps.q rfl rfl rfl (fun hg => by first | exact std0 | exact std1) (by exact rfl) ?_ | refine AWP.seq ?_ | refine AWP.regionK (fun K' hK => ?_) | (refine AOps.nil (hK _ _ ?_); clear hK K') | refine AOps.e (EStep.boxW rfl rfl rfl rfl rfl True.intro rfl rfl ?_) | refine AOps.e (EStep.storeW tabOk rfl rfl rfl True.intro rfl rfl True.intro rfl rfl rfl rfl rfl rfl rfl ?_) | refine AOps.e (EStep.allocW tabOk rfl rfl rfl rfl rfl rfl ?_) | refine AOps.e (EStep.rangeSW tabOk rfl rfl rfl rfl rfl True.intro rfl ?_) | (refine AWP.condW rfl True.intro (fun hc => ?_) (fun hc => ?_) <;> (first | (simp only [decide_eq_true_eq] at hc) | (simp only [decide_eq_false_iff_not, Int.not_lt, Int.not_le] at hc) | skip)) | refine AWP.block ?_ | refine AWP.exit ?_ | refine AWP.skip ?_ | refine AWP.ret ?_ | refine AWP.drawK2 (by decide +kernel) (by kernel_rfl) (by decide +kernel) rfl (fun K' hK => ?_) | refine AWP.drawL2 (by kernel_rfl) (by decide +kernel) rfl (fun K' hK => ?_) | (refine AQ.nil (hK _ ?_); clear hK K') | refine AQ.nil ?_ | refine AQ.q rfl rfl (fun hg => by first | exact std0 | exact std1) (by exact rfl) ?_)
  have hsz : s.data.toList.length = s.size := by simp
  refine AWP.loopW (ι := Nat) (fun k => [(1, .ext fv), (2, .b truth), (10, .ptr 0 0)]) (fun k => [.siter s k]) (fun k => k ≤ s.size ∧ ∀ j, j < k → (p ((s.data.toList.getD j default).toNat : Int) == truth) = false) (fun k => s.size - k) 0 ⟨Nat.zero_le _, fun j h => absurd h (by omega)⟩ ⟨rfl, rfl, rfl, True.intro⟩ rfl ?_
  rintro k ⟨hk, hall⟩
  by_cases hlt : k < s.size
  · by_cases hlow : (s.data.toList.getD k 0).toNat < 128
    · have hd := decLow hlt hlow
      repeat' (first | refine AOps.q rfl rfl rfl (fun hg => by first | exact std0 | exact PRun.callV (hf _) rfl rfl nd rfl nds | exact std1) (by exact rfl) ?_ | refine AWP.seq ?_ | refine AWP.regionK (fun K' hK => ?_) | (refine AOps.nil (hK _ _ ?_); clear hK K') | refine AOps.e (EStep.boxW rfl rfl rfl rfl rfl True.intro rfl rfl ?_) | refine AOps.e (EStep.storeW tabOk rfl rfl rfl True.intro rfl rfl True.intro rfl rfl rfl rfl rfl rfl rfl ?_) | refine AOps.e (EStep.allocW tabOk rfl rfl rfl rfl rfl rfl ?_) | refine AOps.e (EStep.nextR hd hlt rfl rfl rfl rfl rfl True.intro rfl ?_) | (refine AWP.condW rfl True.intro (fun hc => ?_) (fun hc => ?_) <;> (first | (simp only [decide_eq_true_eq] at hc) | (simp only [decide_eq_false_iff_not, Int.not_lt, Int.not_le] at hc) | skip)) | refine AWP.block ?_ | refine AWP.exit ?_ | refine AWP.skip ?_ | refine AWP.ret ?_ | refine AWP.drawK2 (by decide +kernel) (by kernel_rfl) (by decide +kernel) rfl (fun K' hK => ?_) | refine AWP.drawL2 (by kernel_rfl) (by decide +kernel) rfl (fun K' hK => ?_) | (refine AQ.nil (hK _ ?_); clear hK K') | refine AQ.nil ?_ | refine AQ.q rfl rfl (fun hg => by first | exact std0 | exact PRun.callV (hf _) rfl rfl nd rfl nds | exact std1) (by exact rfl) ?_)
      · refine ⟨.inr rfl, ?_⟩
        rw [show findI (fun b : UInt8 => p (b.toNat : Int) == truth) s.data.toList = k from findI_at (by omega) hc hall]
        exact fun _ _ h => h
      · exact ⟨k + 1, ⟨by omega, fun j hj => lt_succ_cases hall hc hj⟩, by omega, ⟨rfl, rfl, rfl, True.intro⟩, rfl⟩
      · exact absurd hc (by simp)
    · have hh := decHigh hlt (by omega)
      obtain ⟨c, wd, hd⟩ : ∃ c wd, Utf8.decode s k = (c, wd) := ⟨_, _, rfl⟩
      rw [hd] at hh
      have hpc := hp c hh
      have hpk := hp _ (Nat.le_of_not_lt hlow)
      repeat' (first | refine AOps.q rfl rfl rfl (fun hg => by first | exact std0 | exact PRun.callV (hf _) rfl rfl nd rfl nds | exact std1) (by exact rfl) ?_ | refine AWP.seq ?_ | refine AWP.regionK (fun K' hK => ?_) | (refine AOps.nil (hK _ _ ?_); clear hK K') | refine AOps.e (EStep.boxW rfl rfl rfl rfl rfl True.intro rfl rfl ?_) | refine AOps.e (EStep.storeW tabOk rfl rfl rfl True.intro rfl rfl True.intro rfl rfl rfl rfl rfl rfl rfl ?_) | refine AOps.e (EStep.allocW tabOk rfl rfl rfl rfl rfl rfl ?_) | refine AOps.e (EStep.nextR hd hlt rfl rfl rfl rfl rfl True.intro rfl ?_) | (refine AWP.condW rfl True.intro (fun hc => ?_) (fun hc => ?_) <;> (first | (simp only [decide_eq_true_eq] at hc) | (simp only [decide_eq_false_iff_not, Int.not_lt, Int.not_le] at hc) | skip)) | refine AWP.block ?_ | refine AWP.exit ?_ | refine AWP.skip ?_ | refine AWP.ret ?_ | refine AWP.drawK2 (by decide +kernel) (by kernel_rfl) (by decide +kernel) rfl (fun K' hK => ?_) | refine AWP.drawL2 (by kernel_rfl) (by decide +kernel) rfl (fun K' hK => ?_) | (refine AQ.nil (hK _ ?_); clear hK K') | refine AQ.nil ?_ | refine AQ.q rfl rfl (fun hg => by first | exact std0 | exact PRun.callV (hf _) rfl rfl nd rfl nds | exact std1) (by exact rfl) ?_)
      · refine ⟨.inr rfl, ?_⟩
        rw [show findI (fun b : UInt8 => p (b.toNat : Int) == truth) s.data.toList = k from findI_at (by omega) (by show (p ((s.data.toList.getD k 0).toNat : Int) == truth) = true; rw [hpk]; simp) hall]
        exact fun _ _ h => h
      · rw [hpc] at hc; simp at hc
      · exact absurd hc (by simp)
  · repeat' (first | refine AOps.q rfl rfl rfl (fun hg => by first | exact std0 | exact PRun.nextEnd rfl rfl nd rfl hlt | exact std1) (by exact rfl) ?_ | refine AWP.seq ?_ | refine AWP.regionK (fun K' hK => ?_) | (refine AOps.nil (hK _ _ ?_); clear hK K') | refine AOps.e (EStep.boxW rfl rfl rfl rfl rfl True.intro rfl rfl ?_) | refine AOps.e (EStep.storeW tabOk rfl rfl rfl True.intro rfl rfl True.intro rfl rfl rfl rfl rfl rfl rfl ?_) | refine AOps.e (EStep.allocW tabOk rfl rfl rfl rfl rfl rfl ?_) | (refine AWP.condW rfl True.intro (fun hc => ?_) (fun hc => ?_) <;> (first | (simp only [decide_eq_true_eq] at hc) | (simp only [decide_eq_false_iff_not, Int.not_lt, Int.not_le] at hc) | skip)) | refine AWP.block ?_ | refine AWP.exit ?_ | refine AWP.skip ?_ | refine AWP.ret ?_ | refine AWP.drawK2 (by decide +kernel) (by kernel_rfl) (by decide +kernel) rfl (fun K' hK => ?_) | refine AWP.drawL2 (by kernel_rfl) (by decide +kernel) rfl (fun K' hK => ?_) | (refine AQ.nil (hK _ ?_); clear hK K') | refine AQ.nil ?_ | refine AQ.q rfl rfl (fun hg => by first | exact std0 | exact PRun.nextEnd rfl rfl nd rfl hlt | exact std1) (by exact rfl) ?_)
    · exact absurd hc (by simp)
    · refine ⟨.inr rfl, ?_⟩
      rw [show findI (fun b : UInt8 => p (b.toNat : Int) == truth) s.data.toList = -1 from findI_no fun j hj => hall j (by omega)]
      exact fun _ _ h => h

theorem runes1_spec (s : ByteArray) (fv : AV) (p : Int → Bool) (hf : ∀ c : Nat, FnCall Tryd.prog fv [.prim (.int .i32 c)] (.b (p c))) (hp : ∀ c : Nat, 128 ≤ c → p c = true) (hs : s.size ≤ 9223372036854775807) :
    PCall Tryd.prog 109 [.str s, fv] (.int (findI (fun b => p (b.toNat : Int) == true) s.data.toList)) := by
  refine PCall.bodyX [1] Tryd.func109 rfl rfl Tryd.ntmps109 rfl rfl ?_
  repeat' (first | refine AOps.q rfl rfl rfl (fun hg => by first | exact std0 | exact PRun.callW (runes_spec s fv p true hf hp hs) rfl rfl nd rfl nds | exact std1) (by exact rfl) ?_ | refine AWP.seq ?_ | refine AWP.regionK (fun K' hK => ?_) | (refine AOps.nil (hK _ _ ?_); clear hK K') | refine AOps.e (EStep.boxW rfl rfl rfl rfl rfl True.intro rfl rfl ?_) | refine AOps.e (EStep.storeW tabOk rfl rfl rfl True.intro rfl rfl True.intro rfl rfl rfl rfl rfl rfl rfl ?_) | refine AOps.e (EStep.allocW tabOk rfl rfl rfl rfl rfl rfl ?_) | (refine AWP.condW rfl True.intro (fun hc => ?_) (fun hc => ?_) <;> (first | (simp only [decide_eq_true_eq] at hc) | (simp only [decide_eq_false_iff_not, Int.not_lt, Int.not_le] at hc) | skip)) | refine AWP.block ?_ | refine AWP.exit ?_ | refine AWP.skip ?_ | refine AWP.ret ?_ | refine AWP.drawK2 (by decide +kernel) (by kernel_rfl) (by decide +kernel) rfl (fun K' hK => ?_) | refine AWP.drawL2 (by kernel_rfl) (by decide +kernel) rfl (fun K' hK => ?_) | (refine AQ.nil (hK _ ?_); clear hK K') | refine AQ.nil ?_ | refine AQ.q rfl rfl (fun hg => by first | exact std0 | exact PRun.callW (runes_spec s fv p true hf hp hs) rfl rfl nd rfl nds | exact std1) (by exact rfl) ?_)
  exact ⟨.inr rfl, fun _ _ h => h⟩

theorem other_high (c : Nat) (hc : 128 ≤ c) : otherB c = true := by
  simp [otherB]; omega
theorem other_call (c : Nat) : FnCall Tryd.prog (.fn (.func 108) [] []) [.prim (.int .i32 c)] (.b (otherB c)) := ⟨108, [], [], rfl, other_spec c⟩

theorem bytes_toList {a b : ByteArray} (h : (a.toList == b.toList) = true) : a = b := (Lib.bytes_beq_iff a b).1 h
theorem nameB_iff (s : ByteArray) : nameB s = true ↔ 1 ≤ s.size ∧ s.size ≤ 12 ∧ ∀ j, j < s.size → nameAt s j = true := by
  simp [nameB, and_assoc]
theorem isName_eq (s : ByteArray) (h0 : 0 < s.size) : (!s.toList == ByteArray.toList ⟨#[]⟩ && decide ((s.size : Int) ≤ 12) && decide (findI (fun b : UInt8 => otherB b.toNat == true) s.data.toList < 0) && decide (((s.data.toList.getD 0 0).toNat : Int) ≥ 65)) = nameB s := by
  have e0 : (s.toList == ByteArray.toList ⟨#[]⟩) = false := by
    cases h : (s.toList == ByteArray.toList ⟨#[]⟩) with
    | false => rfl
    | true =>
      have h1 : s = ⟨#[]⟩ := bytes_toList h
      subst h1; exact absurd h0 (by decide)
  have hl : s.data.toList.length = s.size := by simp
  rw [e0, Bool.eq_iff_iff, nameB_iff]
  simp only [Bool.not_false, Bool.true_and, Bool.and_eq_true, decide_eq_true_eq]
  constructor
  · rintro ⟨⟨h1, h2⟩, h3⟩
    refine ⟨h0, by omega, fun j hj => ?_⟩
    cases hn : nameAt s j with
    | true => rfl
    | false =>
      exfalso
      have hex : ∃ x ∈ s.data.toList, otherB x.toNat = true ∨ (x.toNat : Int) < 0 := by
        refine ⟨s.data.toList.getD j 0, ?_, ?_⟩
        · have : j < s.data.toList.length := by omega
          simp only [List.getD, List.getElem?_eq_getElem this, Option.getD_some]
          exact List.getElem_mem this
        · left
          by_cases hj0 : j = 0
          · subst hj0
            unfold nameAt at hn
            generalize (s.data.toList.getD 0 0).toNat = x at hn h3 ⊢
            simp [otherB] at hn ⊢; omega
          · unfold nameAt at hn
            generalize (s.data.toList.getD j 0).toNat = x at hn ⊢
            simp [otherB, hj0] at hn ⊢; omega
      obtain ⟨x, hx, h4 | h4⟩ := hex
      · unfold findI at h2
        cases hf : s.data.toList.findIdx? (fun b : UInt8 => otherB b.toNat == true) with
        | none =>
          rw [List.findIdx?_eq_none_iff] at hf
          have := hf x hx
          rw [h4] at this; simp at this
        | some i => rw [hf] at h2; simp at h2; omega
      · omega
  · rintro ⟨_, h2, h3⟩
    have a0 := h3 0 h0
    refine ⟨⟨by omega, ?_⟩, by unfold nameAt at a0; generalize (s.data.toList.getD 0 0).toNat = x at a0 ⊢; simp at a0; omega⟩
    have : findI (fun b : UInt8 => otherB b.toNat == true) s.data.toList = -1 := findI_no fun j hj => by
      have := h3 j (by omega)
      have e : s.data.toList.getD j default = s.data.toList.getD j 0 := rfl
      rw [e]
      by_cases hj0 : j = 0
      · subst hj0; unfold nameAt at this; generalize (s.data.toList.getD 0 0).toNat = x at this ⊢; simp [otherB] at this ⊢; omega
      · unfold nameAt at this; generalize (s.data.toList.getD j 0).toNat = x at this ⊢; simp [otherB, hj0] at this ⊢; omega
    omega

theorem isName_spec (s : ByteArray) (hs : s.size ≤ 9223372036854775807) : PCall Tryd.prog 72 [.str s] (.b (nameB s)) := by
  by_cases h0 : 0 < s.size
  · refine PCall.body Tryd.func72 rfl rfl Tryd.ntmps72 rfl rfl ?_
    repeat' (first | refine AOps.q rfl rfl rfl (fun hg => by first | exact std0 | exact PRun.callW (runes1_spec s (.fn (.func 108) [] []) otherB other_call other_high hs) rfl rfl nd rfl nds | exact std1) (by exact rfl) ?_ | refine AWP.seq ?_ | refine AWP.regionK (fun K' hK => ?_) | (refine AOps.nil (hK _ _ ?_); clear hK K') | refine AOps.e (EStep.boxW rfl rfl rfl rfl rfl True.intro rfl rfl ?_) | refine AOps.e (EStep.storeW tabOk rfl rfl rfl True.intro rfl rfl True.intro rfl rfl rfl rfl rfl rfl rfl ?_) | refine AOps.e (EStep.allocW tabOk rfl rfl rfl rfl rfl rfl ?_) | (refine AWP.condW rfl True.intro (fun hc => ?_) (fun hc => ?_) <;> (first | (simp only [decide_eq_true_eq] at hc) | (simp only [decide_eq_false_iff_not, Int.not_lt, Int.not_le] at hc) | skip)) | refine AWP.block ?_ | refine AWP.exit ?_ | refine AWP.skip ?_ | refine AWP.ret ?_ | refine AWP.drawK2 (by decide +kernel) (by kernel_rfl) (by decide +kernel) rfl (fun K' hK => ?_) | refine AWP.drawL2 (by kernel_rfl) (by decide +kernel) rfl (fun K' hK => ?_) | (refine AQ.nil (hK _ ?_); clear hK K') | refine AQ.nil ?_ | refine AQ.q rfl rfl (fun hg => by first | exact std0 | exact PRun.callW (runes1_spec s (.fn (.func 108) [] []) otherB other_call other_high hs) rfl rfl nd rfl nds | exact std1) (by exact rfl) ?_)
    refine ⟨.inr rfl, ?_⟩
    rw [← isName_eq s h0]
    exact fun _ _ h => h
  · have e : s = ⟨#[]⟩ := by
      obtain ⟨d⟩ := s
      have : d.size = 0 := by
        have : ¬ 0 < d.size := h0
        omega
      rw [Array.eq_empty_of_size_eq_zero this]
    subst e
    refine PCall.body Tryd.func72 rfl rfl Tryd.ntmps72 rfl rfl ?_
    repeat' (first | refine AOps.q rfl rfl rfl (fun hg => by first | exact std0 | exact PRun.callW (runes1_spec _ (.fn (.func 108) [] []) otherB other_call other_high hs) rfl rfl nd rfl nds | exact std1) (by exact rfl) ?_ | refine AWP.seq ?_ | refine AWP.regionK (fun K' hK => ?_) | (refine AOps.nil (hK _ _ ?_); clear hK K') | refine AOps.e (EStep.boxW rfl rfl rfl rfl rfl True.intro rfl rfl ?_) | refine AOps.e (EStep.storeW tabOk rfl rfl rfl True.intro rfl rfl True.intro rfl rfl rfl rfl rfl rfl rfl ?_) | refine AOps.e (EStep.allocW tabOk rfl rfl rfl rfl rfl rfl ?_) | (refine AWP.condW rfl True.intro (fun hc => ?_) (fun hc => ?_) <;> (first | (simp only [decide_eq_true_eq] at hc) | (simp only [decide_eq_false_iff_not, Int.not_lt, Int.not_le] at hc) | skip)) | refine AWP.block ?_ | refine AWP.exit ?_ | refine AWP.skip ?_ | refine AWP.ret ?_ | refine AWP.drawK2 (by decide +kernel) (by kernel_rfl) (by decide +kernel) rfl (fun K' hK => ?_) | refine AWP.drawL2 (by kernel_rfl) (by decide +kernel) rfl (fun K' hK => ?_) | (refine AQ.nil (hK _ ?_); clear hK K') | refine AQ.nil ?_ | refine AQ.q rfl rfl (fun hg => by first | exact std0 | exact PRun.callW (runes1_spec _ (.fn (.func 108) [] []) otherB other_call other_high hs) rfl rfl nd rfl nds | exact std1) (by exact rfl) ?_)
    refine ⟨.inr rfl, ?_⟩
    show Ent (AV.b ((!ByteArray.toList ⟨#[]⟩ == ByteArray.toList ⟨#[]⟩) && _ && _ && _)) _
    rw [show (!ByteArray.toList ⟨#[]⟩ == ByteArray.toList ⟨#[]⟩) = false by simp, Bool.false_and, Bool.false_and, Bool.false_and, show nameB ⟨#[]⟩ = false by decide]
    exact fun _ _ h => h

/-- The letters, as a list under their names. -/
def lettersAL (l : List Letter) : List (ByteArray × Int) := l.foldl (fun al x => ins al x.name x.pos) []
theorem lettersAL_succ (l : List Letter) (k : Nat) (h : k < l.length) : lettersAL (l.take (k + 1)) = ins (lettersAL (l.take k)) (l.getD k default).name (l.getD k default).pos := by
  unfold lettersAL
  rw [List.take_succ_eq_append_getElem h, List.foldl_append, getD_lt h]; rfl
abbrev ekS (s : ByteArray) : Value := .string s
theorem okObj_mapInt {κ : Type} (m : Nat) (ek : κ → Value) (l : List (κ × Int)) : okObj m (.map (encM ek AV.int l)) = true := by
  simp [okObj, encM, okRef]

theorem letters_spec (e : Edition) (hl : e.letters.length ≤ 9223372036854775807) : PCall Tryd.prog 73 [.agg (encE e)] (.imap (encM ekS AV.int (lettersAL e.letters))) := by
  refine PCall.body Tryd.func73 rfl rfl Tryd.ntmps73 rfl rfl ?_
  repeat' (first | refine AOps.q rfl rfl rfl (fun hg => by first | exact std0 | exact std1) (by exact rfl) ?_ | refine AWP.seq ?_ | refine AWP.regionK (fun K' hK => ?_) | (refine AOps.nil (hK _ _ ?_); clear hK K') | refine AOps.e (EStep.boxW rfl rfl rfl rfl rfl True.intro rfl rfl ?_) | refine AOps.e (EStep.storeW tabOk rfl rfl rfl True.intro rfl rfl True.intro rfl rfl rfl rfl rfl rfl rfl ?_) | refine AOps.e (EStep.allocW tabOk rfl rfl rfl rfl rfl rfl ?_) | refine AOps.e (EStep.makeMapRW tabOk rfl rfl rfl rfl rfl True.intro rfl ?_) | (refine AWP.condW rfl True.intro (fun hc => ?_) (fun hc => ?_) <;> (first | (simp only [decide_eq_true_eq] at hc) | (simp only [decide_eq_false_iff_not, Int.not_lt, Int.not_le] at hc) | skip)) | refine AWP.block ?_ | refine AWP.exit ?_ | refine AWP.skip ?_ | refine AWP.ret ?_ | refine AWP.drawK2 (by decide +kernel) (by kernel_rfl) (by decide +kernel) rfl (fun K' hK => ?_) | refine AWP.drawL2 (by kernel_rfl) (by decide +kernel) rfl (fun K' hK => ?_) | (refine AQ.nil (hK _ ?_); clear hK K') | refine AQ.nil ?_ | refine AQ.q rfl rfl (fun hg => by first | exact std0 | exact std1) (by exact rfl) ?_)
  refine AWP.loopD (ι := Nat) (fun k => [(1, .ptr 0 0), (3, .map 1), (11, .sl 2 (e.letters.map encL) .no), (12, .int e.letters.length), (13, .int k)]) (fun k => [.var (encE e), .map (encM ekS AV.int (lettersAL (e.letters.take k)))])
    (fun k => k ≤ e.letters.length) (fun k => e.letters.length - k) 2 (fun _ => rfl) 0 (Nat.zero_le _) ⟨rfl, rfl, rfl, rfl, rfl, True.intro⟩ rfl (fun _ _ => rfl) (fun k _ => by simp [okObj_mapInt]; rfl) ?_
  intro k hk
  by_cases hlt : k < e.letters.length
  · repeat' (first | refine AOps.q rfl rfl rfl (fun hg => by first | exact std0 | exact std1) (by exact rfl) ?_ | refine AWP.seq ?_ | refine AWP.regionK (fun K' hK => ?_) | (refine AOps.nil (hK _ _ ?_); clear hK K') | refine AOps.e (EStep.boxW rfl rfl rfl rfl rfl True.intro rfl rfl ?_) | refine AOps.e (EStep.storeW tabOk rfl rfl rfl True.intro rfl rfl True.intro rfl rfl rfl rfl rfl rfl rfl ?_) | refine AOps.e (EStep.allocW tabOk rfl rfl rfl rfl rfl rfl ?_) | refine AOps.e (EStep.mapUpd (ek := ekS) (ev := AV.int) (keyLaw_str (LOk.of (tabOk.get rfl))) (LOk.of (tabOk.get rfl)) rfl rfl rfl (Rd.w rfl True.intro) rfl (Rd.w rfl True.intro) rfl (Rd.w rfl True.intro) ?_) | (refine AWP.condW rfl True.intro (fun hc => ?_) (fun hc => ?_) <;> (first | (simp only [decide_eq_true_eq] at hc) | (simp only [decide_eq_false_iff_not, Int.not_lt, Int.not_le] at hc) | skip)) | refine AWP.block ?_ | refine AWP.exit ?_ | refine AWP.skip ?_ | refine AWP.ret ?_ | refine AWP.drawK2 (by decide +kernel) (by kernel_rfl) (by decide +kernel) rfl (fun K' hK => ?_) | refine AWP.drawL2 (by kernel_rfl) (by decide +kernel) rfl (fun K' hK => ?_) | (refine AQ.nil (hK _ ?_); clear hK K') | refine AQ.nil ?_ | refine AQ.q rfl rfl (fun hg => by first | exact std0 | exact std1) (by exact rfl) ?_)
    · exact ⟨k + 1, by omega, by omega, ⟨rfl, rfl, rfl, rfl, rfl, True.intro⟩, by rw [lettersAL_succ _ _ hlt]; rfl⟩
    · exfalso; omega
  · repeat' (first | refine AOps.q rfl rfl rfl (fun hg => by first | exact std0 | exact std1) (by exact rfl) ?_ | refine AWP.seq ?_ | refine AWP.regionK (fun K' hK => ?_) | (refine AOps.nil (hK _ _ ?_); clear hK K') | refine AOps.e (EStep.boxW rfl rfl rfl rfl rfl True.intro rfl rfl ?_) | refine AOps.e (EStep.storeW tabOk rfl rfl rfl True.intro rfl rfl True.intro rfl rfl rfl rfl rfl rfl rfl ?_) | refine AOps.e (EStep.allocW tabOk rfl rfl rfl rfl rfl rfl ?_) | (refine AWP.condW rfl True.intro (fun hc => ?_) (fun hc => ?_) <;> (first | (simp only [decide_eq_true_eq] at hc) | (simp only [decide_eq_false_iff_not, Int.not_lt, Int.not_le] at hc) | skip)) | refine AWP.block ?_ | refine AWP.exit ?_ | refine AWP.skip ?_ | refine AWP.drawK2 (by decide +kernel) (by kernel_rfl) (by decide +kernel) rfl (fun K' hK => ?_) | refine AWP.drawL2 (by kernel_rfl) (by decide +kernel) rfl (fun K' hK => ?_) | (refine AQ.nil (hK _ ?_); clear hK K') | refine AQ.nil ?_ | refine AQ.q rfl rfl (fun hg => by first | exact std0 | exact std1) (by exact rfl) ?_)
    · exfalso; omega
    · refine AWP.freezeMap (ek := ekS) (ev := AV.int) (l := 1) rfl pureE_int ?_
      refine AWP.ret ⟨.inr rfl, ?_⟩
      rw [show e.letters.take k = e.letters from List.take_of_length_le (by omega)]
      exact fun _ _ h => h
end Go.Proofs.YtnmdmmfdnnmdfaaDoor.Ed
