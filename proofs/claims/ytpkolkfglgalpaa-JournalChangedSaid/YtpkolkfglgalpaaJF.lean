/- Contracts by content: the codec of the reference: lists, frames. No statement is proved here. -/
import Derived.Test.YtpkolkfglgalpaaJE
set_option linter.unusedVariables false
set_option linter.unusedSimpArgs false
namespace Go.Proofs.Ytpkolkfglgalpaa
open Go.Ab Go.Jo
attribute [local irreducible] AWP AOps EStep AQ PStep PRun PCall TCall VCall DStep TDies AWD DCall

theorem rdR_cases (b : Bs) : (Jo.rd b = none ∧ rdR b = (0, 0)) ∨ ∃ n r, Jo.rd b = some (n, r) ∧ rdR b = (n, (((num n).length : Nat) : Int)) ∧ b = num n ++ r ∧ InI n := by
  cases h : Jo.rd b with
  | none => exact .inl ⟨rfl, by unfold rdR; rw [h]⟩
  | some p =>
    obtain ⟨n, r⟩ := p
    obtain ⟨h1, h2⟩ := rd_inv h
    refine .inr ⟨n, r, rfl, ?_, h1, h2⟩
    have hl : b.length = (num n).length + r.length := by rw [h1]; simp
    unfold rdR; rw [h]
    simp only
    congr 2; omega
def getR (b : Bs) : List Int × Int := match getL b with
  | some l => (l, 0)
  | none => ([], 7)
theorem getR_none {b : Bs} (h : getL b = none) : getR b = ([], 7) := by unfold getR; rw [h]
theorem getR_some {b : Bs} {l : List Int} (h : getL b = some l) : getR b = (l, 0) := by unfold getR; rw [h]
theorem getL_none {b : Bs} (h : Jo.rd b = none) : getL b = none := by unfold getL; rw [h]
theorem getL_range {b r : Bs} {n : Int} (h : Jo.rd b = some (n, r)) (hn : n < 0 ∨ 4000 < n) : getL b = none := by
  unfold getL; rw [h]
  simp only
  rw [if_pos (by rcases hn with h | h; exact .inl h; exact .inr h)]
theorem getL_in {b r : Bs} {m : Nat} (h : Jo.rd b = some ((m : Int), r)) (hm : m ≤ 4000) : getL b = match rdN m r with | some (l, []) => some l | _ => none := by
  unfold getL; rw [h]
  simp only
  rw [if_neg (by have : maxInts = 4000 := rfl; omega), Int.toNat_natCast]
  cases rdN m r with
  | none => rfl
  | some p => obtain ⟨a, b⟩ := p; cases b <;> rfl
abbrev tupLI (l : List Int) (e : Int) : AV := .tup [.sl 1 (l.map encN) .no, .int e]
set_option maxHeartbeats 1600000 in
theorem get05_spec (b : Bs) (hl : b.length ≤ 9223372036854775807) : PCall Try.prog 59 [.sl 1 (b.map by8) .no] (tupLI (getR b).1 (getR b).2) := by
  have hv0 := read05_spec b hl
  refine PCall.body Try.func59 rfl rfl Try.ntmps59 rfl rfl ?_
  rcases rdR_cases b with ⟨h1, h2⟩ | ⟨n, r, h1, h2, h3, h4⟩
  · rw [h2] at hv0
    dsimp only at hv0
    repeat' (first
      | refine AOps.q rfl rfl rfl (fun hg => by first | exact std0 | exact PRun.callW (hv0) rfl rfl nd rfl nds | exact std1) (by exact rfl) ?_
      | refine AWP.seq ?_
      | refine AWP.regionK (fun K' hK => ?_)
      | (refine AOps.nil (hK _ _ ?_); clear hK K')
      | refine AOps.e (EStep.boxW rfl rfl rfl rfl rfl True.intro rfl rfl ?_)
      | refine AOps.e (EStep.storeW tabOk rfl rfl rfl True.intro rfl rfl True.intro rfl rfl rfl rfl rfl rfl rfl ?_)
      | refine AOps.e (EStep.allocW tabOk rfl rfl rfl rfl rfl rfl ?_)
      | (refine AWP.condW rfl True.intro (fun hc => ?_) (fun hc => ?_) <;> (first | (simp only [decide_eq_true_eq] at hc) | (simp only [decide_eq_false_iff_not, Int.not_lt, Int.not_le] at hc) | skip))
      | refine AWP.block ?_
      | refine AWP.exit ?_
      | refine AWP.skip ?_
      | refine AWP.ret ?_
      | refine AWP.drawK2 (by decide +kernel) (by kernel_rfl) (by decide +kernel) rfl (fun K' hK => ?_)
      | refine AWP.drawL2 (by kernel_rfl) (by decide +kernel) rfl (fun K' hK => ?_)
      | (refine AQ.nil (hK _ ?_); clear hK K')
      | refine AQ.nil ?_
      | refine AQ.q rfl rfl (fun hg => by first | exact std0 | exact PRun.callW (hv0) rfl rfl nd rfl nds | exact std1) (by exact rfl) ?_)
    · refine ⟨.inr rfl, ?_⟩
      rw [getR_none (getL_none h1)]
      exact Ent.tup2 Ent.nil (Ent.rfl' _)
    all_goals (exfalso; first | omega | (simp at hc; done) | (simp only [Int.toNat_natCast, Bool.or_eq_true, Bool.and_eq_true, Bool.or_eq_false_iff, Bool.and_eq_false_iff, decide_eq_true_eq, decide_eq_false_iff_not, Bool.not_eq_true', Bool.not_eq_false', beq_iff_eq, beq_eq_false_iff_ne, bne_iff_ne, bne_eq_false_iff_eq, gt_iff_lt, ge_iff_le, ne_eq] at hc; omega))
  rw [h2] at hv0
  dsimp only at hv0
  have hn1 := num_len n
  repeat' (first
    | refine AOps.q rfl rfl rfl (fun hg => by first | exact std0 | exact PRun.callW (hv0) rfl rfl nd rfl nds | exact std1) (by exact rfl) ?_
    | refine AWP.seq ?_
    | refine AWP.regionK (fun K' hK => ?_)
    | (refine AOps.nil (hK _ _ ?_); clear hK K')
    | refine AOps.e (EStep.boxW rfl rfl rfl rfl rfl True.intro rfl rfl ?_)
    | refine AOps.e (EStep.storeW tabOk rfl rfl rfl True.intro rfl rfl True.intro rfl rfl rfl rfl rfl rfl rfl ?_)
    | refine AOps.e (EStep.allocW tabOk rfl rfl rfl rfl rfl rfl ?_)
    | (refine AWP.condW rfl True.intro (fun hc => ?_) (fun hc => ?_) <;> (first | (simp only [decide_eq_true_eq] at hc) | (simp only [decide_eq_false_iff_not, Int.not_lt, Int.not_le] at hc) | skip))
    | refine AWP.block ?_
    | refine AWP.exit ?_
    | refine AWP.skip ?_
    | refine AWP.ret ?_
    | refine AWP.drawK2 (by decide +kernel) (by kernel_rfl) (by decide +kernel) rfl (fun K' hK => ?_)
    | refine AWP.drawL2 (by kernel_rfl) (by decide +kernel) rfl (fun K' hK => ?_)
    | (refine AQ.nil (hK _ ?_); clear hK K')
    | refine AQ.nil ?_
    | refine AQ.q rfl rfl (fun hg => by first | exact std0 | exact PRun.callW (hv0) rfl rfl nd rfl nds | exact std1) (by exact rfl) ?_)
  · refine ⟨.inr rfl, ?_⟩
    simp only [Int.toNat_natCast, Bool.or_eq_true, Bool.and_eq_true, Bool.or_eq_false_iff, Bool.and_eq_false_iff, decide_eq_true_eq, decide_eq_false_iff_not, Bool.not_eq_true', Bool.not_eq_false', beq_iff_eq, beq_eq_false_iff_ne, bne_iff_ne, bne_eq_false_iff_eq, gt_iff_lt, ge_iff_le, ne_eq] at hc
    rw [getR_none (getL_range h1 (by omega))]
    exact Ent.tup2 Ent.nil (Ent.rfl' _)
  simp only [Int.toNat_natCast, Bool.or_eq_true, Bool.and_eq_true, Bool.or_eq_false_iff, Bool.and_eq_false_iff, decide_eq_true_eq, decide_eq_false_iff_not, Bool.not_eq_true', Bool.not_eq_false', beq_iff_eq, beq_eq_false_iff_ne, bne_iff_ne, bne_eq_false_iff_eq, gt_iff_lt, ge_iff_le, ne_eq] at hc
  obtain ⟨m, rfl⟩ := Int.eq_ofNat_of_zero_le (show 0 ≤ n by omega)
  have hm : m ≤ 4000 := by omega
  have hg := getL_in h1 hm
  have hinit : rdN m r = (rdN (m - 0) (b.drop (num (m : Int)).length)).map fun p => ([] ++ p.1, p.2) := by
    have hd : b.drop (num (m : Int)).length = r := by rw [h3, List.drop_left]
    rw [hd, Nat.sub_zero]
    cases rdN m r <;> rfl
  have hat : (num (m : Int)).length ≤ b.length := by rw [h3]; simp
  refine AWP.ownNil (d := 6) (sz := 1) rfl ?_
  refine AWP.loopW (ι := Nat × Nat × List Int) (fun i => [(0, .sl 1 (b.map by8) .no), (4, .int m), (5, .int i.2.1), (6, .sl 1 (i.2.2.map encN) (.own 0)), (7, .int i.1)]) (fun i => [.own 1 (i.2.2.map encN).length]) (fun i => i.1 ≤ m ∧ i.2.1 ≤ b.length ∧ i.2.2.length = i.1 ∧ rdN m r = (rdN (m - i.1) (b.drop i.2.1)).map fun p => (i.2.2 ++ p.1, p.2)) (fun i => m - i.1) (0, (num (m : Int)).length, [])
    ⟨Nat.zero_le _, hat, rfl, hinit⟩ ⟨rfl, rfl, rfl, rfl, rfl, True.intro⟩ rfl ?_
  rintro ⟨k, at_, out⟩ ⟨g1, g2, g3, g4⟩
  dsimp only at g1 g2 g3 g4 ⊢
  by_cases hlt : k < m
  · have hv1 := read05_spec (b.drop at_) (by rw [List.length_drop]; omega)
    obtain ⟨j, hj⟩ : ∃ j, m - k = j + 1 := ⟨m - k - 1, by omega⟩
    rw [hj, rdN] at g4
    rcases rdR_cases (b.drop at_) with ⟨q1, q2⟩ | ⟨v, r', q1, q2, q3, q4⟩
    · rw [q2] at hv1
      dsimp only at hv1
      rw [q1] at g4
      repeat' (first
        | refine AOps.q rfl rfl rfl (fun hg => by first | exact std0 | exact PRun.callW (hv1) rfl rfl nd rfl nds | exact PRun.sliceLoM tabOk rfl rfl nd rfl nd rfl (by omega) | exact PRun.sliceHiM tabOk rfl rfl nd rfl nd rfl (by omega) | exact PRun.sliceM tabOk rfl rfl nd rfl nd rfl nd rfl (by omega) | exact std1) (by exact rfl) ?_
        | refine AWP.seq ?_
        | refine AWP.regionK (fun K' hK => ?_)
        | (refine AOps.nil (hK _ _ ?_); clear hK K')
        | refine AOps.e (EStep.boxW rfl rfl rfl rfl rfl True.intro rfl rfl ?_)
        | refine AOps.e (EStep.storeW tabOk rfl rfl rfl True.intro rfl rfl True.intro rfl rfl rfl rfl rfl rfl rfl ?_)
        | refine AOps.e (EStep.allocW tabOk rfl rfl rfl rfl rfl rfl ?_)
        | (refine AWP.condW rfl True.intro (fun hc => ?_) (fun hc => ?_) <;> (first | (simp only [decide_eq_true_eq] at hc) | (simp only [decide_eq_false_iff_not, Int.not_lt, Int.not_le] at hc) | skip))
        | refine AWP.block ?_
        | refine AWP.exit ?_
        | refine AWP.skip ?_
        | refine AWP.ret ?_
        | refine AWP.drawK2 (by decide +kernel) (by kernel_rfl) (by decide +kernel) rfl (fun K' hK => ?_)
        | refine AWP.drawL2 (by kernel_rfl) (by decide +kernel) rfl (fun K' hK => ?_)
        | (refine AQ.nil (hK _ ?_); clear hK K')
        | refine AQ.nil ?_
        | refine AQ.q rfl rfl (fun hg => by first | exact std0 | exact PRun.callW (hv1) rfl rfl nd rfl nds | exact PRun.sliceLoM tabOk rfl rfl nd rfl nd rfl (by omega) | exact PRun.sliceHiM tabOk rfl rfl nd rfl nd rfl (by omega) | exact PRun.sliceM tabOk rfl rfl nd rfl nd rfl nd rfl (by omega) | exact std1) (by exact rfl) ?_)
      · refine ⟨.inr rfl, ?_⟩
        rw [getR_none (by rw [hg, g4]; rfl)]
        exact Ent.tup2 Ent.nil (Ent.rfl' _)
      all_goals (exfalso; first | omega | (simp at hc; done) | (simp only [Int.toNat_natCast, Bool.or_eq_true, Bool.and_eq_true, Bool.or_eq_false_iff, Bool.and_eq_false_iff, decide_eq_true_eq, decide_eq_false_iff_not, Bool.not_eq_true', Bool.not_eq_false', beq_iff_eq, beq_eq_false_iff_ne, bne_iff_ne, bne_eq_false_iff_eq, gt_iff_lt, ge_iff_le, ne_eq] at hc; omega))
    · rw [q2] at hv1
      dsimp only at hv1
      rw [q1] at g4
      have hn2 := num_len v
      have hlen : (b.drop at_).length = (num v).length + r'.length := by rw [q3]; simp
      rw [List.length_drop] at hlen
      repeat' (first
        | refine AOps.q rfl rfl rfl (fun hg => by first | exact std0 | exact PRun.callW (hv1) rfl rfl nd rfl nds | exact PRun.sliceLoM tabOk rfl rfl nd rfl nd rfl (by omega) | exact PRun.sliceHiM tabOk rfl rfl nd rfl nd rfl (by omega) | exact PRun.sliceM tabOk rfl rfl nd rfl nd rfl nd rfl (by omega) | exact PRun.buildSlW tabOk rfl rfl nds | exact std1) (by exact rfl) ?_
        | refine AWP.seq ?_
        | refine AWP.regionK (fun K' hK => ?_)
        | (refine AOps.nil (hK _ _ ?_); clear hK K')
        | refine AOps.e (EStep.boxW rfl rfl rfl rfl rfl True.intro rfl rfl ?_)
        | refine AOps.e (EStep.storeW tabOk rfl rfl rfl True.intro rfl rfl True.intro rfl rfl rfl rfl rfl rfl rfl ?_)
        | refine AOps.e (EStep.allocW tabOk rfl rfl rfl rfl rfl rfl ?_)
        | refine AOps.e (EStep.appendOwn tabOk rfl rfl rfl (by decide) (Rd.w rfl True.intro) rfl (Rd.w rfl True.intro) (.sl rfl (by first | (intro x hx; rcases List.mem_singleton.1 hx with rfl; rfl) | exact one_by8 _ | exact one_ints _)) (LOk.of (tabOk.get rfl)) (LOk.of (tabOk.get rfl)) rfl rfl (by simp only [List.length_map, List.length_append, List.length_cons, List.length_nil]; omega) (by simp only [List.length_map, List.length_append, List.length_cons, List.length_nil]; omega) ?_)
        | (refine AWP.condW rfl True.intro (fun hc => ?_) (fun hc => ?_) <;> (first | (simp only [decide_eq_true_eq] at hc) | (simp only [decide_eq_false_iff_not, Int.not_lt, Int.not_le] at hc) | skip))
        | refine AWP.block ?_
        | refine AWP.exit ?_
        | refine AWP.skip ?_
        | refine AWP.ret ?_
        | refine AWP.drawK2 (by decide +kernel) (by kernel_rfl) (by decide +kernel) rfl (fun K' hK => ?_)
        | refine AWP.drawL2 (by kernel_rfl) (by decide +kernel) rfl (fun K' hK => ?_)
        | (refine AQ.nil (hK _ ?_); clear hK K')
        | refine AQ.nil ?_
        | refine AQ.q rfl rfl (fun hg => by first | exact std0 | exact PRun.callW (hv1) rfl rfl nd rfl nds | exact PRun.sliceLoM tabOk rfl rfl nd rfl nd rfl (by omega) | exact PRun.sliceHiM tabOk rfl rfl nd rfl nd rfl (by omega) | exact PRun.sliceM tabOk rfl rfl nd rfl nd rfl nd rfl (by omega) | exact PRun.buildSlW tabOk rfl rfl nds | exact std1) (by exact rfl) ?_)
      · exfalso; simp only [Int.toNat_natCast, Bool.or_eq_true, Bool.and_eq_true, Bool.or_eq_false_iff, Bool.and_eq_false_iff, decide_eq_true_eq, decide_eq_false_iff_not, Bool.not_eq_true', Bool.not_eq_false', beq_iff_eq, beq_eq_false_iff_ne, bne_iff_ne, bne_eq_false_iff_eq, gt_iff_lt, ge_iff_le, ne_eq] at hc; omega
      · refine ⟨(k + 1, at_ + (num v).length, out ++ [v]), ⟨by simp only; omega, by simp only; omega, by simp; omega, ?_⟩, by simp only; omega, ⟨rfl, rfl, rfl, slApp (b := [v]) rfl, rfl, True.intro⟩, ownApp1 (b := [v]) rfl⟩
        have hd : b.drop (at_ + (num v).length) = r' := by rw [← List.drop_drop, q3, List.drop_left]
        rw [g4, show m - (k + 1) = j by omega]
        simp only [hd]
        cases rdN j r' with
        | none => rfl
        | some p => simp
      all_goals (exfalso; omega)
  · have hk : k = m := by omega
    subst hk
    rw [Nat.sub_self, rdN] at g4
    have f1 : at_ ≠ b.length → getR b = ([], 7) := fun h => getR_none (by
      have hne : b.drop at_ ≠ [] := by
        intro h
        have := congrArg List.length h
        rw [List.length_drop] at this
        simp at this; omega
      rw [hg, g4]
      simp only [Option.map_some, List.append_nil]
      cases hd : b.drop at_ with
      | nil => exact absurd hd hne
      | cons x y => rfl)
    have f2 : at_ = b.length → getR b = (out, 0) := fun h => getR_some (by rw [hg, g4, h]; simp)
    clear g4 hg hinit hat h1 h2 h3 h4 hv0 hc
    repeat' (first
      | refine AOps.q rfl rfl rfl (fun hg => by first | exact std0 | exact std1) (by exact rfl) ?_
      | refine AWP.seq ?_
      | refine AWP.regionK (fun K' hK => ?_)
      | (refine AOps.nil (hK _ _ ?_); clear hK K')
      | refine AOps.e (EStep.boxW rfl rfl rfl rfl rfl True.intro rfl rfl ?_)
      | refine AOps.e (EStep.storeW tabOk rfl rfl rfl True.intro rfl rfl True.intro rfl rfl rfl rfl rfl rfl rfl ?_)
      | refine AOps.e (EStep.allocW tabOk rfl rfl rfl rfl rfl rfl ?_)
      | (refine AWP.condW rfl True.intro (fun hc => ?_) (fun hc => ?_) <;> (first | (simp only [decide_eq_true_eq] at hc) | (simp only [decide_eq_false_iff_not, Int.not_lt, Int.not_le] at hc) | skip))
      | refine AWP.block ?_
      | refine AWP.exit ?_
      | refine AWP.skip ?_
      | refine AWP.ret ?_
      | refine AWP.drawK2 (by decide +kernel) (by kernel_rfl) (by decide +kernel) rfl (fun K' hK => ?_)
      | refine AWP.drawL2 (by kernel_rfl) (by decide +kernel) rfl (fun K' hK => ?_)
      | (refine AQ.nil (hK _ ?_); clear hK K')
      | refine AQ.nil ?_
      | refine AQ.q rfl rfl (fun hg => by first | exact std0 | exact std1) (by exact rfl) ?_)
    · exfalso; omega
    · refine ⟨.inr rfl, ?_⟩
      simp only [Int.toNat_natCast, Bool.or_eq_true, Bool.and_eq_true, Bool.or_eq_false_iff, Bool.and_eq_false_iff, decide_eq_true_eq, decide_eq_false_iff_not, Bool.not_eq_true', Bool.not_eq_false', beq_iff_eq, beq_eq_false_iff_ne, bne_iff_ne, bne_eq_false_iff_eq, gt_iff_lt, ge_iff_le, ne_eq] at hc
      rw [f1 (by omega)]
      exact Ent.tup2 Ent.nil (Ent.rfl' _)
    · refine ⟨.inr rfl, Ent.of ?_⟩
      simp only [Int.toNat_natCast, Bool.or_eq_true, Bool.and_eq_true, Bool.or_eq_false_iff, Bool.and_eq_false_iff, decide_eq_true_eq, decide_eq_false_iff_not, Bool.not_eq_true', Bool.not_eq_false', beq_iff_eq, beq_eq_false_iff_ne, bne_iff_ne, bne_eq_false_iff_eq, gt_iff_lt, ge_iff_le, ne_eq] at hc
      rw [f2 (by omega)]
      rfl

def frameR (l : List Int) : Bs × Int := if l.length ≤ 4000 then (frame l, 0) else ([], 2)
theorem pure8 (l : List Int) : ∀ e ∈ l.map (fun n => [AV.prim (.int .u8 n)]), ∀ a ∈ e, ∀ M B x, VRel M B a x → VRel M [] a x := by
  intro e he a ha M B x hx
  obtain ⟨n, _, rfl⟩ := List.mem_map.1 he
  obtain rfl := List.mem_singleton.1 ha
  rw [VRel.prim_eq hx]; exact .prim _
theorem head3 (n : Nat) (h : n < 16777216) (r : List (List AV)) : [[AV.prim (.int .u8 (IntKind.u8.wrap ((n : Int).tdiv 65536)))], [AV.prim (.int .u8 (IntKind.u8.wrap (((n : Int).tdiv 256).tmod 256)))], [AV.prim (.int .u8 (IntKind.u8.wrap ((n : Int).tmod 256)))]] ++ r = (be3 n).map by8 ++ r := by
  have h1 : (n : Int).tdiv 65536 = ((n / 65536 : Nat) : Int) := tdivN n 65536
  have h2 : (n : Int).tdiv 256 = ((n / 256 : Nat) : Int) := tdivN n 256
  have h3 : (n : Int).tmod 256 = ((n % 256 : Nat) : Int) := tmodN n 256
  have h4 : ((n / 256 : Nat) : Int).tmod 256 = ((n / 256 % 256 : Nat) : Int) := tmodN (n / 256) 256
  rw [h1, h2, h3, h4, wrap8, wrap8, wrap8]
  simp only [be3, List.map_cons, List.map_nil, by8, ofNat_toNat8]
  have q1 : ((n / 65536 : Nat) : Int) % 256 = (n / 65536 : Nat) % 256 := rfl
  have q2 : ((n / 256 % 256 : Nat) : Int) % 256 = ((n / 256 : Nat) : Int) % 256 := by omega
  have q3 : ((n % 256 : Nat) : Int) % 256 = (n : Int) % 256 := by omega
  rw [q2, q3]
set_option maxHeartbeats 1600000 in
theorem frame05_spec (l : List Int) (hi : ∀ n ∈ l, InI n) (hl : l.length ≤ 9223372036854775807) : PCall Try.prog 24 [.sl 1 (l.map encN) .no] (.tup [.sl 1 ((frameR l).1.map by8) .no, .int (frameR l).2]) := by
  have hv0 := put05_spec l hi hl
  refine PCall.body Try.func24 rfl rfl Try.ntmps24 rfl rfl ?_
  by_cases h4 : l.length ≤ 4000
  · have hp := putL_len (l := l) h4
    have hh : (headed l).length = (putL l).length + 3 := by simp [headed, be3]
    have hb3 : (be3 (putL l).length).length = 3 := rfl
    rw [show putR l = (putL l, 0) from if_pos h4] at hv0
    dsimp only at hv0
    have hv1 := sum04_spec (headed l) (by omega)
    have hv2 := bytes05_spec (fnv (headed l)) (fnv_lt _)
    have hb8 : (be8 (fnv (headed l))).length = 8 := by simp [be8]
    have e : (headed l).map by8 = (be3 (putL l).length).map by8 ++ (putL l).map by8 := by unfold headed; rw [List.map_append]
    rw [e, ← head3 (putL l).length (by omega)] at hv1
    repeat' (first
      | refine AOps.q rfl rfl rfl (fun hg => by first | exact std0 | exact PRun.callW (hv0) rfl rfl nd rfl nds | exact PRun.callW (hv1) rfl rfl nd rfl nds | exact PRun.callW (hv2) rfl rfl nd rfl nds | exact std1) (by exact rfl) ?_
      | refine AWP.seq ?_
      | refine AWP.regionK (fun K' hK => ?_)
      | (refine AOps.nil (hK _ _ ?_); clear hK K')
      | refine AOps.e (EStep.boxW rfl rfl rfl rfl rfl True.intro rfl rfl ?_)
      | refine AOps.e (EStep.storeW tabOk rfl rfl rfl True.intro rfl rfl True.intro rfl rfl rfl rfl rfl rfl rfl ?_)
      | refine AOps.e (EStep.allocW tabOk rfl rfl rfl rfl rfl rfl ?_)
      | refine AOps.e (EStep.appendOwn' tabOk rfl rfl rfl (by decide) (Rd.w rfl True.intro) rfl (Rd.w rfl True.intro) (.sl rfl (by first | (intro x hx; rcases List.mem_singleton.1 hx with rfl; rfl) | exact one_by8 _ | exact one_ints _)) (LOk.of (tabOk.get rfl)) (LOk.of (tabOk.get rfl)) rfl rfl (by simp only [List.length_map, List.length_append, List.length_cons, List.length_nil]; omega) (by simp only [List.length_map, List.length_append, List.length_cons, List.length_nil]; omega) ?_)
      | refine AOps.e (EStep.buildOwn tabOk rfl rfl rfl rfl rfl ⟨True.intro, True.intro, True.intro, True.intro⟩ (pure8 [_, _, _]) ?_)
      | (refine AWP.condW rfl True.intro (fun hc => ?_) (fun hc => ?_) <;> (first | (simp only [decide_eq_true_eq] at hc) | (simp only [decide_eq_false_iff_not, Int.not_lt, Int.not_le] at hc) | skip))
      | refine AWP.block ?_
      | refine AWP.exit ?_
      | refine AWP.skip ?_
      | refine AWP.ret ?_
      | refine AWP.drawK2 (by decide +kernel) (by kernel_rfl) (by decide +kernel) rfl (fun K' hK => ?_)
      | refine AWP.drawL2 (by kernel_rfl) (by decide +kernel) rfl (fun K' hK => ?_)
      | (refine AQ.nil (hK _ ?_); clear hK K')
      | refine AQ.nil ?_
      | refine AQ.q rfl rfl (fun hg => by first | exact std0 | exact PRun.callW (hv0) rfl rfl nd rfl nds | exact PRun.callW (hv1) rfl rfl nd rfl nds | exact PRun.callW (hv2) rfl rfl nd rfl nds | exact std1) (by exact rfl) ?_)
    · exfalso; simp at hc
    · refine ⟨.inr rfl, Ent.of ?_⟩
      rw [show frameR l = (frame l, 0) from if_pos h4]
      show AV.tup [.sl 1 ((_ ++ _) ++ (be8 (fnv (headed l))).map by8) .no, .int 0] = _
      rw [head3 (putL l).length (by omega), ← e, ← List.map_append]; rfl
  · rw [show putR l = ([], 2) from if_neg h4] at hv0
    repeat' (first
      | refine AOps.q rfl rfl rfl (fun hg => by first | exact std0 | exact PRun.callW (hv0) rfl rfl nd rfl nds | exact std1) (by exact rfl) ?_
      | refine AWP.seq ?_
      | refine AWP.regionK (fun K' hK => ?_)
      | (refine AOps.nil (hK _ _ ?_); clear hK K')
      | refine AOps.e (EStep.boxW rfl rfl rfl rfl rfl True.intro rfl rfl ?_)
      | refine AOps.e (EStep.storeW tabOk rfl rfl rfl True.intro rfl rfl True.intro rfl rfl rfl rfl rfl rfl rfl ?_)
      | refine AOps.e (EStep.allocW tabOk rfl rfl rfl rfl rfl rfl ?_)
      | (refine AWP.condW rfl True.intro (fun hc => ?_) (fun hc => ?_) <;> (first | (simp only [decide_eq_true_eq] at hc) | (simp only [decide_eq_false_iff_not, Int.not_lt, Int.not_le] at hc) | skip))
      | refine AWP.block ?_
      | refine AWP.exit ?_
      | refine AWP.skip ?_
      | refine AWP.ret ?_
      | refine AWP.drawK2 (by decide +kernel) (by kernel_rfl) (by decide +kernel) rfl (fun K' hK => ?_)
      | refine AWP.drawL2 (by kernel_rfl) (by decide +kernel) rfl (fun K' hK => ?_)
      | (refine AQ.nil (hK _ ?_); clear hK K')
      | refine AQ.nil ?_
      | refine AQ.q rfl rfl (fun hg => by first | exact std0 | exact PRun.callW (hv0) rfl rfl nd rfl nds | exact std1) (by exact rfl) ?_)
    · refine ⟨.inr rfl, ?_⟩
      rw [show frameR l = ([], 2) from if_neg h4]
      exact Ent.tup2 Ent.nil (Ent.rfl' _)
    all_goals (exfalso; simp at hc; done)
end Go.Proofs.Ytpkolkfglgalpaa
