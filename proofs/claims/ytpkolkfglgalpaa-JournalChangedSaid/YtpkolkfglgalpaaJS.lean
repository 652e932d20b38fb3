/- Contracts by content: events as integers: the reference. No statement is proved here. -/
import Derived.Test.YtpkolkfglgalpaaJR
import Derived.Test.YtpkolkfglgalpaaJB
import Derived.Test.YtpkolkfglgalpaaJK
set_option linter.unusedVariables false
set_option linter.unusedSimpArgs false
namespace Go.Ab
theorem pureAll {es : List (List AV)} (h : es.all (fun x => x.all isPrim) = true) : ∀ e ∈ es, ∀ a ∈ e, ∀ M B x, VRel M B a x → VRel M [] a x := fun e he a ha M B x hx => by
  have h1 := List.all_eq_true.1 (List.all_eq_true.1 h e he) a ha
  cases a <;> simp [isPrim] at h1
  rw [VRel.prim_eq hx]; exact .prim _
end Go.Ab
namespace Go.Proofs.Ytpkolkfglgalpaa
open Go.Ab Go.Jo
attribute [local irreducible] AWP AOps EStep AQ PStep PRun PCall TCall VCall DStep TDies AWD DCall

def ints12 (e : Ev) : List Int := [e.clock, e.stand, e.kind, e.mark.id, e.mark.kind, e.mark.layer, e.mark.who.part, e.mark.who.desk, e.mark.who.seat, e.mark.version, e.mark.note, e.mark.value]
theorem ints_mark {e : Ev} (h : e.kind = 1) : ints e = ints12 e ++ txt e.mark.text := by unfold ints; rw [if_pos h]; rfl
theorem ints_other {e : Ev} (h : e.kind ≠ 1) : ints e = [e.clock, e.stand, e.kind, e.n] := by unfold ints; rw [if_neg h]; rfl
abbrev row9 (e : Ev) : List (List AV) := [[.int e.mark.id], [.int e.mark.kind], [.int e.mark.layer], [.int e.mark.who.part], [.int e.mark.who.desk], [.int e.mark.who.seat], [.int e.mark.version], [.int e.mark.note], [.int e.mark.value]]
abbrev T10 : True ∧ True ∧ True ∧ True ∧ True ∧ True ∧ True ∧ True ∧ True ∧ True := ⟨True.intro, True.intro, True.intro, True.intro, True.intro, True.intro, True.intro, True.intro, True.intro, True.intro⟩
theorem txt_take {t : Bs} {k : Nat} (h : k < t.length) : (txt t).take (k + 1) = (txt t).take k ++ [((t.getD k 0).toNat : Int)] := by
  have h2 : k < (txt t).length := by simpa [txt] using h
  rw [List.take_succ_eq_append_getElem h2]
  simp [txt, List.getD, h]
theorem txt_all (t : Bs) : (txt t).take t.length = txt t := List.take_of_length_le (by simp [txt])
set_option maxHeartbeats 800000 in
set_option maxRecDepth 20000 in
theorem ints23_spec (e : Ev) (ht : e.mark.text.length ≤ 300) : PCall Try.prog 28 [.agg (encE e)] (.sl 1 ((ints e).map encN) .no) := by
  have hsz : (⟨e.mark.text.toArray⟩ : ByteArray).size = e.mark.text.length := by simp [ByteArray.size]
  refine PCall.body Try.func28 rfl rfl Try.ntmps28 rfl rfl ?_
  repeat' (first
    | refine AOps.q rfl rfl rfl (fun hg => by first | exact std0 | exact std1) (by exact rfl) ?_
    | refine AWP.seq ?_
    | refine AWP.regionK (fun K' hK => ?_)
    | (refine AOps.nil (hK _ _ ?_); clear hK K')
    | refine AOps.e (EStep.boxW rfl rfl rfl rfl rfl True.intro rfl rfl ?_)
    | refine AOps.e (EStep.storeW tabOk rfl rfl rfl True.intro rfl rfl True.intro rfl rfl rfl rfl rfl rfl rfl ?_)
    | refine AOps.e (EStep.allocW tabOk rfl rfl rfl rfl rfl rfl ?_)
    | refine AOps.e (EStep.appendOwn' tabOk rfl rfl rfl (by decide) (Rd.w rfl True.intro) rfl (Rd.w rfl True.intro) (.sl rfl (by first | (intro x hx; rcases List.mem_singleton.1 hx with rfl; rfl) | exact one_by8 _ | exact one_ints _)) (LOk.of (tabOk.get rfl)) (LOk.of (tabOk.get rfl)) rfl rfl (by simp only [List.length_map, List.length_append, List.length_cons, List.length_nil]; omega) (by simp only [List.length_map, List.length_append, List.length_cons, List.length_nil]; omega) ?_)
    | refine AOps.e (EStep.buildOwn (m := 9) (sz := 1) (es := row9 e) tabOk rfl rfl rfl rfl (by kernel_rfl) T10 (pureAll rfl) ?_)
    | refine AOps.e (EStep.buildOwn (m := 3) tabOk rfl rfl rfl rfl rfl ⟨True.intro, True.intro, True.intro, True.intro⟩ (pureAll rfl) ?_)
    | refine AOps.e (EStep.buildOwn (m := 1) tabOk rfl rfl rfl rfl rfl ⟨True.intro, True.intro⟩ (pureAll rfl) ?_)
    | refine AOps.e (EStep.appendOwn' tabOk rfl rfl rfl (by decide) (Rd.w rfl True.intro) rfl (Rd.w rfl True.intro) (.sl rfl (one_cell rfl)) (LOk.of (tabOk.get rfl)) (LOk.of (tabOk.get rfl)) rfl rfl (by simp only [List.length_map, List.length_append, List.length_cons, List.length_nil]; omega) (by simp only [List.length_map, List.length_append, List.length_cons, List.length_nil]; omega) ?_)
    | (refine AWP.condW rfl True.intro (fun hc => ?_) (fun hc => ?_) <;> (first | (simp only [decide_eq_true_eq] at hc) | (simp only [decide_eq_false_iff_not, Int.not_lt, Int.not_le] at hc) | skip))
    | refine AWP.block ?_
    | refine AWP.exit ?_
    | refine AWP.skip ?_
    | refine AWP.ret ?_
    | refine AWP.drawK2 (by decide +kernel) (by kernel_rfl) (by decide +kernel) rfl (fun K' hK => ?_)
    | refine AWP.drawL2 (by kernel_rfl) (by decide +kernel) rfl (fun K' hK => ?_)
    | (refine AQ.nil (hK _ ?_); clear hK K')
    | refine AQ.nil ?_
    | refine AQ.q rfl rfl (fun hg => by first | exact std0 | exact std1) (by exact rfl) ?_)
  · refine ⟨.inr rfl, Ent.of ?_⟩
    rw [ints_other (by simpa using hc)]; rfl
  have h1 : e.kind = 1 := by simpa using hc
  clear hc
  refine AWP.loopW (ι := Nat) (fun k => [(3, .sl 1 ((ints12 e ++ (txt e.mark.text).take k).map encN) (.own 1)), (4, .ptr 2 0), (5, .int k)]) (fun k => [.var (encE e), .own 1 ((ints12 e ++ (txt e.mark.text).take k).map encN).length, .var (encM e.mark), .own 1 9]) (fun k => k ≤ e.mark.text.length) (fun k => e.mark.text.length - k) 0 (Nat.zero_le _) ⟨rfl, rfl, rfl, True.intro⟩ rfl ?_
  intro k hk
  have hl : ((ints12 e ++ (txt e.mark.text).take k).map encN).length ≤ 400 := by
    simp [ints12, txt]; omega
  by_cases hlt : k < e.mark.text.length
  · have ht' := txt_take hlt
    have e1 : ints12 e ++ (txt e.mark.text).take (k + 1) = (ints12 e ++ (txt e.mark.text).take k) ++ [((e.mark.text.getD k 0).toNat : Int)] := by rw [ht', List.append_assoc]
    have e2 : (ints12 e ++ (txt e.mark.text).take (k + 1)).map encN = (ints12 e ++ (txt e.mark.text).take k).map encN ++ [encN ((e.mark.text.getD k 0).toNat : Int)] := by rw [e1, List.map_append]; rfl
    repeat' (first
      | refine AOps.q rfl rfl rfl (fun hg => by first | exact PRun.convV tabOk (cv8 _) rfl rfl nd rfl rfl | exact std0 | exact PRun.buildSlW tabOk rfl rfl nds | exact std1) (by exact rfl) ?_
      | refine AWP.seq ?_
      | refine AWP.regionK (fun K' hK => ?_)
      | (refine AOps.nil (hK _ _ ?_); clear hK K')
      | refine AOps.e (EStep.boxW rfl rfl rfl rfl rfl True.intro rfl rfl ?_)
      | refine AOps.e (EStep.storeW tabOk rfl rfl rfl True.intro rfl rfl True.intro rfl rfl rfl rfl rfl rfl rfl ?_)
      | refine AOps.e (EStep.allocW tabOk rfl rfl rfl rfl rfl rfl ?_)
      | refine AOps.e (EStep.appendOwn' tabOk rfl rfl rfl (by decide) (Rd.w rfl True.intro) rfl (Rd.w rfl True.intro) (.sl rfl (by intro x hx; rcases List.mem_singleton.1 hx with rfl; rfl)) (LOk.of (tabOk.get rfl)) (LOk.of (tabOk.get rfl)) rfl rfl (by simp only [List.length_cons, List.length_nil]; omega) (by simp only [List.length_cons, List.length_nil]; omega) ?_)
      | (refine AWP.condW rfl True.intro (fun hc => ?_) (fun hc => ?_) <;> (first | (simp only [decide_eq_true_eq] at hc) | (simp only [decide_eq_false_iff_not, Int.not_lt, Int.not_le] at hc) | skip))
      | refine AWP.block ?_
      | refine AWP.exit ?_
      | refine AWP.skip ?_
      | refine AWP.ret ?_
      | refine AWP.drawK2 (by decide +kernel) (by kernel_rfl) (by decide +kernel) rfl (fun K' hK => ?_)
      | refine AWP.drawL2 (by kernel_rfl) (by decide +kernel) rfl (fun K' hK => ?_)
      | (refine AQ.nil (hK _ ?_); clear hK K')
      | refine AQ.nil ?_
      | refine AQ.q rfl rfl (fun hg => by first | exact PRun.convV tabOk (cv8 _) rfl rfl nd rfl rfl | exact std0 | exact PRun.buildSlW tabOk rfl rfl nds | exact std1) (by exact rfl) ?_)
    · refine ⟨k + 1, by omega, by omega, ⟨?_, rfl, rfl, True.intro⟩, ?_⟩
      · rw [e2]; rfl
      · rw [e2]; rfl
    · exfalso; rw [hsz] at hc; omega
  · repeat' (first
      | refine AOps.q rfl rfl rfl (fun hg => by first | exact std0 | exact std1) (by exact rfl) ?_
      | refine AWP.seq ?_
      | refine AWP.regionK (fun K' hK => ?_)
      | (refine AOps.nil (hK _ _ ?_); clear hK K')
      | refine AOps.e (EStep.boxW rfl rfl rfl rfl rfl True.intro rfl rfl ?_)
      | refine AOps.e (EStep.storeW tabOk rfl rfl rfl True.intro rfl rfl True.intro rfl rfl rfl rfl rfl rfl rfl ?_)
      | refine AOps.e (EStep.allocW tabOk rfl rfl rfl rfl rfl rfl ?_)
      | (refine AWP.condW rfl True.intro (fun hc => ?_) (fun hc => ?_) <;> (first | (simp only [decide_eq_true_eq] at hc) | (simp only [decide_eq_false_iff_not, Int.not_lt, Int.not_le] at hc) | skip))
      | refine AWP.block ?_
      | refine AWP.exit ?_
      | refine AWP.skip ?_
      | refine AWP.ret ?_
      | refine AWP.drawK2 (by decide +kernel) (by kernel_rfl) (by decide +kernel) rfl (fun K' hK => ?_)
      | refine AWP.drawL2 (by kernel_rfl) (by decide +kernel) rfl (fun K' hK => ?_)
      | (refine AQ.nil (hK _ ?_); clear hK K')
      | refine AQ.nil ?_
      | refine AQ.q rfl rfl (fun hg => by first | exact std0 | exact std1) (by exact rfl) ?_)
    · exfalso; rw [hsz] at hc; omega
    · have hkl : k = e.mark.text.length := by omega
      subst hkl
      refine ⟨.inr rfl, Ent.of ?_⟩
      have e3 : ints12 e ++ txt e.mark.text = ints12 e ++ (txt e.mark.text).take e.mark.text.length := by rw [txt_all]
      rw [ints_mark h1, e3]; rfl
def intsR (e : Ev) : List Int × Int := if evOk e then (ints e, 0) else ([], 1)
theorem intsR23_spec (e : Ev) (ht : e.mark.text.length ≤ 300) : PCall Try.prog 13 [.agg (encE e)] (tupLI (intsR e).1 (intsR e).2) := by
  have hv := event22_spec e (by omega)
  have hw := ints23_spec e ht
  refine PCall.body Try.func13 rfl rfl Try.ntmps13 rfl rfl ?_
  repeat' (first
    | refine AOps.q rfl rfl rfl (fun hg => by first | exact std0 | exact PRun.callW (hv) rfl rfl nd rfl nds | exact PRun.callW (hw) rfl rfl nd rfl nds | exact std1) (by exact rfl) ?_
    | refine AWP.seq ?_
    | refine AWP.regionK (fun K' hK => ?_)
    | (refine AOps.nil (hK _ _ ?_); clear hK K')
    | refine AOps.e (EStep.boxW rfl rfl rfl rfl rfl True.intro rfl rfl ?_)
    | refine AOps.e (EStep.storeW tabOk rfl rfl rfl True.intro rfl rfl True.intro rfl rfl rfl rfl rfl rfl rfl ?_)
    | refine AOps.e (EStep.allocW tabOk rfl rfl rfl rfl rfl rfl ?_)
    | (refine AWP.condW rfl True.intro (fun hc => ?_) (fun hc => ?_) <;> (first | (simp only [decide_eq_true_eq] at hc) | (simp only [decide_eq_false_iff_not, Int.not_lt, Int.not_le] at hc) | skip))
    | refine AWP.block ?_
    | refine AWP.exit ?_
    | refine AWP.skip ?_
    | refine AWP.ret ?_
    | refine AWP.drawK2 (by decide +kernel) (by kernel_rfl) (by decide +kernel) rfl (fun K' hK => ?_)
    | refine AWP.drawL2 (by kernel_rfl) (by decide +kernel) rfl (fun K' hK => ?_)
    | (refine AQ.nil (hK _ ?_); clear hK K')
    | refine AQ.nil ?_
    | refine AQ.q rfl rfl (fun hg => by first | exact std0 | exact PRun.callW (hv) rfl rfl nd rfl nds | exact PRun.callW (hw) rfl rfl nd rfl nds | exact std1) (by exact rfl) ?_)
  · have h : evOk e = false := by simpa using hc
    refine ⟨.inr rfl, ?_⟩
    rw [show intsR e = ([], 1) by unfold intsR; rw [h]; rfl]
    exact Ent.tup2 Ent.nil (Ent.rfl' _)
  · have h : evOk e = true := by simpa using hc
    refine ⟨.inr rfl, Ent.of ?_⟩
    rw [show intsR e = (ints e, 0) by unfold intsR; rw [h]; rfl]; rfl
def textR (l : List Int) : Bs × Bool := if l.all (fun n => inR n 32 126) then (untxt l, true) else ([], false)
theorem byteN {n : Int} (h : inR n 32 126 = true) : IntKind.u8.wrap n = ((UInt8.ofNat n.toNat).toNat : Int) := by
  unfold inR at h
  simp only [Bool.and_eq_true, decide_eq_true_eq] at h
  rw [ofNat_toNat8, IntKind.wrap_u8]; omega
theorem textR_bad {l : List Int} {k : Nat} (hk : k < l.length) (h : inR (l.getD k default) 32 126 = false) : textR l = ([], false) := by
  unfold textR
  rw [if_neg]
  intro ha
  have := List.all_eq_true.1 ha (l.getD k default) (by simp [List.getD, hk])
  rw [h] at this; cases this
theorem text23_spec (l : List Int) (hl : l.length ≤ 1000) : PCall Try.prog 32 [.sl 1 (l.map encN) .no] (.tup [.bs (textR l).1, .b (textR l).2]) := by
  refine PCall.body Try.func32 rfl rfl Try.ntmps32 rfl rfl ?_
  repeat' (first
    | refine AOps.q rfl rfl rfl (fun hg => by first | exact std0 | exact std1) (by exact rfl) ?_
    | refine AWP.seq ?_
    | refine AWP.regionK (fun K' hK => ?_)
    | (refine AOps.nil (hK _ _ ?_); clear hK K')
    | refine AOps.e (EStep.boxW rfl rfl rfl rfl rfl True.intro rfl rfl ?_)
    | refine AOps.e (EStep.storeW tabOk rfl rfl rfl True.intro rfl rfl True.intro rfl rfl rfl rfl rfl rfl rfl ?_)
    | refine AOps.e (EStep.allocW tabOk rfl rfl rfl rfl rfl rfl ?_)
    | (refine AWP.condW rfl True.intro (fun hc => ?_) (fun hc => ?_) <;> (first | (simp only [decide_eq_true_eq] at hc) | (simp only [decide_eq_false_iff_not, Int.not_lt, Int.not_le] at hc) | skip))
    | refine AWP.block ?_
    | refine AWP.exit ?_
    | refine AWP.skip ?_
    | refine AWP.ret ?_
    | refine AWP.drawK2 (by decide +kernel) (by kernel_rfl) (by decide +kernel) rfl (fun K' hK => ?_)
    | refine AWP.drawL2 (by kernel_rfl) (by decide +kernel) rfl (fun K' hK => ?_)
    | (refine AQ.nil (hK _ ?_); clear hK K')
    | refine AQ.nil ?_
    | refine AQ.q rfl rfl (fun hg => by first | exact std0 | exact std1) (by exact rfl) ?_)
  refine AWP.ownNil (d := 4) (sz := 1) rfl ?_
  repeat' (first
    | refine AOps.q rfl rfl rfl (fun hg => by first | exact std0 | exact std1) (by exact rfl) ?_
    | refine AWP.seq ?_
    | refine AWP.regionK (fun K' hK => ?_)
    | (refine AOps.nil (hK _ _ ?_); clear hK K')
    | refine AOps.e (EStep.boxW rfl rfl rfl rfl rfl True.intro rfl rfl ?_)
    | refine AOps.e (EStep.storeW tabOk rfl rfl rfl True.intro rfl rfl True.intro rfl rfl rfl rfl rfl rfl rfl ?_)
    | refine AOps.e (EStep.allocW tabOk rfl rfl rfl rfl rfl rfl ?_)
    | (refine AWP.condW rfl True.intro (fun hc => ?_) (fun hc => ?_) <;> (first | (simp only [decide_eq_true_eq] at hc) | (simp only [decide_eq_false_iff_not, Int.not_lt, Int.not_le] at hc) | skip))
    | refine AWP.block ?_
    | refine AWP.exit ?_
    | refine AWP.skip ?_
    | refine AWP.ret ?_
    | refine AWP.drawK2 (by decide +kernel) (by kernel_rfl) (by decide +kernel) rfl (fun K' hK => ?_)
    | refine AWP.drawL2 (by kernel_rfl) (by decide +kernel) rfl (fun K' hK => ?_)
    | (refine AQ.nil (hK _ ?_); clear hK K')
    | refine AQ.nil ?_
    | refine AQ.q rfl rfl (fun hg => by first | exact std0 | exact std1) (by exact rfl) ?_)
  refine AWP.loopW (ι := Nat) (fun k => [(0, .sl 1 (l.map encN) .no), (4, .sl 1 ((untxt (l.take k)).map by8) (.own 0)), (5, .int k)]) (fun k => [.own 1 ((untxt (l.take k)).map by8).length]) (fun k => k ≤ l.length ∧ (l.take k).all (fun n => inR n 32 126) = true) (fun k => l.length - k) 0 ⟨Nat.zero_le _, rfl⟩ ⟨rfl, rfl, rfl, True.intro⟩ rfl ?_
  rintro k ⟨hk, hall⟩
  have hlen : ((untxt (l.take k)).map by8).length = k := by simp [untxt]; omega
  by_cases hlt : k < l.length
  · repeat' (first
      | refine AOps.q rfl rfl rfl (fun hg => by first | exact std0 | exact PRun.buildSlW tabOk rfl rfl nds | exact std1) (by exact rfl) ?_
      | refine AWP.seq ?_
      | refine AWP.regionK (fun K' hK => ?_)
      | (refine AOps.nil (hK _ _ ?_); clear hK K')
      | refine AOps.e (EStep.boxW rfl rfl rfl rfl rfl True.intro rfl rfl ?_)
      | refine AOps.e (EStep.storeW tabOk rfl rfl rfl True.intro rfl rfl True.intro rfl rfl rfl rfl rfl rfl rfl ?_)
      | refine AOps.e (EStep.allocW tabOk rfl rfl rfl rfl rfl rfl ?_)
      | refine AOps.e (EStep.appendOwn' tabOk rfl rfl rfl (by decide) (Rd.w rfl True.intro) rfl (Rd.w rfl True.intro) (.sl rfl (by intro x hx; rcases List.mem_singleton.1 hx with rfl; rfl)) (LOk.of (tabOk.get rfl)) (LOk.of (tabOk.get rfl)) rfl rfl (by simp only [List.length_cons, List.length_nil]; omega) (by simp only [List.length_cons, List.length_nil]; omega) ?_)
      | (refine AWP.condW rfl True.intro (fun hc => ?_) (fun hc => ?_) <;> (first | (simp only [decide_eq_true_eq] at hc) | (simp only [decide_eq_false_iff_not, Int.not_lt, Int.not_le] at hc) | skip))
      | refine AWP.block ?_
      | refine AWP.exit ?_
      | refine AWP.skip ?_
      | refine AWP.ret ?_
      | refine AWP.drawK2 (by decide +kernel) (by kernel_rfl) (by decide +kernel) rfl (fun K' hK => ?_)
      | refine AWP.drawL2 (by kernel_rfl) (by decide +kernel) rfl (fun K' hK => ?_)
      | (refine AQ.nil (hK _ ?_); clear hK K')
      | refine AQ.nil ?_
      | refine AQ.q rfl rfl (fun hg => by first | exact std0 | exact PRun.buildSlW tabOk rfl rfl nds | exact std1) (by exact rfl) ?_)
    · refine ⟨.inr rfl, ?_⟩
      rw [textR_bad hlt (by unfold inR; simp only [Int.toNat_natCast, Bool.or_eq_true, Bool.and_eq_true, Bool.or_eq_false_iff, Bool.and_eq_false_iff, decide_eq_true_eq, decide_eq_false_iff_not, Bool.not_eq_true', Bool.not_eq_false', beq_iff_eq, beq_eq_false_iff_ne, bne_iff_ne, bne_eq_false_iff_eq, gt_iff_lt, ge_iff_le, ne_eq] at hc; simp only [Bool.and_eq_false_iff, decide_eq_false_iff_not]; omega)]
      exact Ent.rfl' _
    · have hin : inR (l.getD k default) 32 126 = true := by unfold inR; simp only [Int.toNat_natCast, Bool.or_eq_true, Bool.and_eq_true, Bool.or_eq_false_iff, Bool.and_eq_false_iff, decide_eq_true_eq, decide_eq_false_iff_not, Bool.not_eq_true', Bool.not_eq_false', beq_iff_eq, beq_eq_false_iff_ne, bne_iff_ne, bne_eq_false_iff_eq, gt_iff_lt, ge_iff_le, ne_eq] at hc; simp only [Bool.and_eq_true, decide_eq_true_eq]; omega
      have e1 : (untxt (l.take (k + 1))).map by8 = (untxt (l.take k)).map by8 ++ [by8 (UInt8.ofNat (l.getD k default).toNat)] := by
        rw [List.take_succ_eq_append_getElem hlt, getD_lt hlt]; unfold untxt; rw [List.map_append, List.map_append]; rfl
      refine ⟨k + 1, ⟨by omega, ?_⟩, by omega, ⟨rfl, ?_, rfl, True.intro⟩, ?_⟩
      · rw [List.take_succ_eq_append_getElem hlt, List.all_append, hall, ← getD_lt hlt]; simp only [List.all_cons, List.all_nil, hin]; rfl
      · rw [e1]
        show AV.sl 1 (_ ++ [[AV.prim (.int .u8 (IntKind.u8.wrap (l.getD k default)))]]) _ = _
        rw [byteN hin]
      · rw [e1]
        show [AObj.own 1 _] = [AObj.own 1 _]
        rw [List.length_append, List.length_append]; rfl
    · exfalso; omega
  · repeat' (first
      | refine AOps.q rfl rfl rfl (fun hg => by first | exact std0 | exact PRun.bytesStr tabOk rfl rfl nd rfl rfl rfl | exact std1) (by exact rfl) ?_
      | refine AWP.seq ?_
      | refine AWP.regionK (fun K' hK => ?_)
      | (refine AOps.nil (hK _ _ ?_); clear hK K')
      | refine AOps.e (EStep.boxW rfl rfl rfl rfl rfl True.intro rfl rfl ?_)
      | refine AOps.e (EStep.storeW tabOk rfl rfl rfl True.intro rfl rfl True.intro rfl rfl rfl rfl rfl rfl rfl ?_)
      | refine AOps.e (EStep.allocW tabOk rfl rfl rfl rfl rfl rfl ?_)
      | (refine AWP.condW rfl True.intro (fun hc => ?_) (fun hc => ?_) <;> (first | (simp only [decide_eq_true_eq] at hc) | (simp only [decide_eq_false_iff_not, Int.not_lt, Int.not_le] at hc) | skip))
      | refine AWP.block ?_
      | refine AWP.exit ?_
      | refine AWP.skip ?_
      | refine AWP.ret ?_
      | refine AWP.drawK2 (by decide +kernel) (by kernel_rfl) (by decide +kernel) rfl (fun K' hK => ?_)
      | refine AWP.drawL2 (by kernel_rfl) (by decide +kernel) rfl (fun K' hK => ?_)
      | (refine AQ.nil (hK _ ?_); clear hK K')
      | refine AQ.nil ?_
      | refine AQ.q rfl rfl (fun hg => by first | exact std0 | exact PRun.bytesStr tabOk rfl rfl nd rfl rfl rfl | exact std1) (by exact rfl) ?_)
    all_goals (first | (exfalso; omega) | skip)
    have hkl : l.take k = l := List.take_of_length_le (by omega)
    rw [hkl] at hall ⊢
    refine ⟨.inr rfl, Ent.of ?_⟩
    rw [show textR l = (untxt l, true) from if_pos hall]; rfl
end Go.Proofs.Ytpkolkfglgalpaa
