/- Contracts by content: the journal of the reference: one event more, all events. No statement is proved here. -/
import Derived.Test.YtpkolkfglgalpaaJT
set_option linter.unusedVariables false
set_option linter.unusedSimpArgs false
namespace Go.Proofs.Ytpkolkfglgalpaa
open Go.Ab Go.Jo
attribute [local irreducible] AWP AOps EStep AQ PStep PRun PCall TCall VCall DStep TDies AWD DCall

theorem frameR_ev {e : Ev} (h : evOk e = true) : frameR (ints e) = (fr e, 0) := if_pos (by have := (fr_ok h).1; exact this)
def appendR (f : Bs) (e : Ev) : Bs × Int := if evOk e then (if 200000 < f.length + (fr e).length then ([], 2) else (f ++ fr e, 0)) else ([], 1)
abbrev tupBI (b : Bs) (n : Int) : AV := .tup [.sl 1 (b.map by8) .no, .int n]
set_option maxHeartbeats 1600000 in
theorem append23_spec (f : Bs) (e : Ev) (hf : f.length ≤ 4611686018427387904) (ht : e.mark.text.length ≤ 300) : PCall Try.prog 18 [.sl 1 (f.map by8) .no, .agg (encE e)] (tupBI (appendR f e).1 (appendR f e).2) := by
  have hv := intsR23_spec e ht
  refine PCall.body Try.func18 rfl rfl Try.ntmps18 rfl rfl ?_
  cases he : evOk e with
  | false =>
    rw [show intsR e = ([], 1) by unfold intsR; rw [he]; rfl] at hv
    rw [show appendR f e = ([], 1) by unfold appendR; rw [he]; rfl]
    dsimp only at hv
    repeat' (first
      | refine AOps.q rfl rfl rfl (fun hg => by first | exact std0 | exact PRun.callW (hv) rfl rfl nd rfl nds | exact std1) (by exact rfl) ?_
      | refine AWP.seq ?_
      | refine AWP.regionK (fun K' hK => ?_)
      | (refine AOps.nil (hK _ _ ?_); clear hK K')
      | refine AOps.e (EStep.boxW rfl rfl rfl rfl rfl True.intro rfl rfl ?_)
      | refine AOps.e (EStep.storeW tabOk rfl rfl rfl True.intro rfl rfl True.intro rfl rfl rfl rfl rfl rfl rfl ?_)
      | refine AOps.e (EStep.allocW tabOk rfl rfl rfl rfl rfl rfl ?_)
      | (refine AWP.condW rfl True.intro (fun hc => ?_) (fun hc => ?_) <;> (first | (simp only [decide_eq_true_eq] at hc) | (simp only [decide_eq_false_iff_not, Int.not_lt, Int.not_le] at hc) | skip))
      | refine AWP.block ?_
      | refine AWP.exit ?_
      | refine AWP.skip ?_
      | refine AWP.ret ?_
      | refine AWP.drawK2 (by decide +kernel) (by kernel_rfl) (by decide +kernel) rfl (fun K' hK => ?_)
      | refine AWP.drawL2 (by kernel_rfl) (by decide +kernel) rfl (fun K' hK => ?_)
      | (refine AQ.nil (hK _ ?_); clear hK K')
      | refine AQ.nil ?_
      | refine AQ.q rfl rfl (fun hg => by first | exact std0 | exact PRun.callW (hv) rfl rfl nd rfl nds | exact std1) (by exact rfl) ?_)
    · exact ⟨.inr rfl, Ent.tup2 Ent.nil (Ent.rfl' _)⟩
    all_goals (exfalso; simp at hc; done)
  | true =>
    rw [show intsR e = (ints e, 0) by unfold intsR; rw [he]; rfl] at hv
    have hw := frame05_spec (ints e) (fr_ok he).2 (by have := (fr_ok he).1; have : maxInts = 4000 := rfl; omega)
    have hfl : (fr e).length ≤ 40021 := by unfold fr; rw [frame_len]; have := putL_len (fr_ok he).1; omega
    rw [frameR_ev he] at hw
    dsimp only at hv hw
    repeat' (first
      | refine AOps.q rfl rfl rfl (fun hg => by first | exact std0 | exact PRun.callW (hv) rfl rfl nd rfl nds | exact PRun.callW (hw) rfl rfl nd rfl nds | exact std1) (by exact rfl) ?_
      | refine AWP.seq ?_
      | refine AWP.regionK (fun K' hK => ?_)
      | (refine AOps.nil (hK _ _ ?_); clear hK K')
      | refine AOps.e (EStep.boxW rfl rfl rfl rfl rfl True.intro rfl rfl ?_)
      | refine AOps.e (EStep.storeW tabOk rfl rfl rfl True.intro rfl rfl True.intro rfl rfl rfl rfl rfl rfl rfl ?_)
      | refine AOps.e (EStep.allocW tabOk rfl rfl rfl rfl rfl rfl ?_)
      | refine AOps.e (EStep.appendOwn' tabOk rfl rfl rfl (by decide) (Rd.w rfl True.intro) rfl (Rd.w rfl True.intro) (.sl rfl (by first | (intro x hx; rcases List.mem_singleton.1 hx with rfl; rfl) | exact one_by8 _ | exact one_ints _)) (LOk.of (tabOk.get rfl)) (LOk.of (tabOk.get rfl)) rfl rfl (by simp only [List.length_map, List.length_append, List.length_cons, List.length_nil]; omega) (by simp only [List.length_map, List.length_append, List.length_cons, List.length_nil]; omega) ?_)
      | refine AOps.e (EStep.buildOwn (m := 0) tabOk rfl rfl rfl rfl rfl True.intro (pureAll rfl) ?_)
      | (refine AWP.condW rfl True.intro (fun hc => ?_) (fun hc => ?_) <;> (first | (simp only [decide_eq_true_eq] at hc) | (simp only [decide_eq_false_iff_not, Int.not_lt, Int.not_le] at hc) | skip))
      | refine AWP.block ?_
      | refine AWP.exit ?_
      | refine AWP.skip ?_
      | refine AWP.ret ?_
      | refine AWP.drawK2 (by decide +kernel) (by kernel_rfl) (by decide +kernel) rfl (fun K' hK => ?_)
      | refine AWP.drawL2 (by kernel_rfl) (by decide +kernel) rfl (fun K' hK => ?_)
      | (refine AQ.nil (hK _ ?_); clear hK K')
      | refine AQ.nil ?_
      | refine AQ.q rfl rfl (fun hg => by first | exact std0 | exact PRun.callW (hv) rfl rfl nd rfl nds | exact PRun.callW (hw) rfl rfl nd rfl nds | exact std1) (by exact rfl) ?_)
    · exfalso; simp at hc
    · refine ⟨.inr rfl, ?_⟩
      rw [show appendR f e = ([], 2) by unfold appendR; rw [he, if_pos rfl, if_pos (by omega)]]
      exact Ent.tup2 Ent.nil (Ent.rfl' _)
    · refine ⟨.inr rfl, Ent.of ?_⟩
      rw [show appendR f e = (f ++ fr e, 0) by unfold appendR; rw [he, if_pos rfl, if_neg (by omega)]]
      show AV.tup [.sl 1 (([] ++ f.map by8) ++ (fr e).map by8) .no, .int 0] = _
      rw [List.nil_append, ← List.map_append]
theorem frames_all : ∀ (m : Nat) (b : Bs), b.length < m → (frames b).1.length ≤ b.length ∧ ∀ l ∈ (frames b).1, l.length ≤ 4000 ∧ ∀ n ∈ l, InI n
  | 0, b, h => by omega
  | m + 1, b, h => by
    cases hw : whole b with
    | none => rw [frames_none hw]; simp
    | some p =>
      obtain ⟨l, n⟩ := p
      obtain ⟨h1, h2⟩ := whole_len hw
      obtain ⟨k1, k2, _⟩ := whole_inv hw
      have ih := frames_all m (b.drop n) (by rw [List.length_drop]; omega)
      rw [List.length_drop] at ih
      rw [frames_some hw]
      refine ⟨by simp only [List.length_cons]; omega, fun x hx => ?_⟩
      rcases List.mem_cons.1 hx with rfl | hx
      · exact ⟨k1, k2⟩
      · exact ih.2 x hx
def loadR (b : Bs) : List Ev × Int × Int := if 200000 < b.length then ([], 0, 2) else ((Jo.load b).1, (((Jo.load b).2 : Nat) : Int), 0)
abbrev tupEv (r : List Ev × Int × Int) : AV := .tup [.sl 14 (r.1.map encE) .no, .int r.2.1, .int r.2.2]
theorem loadR_in {b : Bs} (h : ¬ 200000 < b.length) : loadR b = ((Jo.load b).1, (((Jo.load b).2 : Nat) : Int), 0) := if_neg h
theorem eventR_some {l : List Int} {e : Ev} (h : event l = some e) : eventR l = (e, 0) := by unfold eventR; rw [h]
theorem eventR_none {l : List Int} (h : event l = none) : eventR l = (noEv, 7) := by unfold eventR; rw [h]
theorem loadL_step {ls : List (List Int)} {k : Nat} (h : k < ls.length) : loadL (ls.drop k) = match event (ls.getD k default) with
    | some e => (e :: (loadL (ls.drop (k + 1))).1, (frame (ls.getD k default)).length + (loadL (ls.drop (k + 1))).2)
    | none => ([], 0) := by
  rw [List.drop_eq_getElem_cons h, getD_lt h]
  simp only [loadL]
  cases event ls[k] <;> rfl
set_option maxHeartbeats 3200000 in
set_option maxRecDepth 20000 in
theorem load23_spec (b : Bs) (hb : b.length ≤ 4611686018427387904) : PCall Try.prog 20 [.sl 1 (b.map by8) .no] (tupEv (loadR b)) := by
  have hv := frames05_spec b hb
  refine PCall.body Try.func20 rfl rfl Try.ntmps20 rfl rfl ?_
  by_cases h2 : 200000 < b.length
  · rw [show framesR b = ([], 0, 2) from if_pos h2] at hv
    rw [show loadR b = ([], 0, 2) from if_pos h2]
    simp only [tupFR] at hv
    repeat' (first
      | refine AOps.q rfl rfl rfl (fun hg => by first | exact std0 | exact PRun.callW (hv) rfl rfl nd rfl nds | exact std1) (by exact rfl) ?_
      | refine AWP.seq ?_
      | refine AWP.regionK (fun K' hK => ?_)
      | (refine AOps.nil (hK _ _ ?_); clear hK K')
      | refine AOps.e (EStep.boxW rfl rfl rfl rfl rfl True.intro rfl rfl ?_)
      | refine AOps.e (EStep.storeW tabOk rfl rfl rfl True.intro rfl rfl True.intro rfl rfl rfl rfl rfl rfl rfl ?_)
      | refine AOps.e (EStep.allocW tabOk rfl rfl rfl rfl rfl rfl ?_)
      | (refine AWP.condW rfl True.intro (fun hc => ?_) (fun hc => ?_) <;> (first | (simp only [decide_eq_true_eq] at hc) | (simp only [decide_eq_false_iff_not, Int.not_lt, Int.not_le] at hc) | skip))
      | refine AWP.block ?_
      | refine AWP.exit ?_
      | refine AWP.skip ?_
      | refine AWP.ret ?_
      | refine AWP.drawK2 (by decide +kernel) (by kernel_rfl) (by decide +kernel) rfl (fun K' hK => ?_)
      | refine AWP.drawL2 (by kernel_rfl) (by decide +kernel) rfl (fun K' hK => ?_)
      | (refine AQ.nil (hK _ ?_); clear hK K')
      | refine AQ.nil ?_
      | refine AQ.q rfl rfl (fun hg => by first | exact std0 | exact PRun.callW (hv) rfl rfl nd rfl nds | exact std1) (by exact rfl) ?_)
    · exact ⟨.inr rfl, Ent.tup3 Ent.nil (Ent.rfl' _) (Ent.rfl' _)⟩
    all_goals (exfalso; simp at hc; done)
  rw [framesR_in h2] at hv
  rw [loadR_in h2]
  obtain ⟨f1, f2⟩ := frames_all _ b (Nat.lt_succ_self _)
  unfold Jo.load
  generalize (frames b).1 = ls at hv f1 f2
  simp only [tupFR] at hv
  repeat' (first
    | refine AOps.q rfl rfl rfl (fun hg => by first | exact std0 | exact PRun.callW (hv) rfl rfl nd rfl nds | exact std1) (by exact rfl) ?_
    | refine AWP.seq ?_
    | refine AWP.regionK (fun K' hK => ?_)
    | (refine AOps.nil (hK _ _ ?_); clear hK K')
    | refine AOps.e (EStep.boxW rfl rfl rfl rfl rfl True.intro rfl rfl ?_)
    | refine AOps.e (EStep.storeW tabOk rfl rfl rfl True.intro rfl rfl True.intro rfl rfl rfl rfl rfl rfl rfl ?_)
    | refine AOps.e (EStep.allocW tabOk rfl rfl rfl rfl rfl rfl ?_)
    | (refine AWP.condW rfl True.intro (fun hc => ?_) (fun hc => ?_) <;> (first | (simp only [decide_eq_true_eq] at hc) | (simp only [decide_eq_false_iff_not, Int.not_lt, Int.not_le] at hc) | skip))
    | refine AWP.block ?_
    | refine AWP.exit ?_
    | refine AWP.skip ?_
    | refine AWP.ret ?_
    | refine AWP.drawK2 (by decide +kernel) (by kernel_rfl) (by decide +kernel) rfl (fun K' hK => ?_)
    | refine AWP.drawL2 (by kernel_rfl) (by decide +kernel) rfl (fun K' hK => ?_)
    | (refine AQ.nil (hK _ ?_); clear hK K')
    | refine AQ.nil ?_
    | refine AQ.q rfl rfl (fun hg => by first | exact std0 | exact PRun.callW (hv) rfl rfl nd rfl nds | exact std1) (by exact rfl) ?_)
  · exfalso; simp at hc
  refine AWP.ownNil (d := 8) (sz := 14) rfl ?_
  repeat' (first
    | refine AOps.q rfl rfl rfl (fun hg => by first | exact std0 | exact std1) (by exact rfl) ?_
    | refine AWP.seq ?_
    | refine AWP.regionK (fun K' hK => ?_)
    | (refine AOps.nil (hK _ _ ?_); clear hK K')
    | refine AOps.e (EStep.boxW rfl rfl rfl rfl rfl True.intro rfl rfl ?_)
    | refine AOps.e (EStep.storeW tabOk rfl rfl rfl True.intro rfl rfl True.intro rfl rfl rfl rfl rfl rfl rfl ?_)
    | refine AOps.e (EStep.allocW tabOk rfl rfl rfl rfl rfl rfl ?_)
    | (refine AWP.condW rfl True.intro (fun hc => ?_) (fun hc => ?_) <;> (first | (simp only [decide_eq_true_eq] at hc) | (simp only [decide_eq_false_iff_not, Int.not_lt, Int.not_le] at hc) | skip))
    | refine AWP.block ?_
    | refine AWP.exit ?_
    | refine AWP.skip ?_
    | refine AWP.ret ?_
    | refine AWP.drawK2 (by decide +kernel) (by kernel_rfl) (by decide +kernel) rfl (fun K' hK => ?_)
    | refine AWP.drawL2 (by kernel_rfl) (by decide +kernel) rfl (fun K' hK => ?_)
    | (refine AQ.nil (hK _ ?_); clear hK K')
    | refine AQ.nil ?_
    | refine AQ.q rfl rfl (fun hg => by first | exact std0 | exact std1) (by exact rfl) ?_)
  have hfr : ∀ k, k < ls.length → PCall Try.prog 24 [.sl 1 ((ls.getD k default).map encN) .no] (.tup [.sl 1 ((frame (ls.getD k default)).map by8) .no, .int 0]) := fun k hk => by
    have hm : ls.getD k default ∈ ls := by rw [getD_lt hk]; exact List.getElem_mem hk
    have := frame05_spec (ls.getD k default) (f2 _ hm).2 (by have := (f2 _ hm).1; omega)
    rwa [show frameR (ls.getD k default) = (frame (ls.getD k default), 0) from if_pos (f2 _ hm).1] at this
  have hfl : ∀ k, k < ls.length → (frame (ls.getD k default)).length ≤ 40021 := fun k hk => by
    have hm : ls.getD k default ∈ ls := by rw [getD_lt hk]; exact List.getElem_mem hk
    rw [frame_len]; have := putL_len (l := ls.getD k default) (f2 _ hm).1; omega
  have hel : ∀ k, k < ls.length → (ls.getD k default).length ≤ 1000000 := fun k hk => by
    have hm : ls.getD k default ∈ ls := by rw [getD_lt hk]; exact List.getElem_mem hk
    have := (f2 _ hm).1; omega
  refine AWP.loopD (ι := Nat × List Ev × Nat) (fun i => [(5, .sl 1 (ls.map encL) .no), (8, .sl 14 (i.2.1.map encE) (.own 0)), (9, .int i.2.2), (10, .int i.1)]) (fun i => [.own 14 (i.2.1.map encE).length]) (fun i => i.1 ≤ ls.length ∧ i.2.1.length ≤ i.1 ∧ i.2.2 ≤ i.1 * 40021 ∧ loadL ls = (i.2.1 ++ (loadL (ls.drop i.1)).1, i.2.2 + (loadL (ls.drop i.1)).2)) (fun i => ls.length - i.1) 1 (fun _ => rfl) (0, [], 0) ⟨Nat.zero_le _, Nat.le_refl _, Nat.zero_le _, by simp⟩ ⟨rfl, rfl, rfl, rfl, True.intro⟩ rfl (fun _ _ => rfl) (fun _ _ => rfl) ?_
  rintro ⟨k, out, n⟩ ⟨g1, g2, g3, g4⟩
  dsimp only at g1 g2 g3 g4 ⊢
  by_cases hlt : k < ls.length
  · rw [loadL_step hlt] at g4
    have hw := event23_spec _ (hel k hlt)
    have hf := hfr k hlt
    have hff := hfl k hlt
    clear hfr hfl hel f2
    cases hev : event (ls.getD k default) with
    | none =>
      rw [eventR_none hev] at hw
      rw [hev] at g4
      dsimp only at hw g4
      repeat' (first
        | refine AOps.q rfl rfl rfl (fun hg => by first | exact std0 | exact PRun.callW (hw) rfl rfl nd rfl nds | exact std1) (by exact rfl) ?_
        | refine AWP.seq ?_
        | refine AWP.regionK (fun K' hK => ?_)
        | (refine AOps.nil (hK _ _ ?_); clear hK K')
        | refine AOps.e (EStep.boxW rfl rfl rfl rfl rfl True.intro rfl rfl ?_)
        | refine AOps.e (EStep.storeW tabOk rfl rfl rfl True.intro rfl rfl True.intro rfl rfl rfl rfl rfl rfl rfl ?_)
        | refine AOps.e (EStep.allocW tabOk rfl rfl rfl rfl rfl rfl ?_)
        | (refine AWP.condW rfl True.intro (fun hc => ?_) (fun hc => ?_) <;> (first | (simp only [decide_eq_true_eq] at hc) | (simp only [decide_eq_false_iff_not, Int.not_lt, Int.not_le] at hc) | skip))
        | refine AWP.block ?_
        | refine AWP.exit ?_
        | refine AWP.skip ?_
        | refine AWP.ret ?_
        | refine AWP.drawK2 (by decide +kernel) (by kernel_rfl) (by decide +kernel) rfl (fun K' hK => ?_)
        | refine AWP.drawL2 (by kernel_rfl) (by decide +kernel) rfl (fun K' hK => ?_)
        | (refine AQ.nil (hK _ ?_); clear hK K')
        | refine AQ.nil ?_
        | refine AQ.q rfl rfl (fun hg => by first | exact std0 | exact PRun.callW (hw) rfl rfl nd rfl nds | exact std1) (by exact rfl) ?_)
      · refine ⟨.inr rfl, Ent.of ?_⟩
        rw [g4, List.append_nil, Nat.add_zero]; rfl
      · exfalso; simp at hc
      · exfalso; omega
    | some ev =>
      rw [eventR_some hev] at hw
      rw [hev] at g4
      dsimp only at hw g4
      repeat' (first
        | refine AOps.q rfl rfl rfl (fun hg => by first | exact std0 | exact PRun.callW (hw) rfl rfl nd rfl nds | exact PRun.callW (hf) rfl rfl nd rfl nds | exact PRun.buildSlW tabOk rfl rfl nds | exact std1) (by exact rfl) ?_
        | refine AWP.seq ?_
        | refine AWP.regionK (fun K' hK => ?_)
        | (refine AOps.nil (hK _ _ ?_); clear hK K')
        | refine AOps.e (EStep.boxW rfl rfl rfl rfl rfl True.intro rfl rfl ?_)
        | refine AOps.e (EStep.storeW tabOk rfl rfl rfl True.intro rfl rfl True.intro rfl rfl rfl rfl rfl rfl rfl ?_)
        | refine AOps.e (EStep.allocW tabOk rfl rfl rfl rfl rfl rfl ?_)
        | refine AOps.e (EStep.appendOwn' tabOk rfl rfl rfl (by decide) (Rd.w rfl True.intro) rfl (Rd.w rfl True.intro) (.sl rfl (by first | (intro x hx; rcases List.mem_singleton.1 hx with rfl; rfl) | exact one_by8 _ | exact one_ints _)) (LOk.of (tabOk.get rfl)) (LOk.of (tabOk.get rfl)) rfl rfl (by simp only [List.length_map, List.length_append, List.length_cons, List.length_nil]; omega) (by simp only [List.length_map, List.length_append, List.length_cons, List.length_nil]; omega) ?_)
        | (refine AWP.condW rfl True.intro (fun hc => ?_) (fun hc => ?_) <;> (first | (simp only [decide_eq_true_eq] at hc) | (simp only [decide_eq_false_iff_not, Int.not_lt, Int.not_le] at hc) | skip))
        | refine AWP.block ?_
        | refine AWP.exit ?_
        | refine AWP.skip ?_
        | refine AWP.ret ?_
        | refine AWP.drawK2 (by decide +kernel) (by kernel_rfl) (by decide +kernel) rfl (fun K' hK => ?_)
        | refine AWP.drawL2 (by kernel_rfl) (by decide +kernel) rfl (fun K' hK => ?_)
        | (refine AQ.nil (hK _ ?_); clear hK K')
        | refine AQ.nil ?_
        | refine AQ.q rfl rfl (fun hg => by first | exact std0 | exact PRun.callW (hw) rfl rfl nd rfl nds | exact PRun.callW (hf) rfl rfl nd rfl nds | exact PRun.buildSlW tabOk rfl rfl nds | exact std1) (by exact rfl) ?_)
      · exfalso; simp at hc
      · refine ⟨(k + 1, out ++ [ev], n + (frame (ls.getD k default)).length), ⟨by dsimp only; omega, by simp; omega, by dsimp only; omega, ?_⟩, by dsimp only; omega, ⟨rfl, ?_, rfl, rfl, True.intro⟩, ?_⟩
        · rw [g4]; simp [Nat.add_assoc]
        · rw [List.map_append]; rfl
        · rw [List.map_append]; rfl
      · exfalso; omega
  · repeat' (first
      | refine AOps.q rfl rfl rfl (fun hg => by first | exact std0 | exact std1) (by exact rfl) ?_
      | refine AWP.seq ?_
      | refine AWP.regionK (fun K' hK => ?_)
      | (refine AOps.nil (hK _ _ ?_); clear hK K')
      | refine AOps.e (EStep.boxW rfl rfl rfl rfl rfl True.intro rfl rfl ?_)
      | refine AOps.e (EStep.storeW tabOk rfl rfl rfl True.intro rfl rfl True.intro rfl rfl rfl rfl rfl rfl rfl ?_)
      | refine AOps.e (EStep.allocW tabOk rfl rfl rfl rfl rfl rfl ?_)
      | (refine AWP.condW rfl True.intro (fun hc => ?_) (fun hc => ?_) <;> (first | (simp only [decide_eq_true_eq] at hc) | (simp only [decide_eq_false_iff_not, Int.not_lt, Int.not_le] at hc) | skip))
      | refine AWP.block ?_
      | refine AWP.exit ?_
      | refine AWP.skip ?_
      | refine AWP.ret ?_
      | refine AWP.drawK2 (by decide +kernel) (by kernel_rfl) (by decide +kernel) rfl (fun K' hK => ?_)
      | refine AWP.drawL2 (by kernel_rfl) (by decide +kernel) rfl (fun K' hK => ?_)
      | (refine AQ.nil (hK _ ?_); clear hK K')
      | refine AQ.nil ?_
      | refine AQ.q rfl rfl (fun hg => by first | exact std0 | exact std1) (by exact rfl) ?_)
    · exfalso; omega
    · rw [List.drop_eq_nil_of_le (by omega)] at g4
      refine ⟨.inr rfl, Ent.of ?_⟩
      rw [g4]; simp only [loadL, List.append_nil, Nat.add_zero]; rfl
end Go.Proofs.Ytpkolkfglgalpaa
