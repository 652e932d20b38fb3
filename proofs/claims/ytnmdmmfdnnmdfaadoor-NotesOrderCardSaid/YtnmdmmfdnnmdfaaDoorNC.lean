/- Contracts: slices.DeleteFunc of notes that are not of a part and bar; notes.Of. No statement is proved here. -/
import Derived.Test.YtnmdmmfdnnmdfaaDoorCI
import Derived.Test.YtnmdmmfdnnmdfaaDoorCL
import Derived.Test.YtnmdmmfdnnmdfaaDoorFX
import Derived.Test.YtnmdmmfdnnmdfaaDoorSX
import Derived.Test.YtnmdmmfdnnmdfaaDoorNA
set_option linter.unusedVariables false
set_option linter.unusedSimpArgs false
namespace Go.Proofs.YtnmdmmfdnnmdfaaDoor.Nt
open Go.Ab
attribute [local irreducible] AWP AOps EStep AQ PStep PRun PCall TCall VCall

theorem findI_any {α : Type} [Inhabited α] (p : α → Bool) (l : List α) : (!decide (findI p l ≥ 0)) = l.all fun x => !p x := by
  rw [Bool.eq_iff_iff]
  simp only [Bool.not_eq_true', decide_eq_false_iff_not, List.all_eq_true]
  constructor
  · intro h x hx
    cases hpx : p x with
    | false => rfl
    | true =>
      exfalso; apply h
      unfold findI
      cases hf : l.findIdx? p with
      | none => rw [List.findIdx?_eq_none_iff] at hf; have := hf x hx; rw [hpx] at this; cases this
      | some i => simp
  · intro h h2
    obtain ⟨k, _, hk, hpk, _⟩ := findI_lt h2
    have := h _ (getD_mem hk)
    rw [hpk] at this; cases this

theorem flP : flatN Tryd.prog 102 = some [.int .i64, .int .i64] := by kernel_rfl
/-- A note of the part p in the bar b. -/
def isOf (p b : Int) (n : Note) : Bool := n.part == p && n.bar == b
abbrev keyS (p b : Int) : AObj := .var [.int p, .int b]
theorem okA {u : AObj} {l : List Note} (hu : okObj 2 u = true) : ([u, .arr 12 0 (l.map encN)] : Store).all (okObj 2) = true := by
  simp only [List.all_cons, List.all_nil, hu, Bool.true_and, Bool.and_true]
  simp [okObj, encN, okRef]
theorem cloneT (l : List Note) (hl : l.length ≤ 1000000000) (p b : Int) : TCall Tryd.prog 57 [.sl 12 (l.map encN) .no] [keyS p b]
    (fun r s => (l = [] ∧ r = .nils ∧ s = [keyS p b]) ∨ (r = .sla 1 12 0 l.length 0 ∧ s = [keyS p b, .arr 12 0 (l.map encN)])) := by
  have hll : (l.map encN).length = l.length := by simp
  refine TCall.body Tryd.func57 rfl rfl Tryd.ntmps57 rfl rfl ?_
  repeat' (first | refine AOps.q rfl rfl rfl (fun hg => by first | exact std0 | exact std1) (by exact rfl) ?_ | refine AWP.seq ?_ | refine AWP.regionK (fun K' hK => ?_) | (refine AOps.nil (hK _ _ ?_); clear hK K') | refine AOps.e (EStep.boxW rfl rfl rfl rfl rfl True.intro rfl rfl ?_) | refine AOps.e (EStep.storeW tabOk rfl rfl rfl True.intro rfl rfl True.intro rfl rfl rfl rfl rfl rfl rfl ?_) | refine AOps.e (EStep.allocW tabOk rfl rfl rfl rfl rfl rfl ?_) | refine AOps.e (EStep.nilSl tabOk rfl rfl rfl rfl rfl True.intro rfl ?_) | (refine AWP.condW rfl True.intro (fun hc => ?_) (fun hc => ?_) <;> (first | (simp only [decide_eq_true_eq] at hc) | (simp only [decide_eq_false_iff_not, Int.not_lt, Int.not_le] at hc) | skip)) | refine AWP.block ?_ | refine AWP.exit ?_ | refine AWP.skip ?_ | refine AWP.ret ?_ | refine AWP.drawK2 (by decide +kernel) (by kernel_rfl) (by decide +kernel) rfl (fun K' hK => ?_) | refine AWP.drawL2 (by kernel_rfl) (by decide +kernel) rfl (fun K' hK => ?_) | (refine AQ.nil (hK _ ?_); clear hK K') | refine AQ.nil ?_ | refine AQ.q rfl rfl (fun hg => by first | exact std0 | exact std1) (by exact rfl) ?_)
  intro b2 hb
  repeat' (first | refine AOps.q rfl rfl rfl (fun hg => by first | exact PRun.buildSl0 tabOk rfl rfl | exact std0 | exact std1) (by exact rfl) ?_ | refine AWP.seq ?_ | refine AWP.regionK (fun K' hK => ?_) | (refine AOps.nil (hK _ _ ?_); clear hK K') | refine AOps.e (EStep.boxW rfl rfl rfl rfl rfl True.intro rfl rfl ?_) | refine AOps.e (EStep.storeW tabOk rfl rfl rfl True.intro rfl rfl True.intro rfl rfl rfl rfl rfl rfl rfl ?_) | refine AOps.e (EStep.allocW tabOk rfl rfl rfl rfl rfl rfl ?_) | refine AOps.e (EStep.appendArrF tabOk rfl rfl rfl rfl (Rd.w rfl True.intro) (Rd.w rfl True.intro) (.sl rfl (one_encN _)) (LOk.of (tabOk.get rfl)) (LOk.of (tabOk.get rfl)) rfl rfl (by simp only [hll]; omega) (by omega) ?_) | (refine AWP.condW rfl True.intro (fun hc => ?_) (fun hc => ?_) <;> (first | (simp only [decide_eq_true_eq] at hc) | (simp only [decide_eq_false_iff_not, Int.not_lt, Int.not_le] at hc) | skip)) | refine AWP.block ?_ | refine AWP.exit ?_ | refine AWP.skip ?_ | refine AWP.ret ?_ | refine AWP.drawK2 (by decide +kernel) (by kernel_rfl) (by decide +kernel) rfl (fun K' hK => ?_) | refine AWP.drawL2 (by kernel_rfl) (by decide +kernel) rfl (fun K' hK => ?_) | (refine AQ.nil (hK _ ?_); clear hK K') | refine AQ.nil ?_ | refine AQ.q rfl rfl (fun hg => by first | exact PRun.buildSl0 tabOk rfl rfl | exact std0 | exact std1) (by exact rfl) ?_)
  · exact ⟨.inr rfl, .nils, [keyS p b], .inl ⟨by simpa using hb hc, rfl, rfl⟩, rfl, Nat.le_refl _, rfl, rfl, rfl⟩
  · exact ⟨.inr rfl, .sla 1 12 0 (l.map encN).length 0, [keyS p b, .arr 12 0 (l.map encN)], .inr ⟨by rw [hll], rfl⟩, rfl, by simp, okA rfl, rfl, rfl⟩
theorem of1_T (x : Note) (p b : Int) (es : List Note) : TCall Tryd.prog 58 [.agg (encN x), .ptr 0 0] [keyS p b, .arr 12 0 (es.map encN)] (fun r s => r = .b (!isOf p b x) ∧ s = [keyS p b, .arr 12 0 (es.map encN)]) := by
  refine TCall.body Tryd.func58 rfl rfl Tryd.ntmps58 rfl rfl ?_
  repeat' (first | refine AOps.q rfl rfl rfl (fun hg => by first | exact std0 | exact PRun.buildAW tabOk rfl rfl nds | exact PRun.neN flP rfl rfl nd rfl nd rfl | exact std1) (by exact rfl) ?_ | refine AWP.seq ?_ | refine AWP.regionK (fun K' hK => ?_) | (refine AOps.nil (hK _ _ ?_); clear hK K') | refine AOps.e (EStep.boxW rfl rfl rfl rfl rfl True.intro rfl rfl ?_) | refine AOps.e (EStep.storeW tabOk rfl rfl rfl True.intro rfl rfl True.intro rfl rfl rfl rfl rfl rfl rfl ?_) | refine AOps.e (EStep.allocW tabOk rfl rfl rfl rfl rfl rfl ?_) | (refine AWP.condW rfl True.intro (fun hc => ?_) (fun hc => ?_) <;> (first | (simp only [decide_eq_true_eq] at hc) | (simp only [decide_eq_false_iff_not, Int.not_lt, Int.not_le] at hc) | skip)) | refine AWP.block ?_ | refine AWP.exit ?_ | refine AWP.skip ?_ | refine AWP.ret ?_ | refine AWP.drawK2 (by decide +kernel) (by kernel_rfl) (by decide +kernel) rfl (fun K' hK => ?_) | refine AWP.drawL2 (by kernel_rfl) (by decide +kernel) rfl (fun K' hK => ?_) | (refine AQ.nil (hK _ ?_); clear hK K') | refine AQ.nil ?_ | refine AQ.q rfl rfl (fun hg => by first | exact std0 | exact PRun.buildAW tabOk rfl rfl nds | exact PRun.neN flP rfl rfl nd rfl nd rfl | exact std1) (by exact rfl) ?_)
  exact ⟨.inr rfl, _, [keyS p b, .arr 12 0 (es.map encN)], ⟨by simp [isOf], rfl⟩, rfl, by simp, okA rfl, rfl, rfl⟩
theorem idxT (l : List Note) (hl : l.length ≤ 1000000000) (p b : Int) : TCall Tryd.prog 97 [.sla 1 12 0 l.length 0, .fn (.func 58) [] [.ptr 0 0]] [keyS p b, .arr 12 0 (l.map encN)]
    (fun r s => r = .int (findI (fun x => !isOf p b x) l) ∧ s = [keyS p b, .arr 12 0 (l.map encN)]) := by
  refine TCall.body Tryd.func97 rfl rfl Tryd.ntmps97 rfl rfl ?_
  repeat' (first | refine AOps.q rfl rfl rfl (fun hg => by first | exact std0 | exact PRun.lenA tabOk rfl rfl nd rfl | exact std1) (by exact rfl) ?_ | refine AWP.seq ?_ | refine AWP.regionK (fun K' hK => ?_) | (refine AOps.nil (hK _ _ ?_); clear hK K') | refine AOps.e (EStep.boxW rfl rfl rfl rfl rfl True.intro rfl rfl ?_) | refine AOps.e (EStep.storeW tabOk rfl rfl rfl True.intro rfl rfl True.intro rfl rfl rfl rfl rfl rfl rfl ?_) | refine AOps.e (EStep.allocW tabOk rfl rfl rfl rfl rfl rfl ?_) | (refine AWP.condW rfl True.intro (fun hc => ?_) (fun hc => ?_) <;> (first | (simp only [decide_eq_true_eq] at hc) | (simp only [decide_eq_false_iff_not, Int.not_lt, Int.not_le] at hc) | skip)) | refine AWP.block ?_ | refine AWP.exit ?_ | refine AWP.skip ?_ | refine AWP.ret ?_ | refine AWP.drawK2 (by decide +kernel) (by kernel_rfl) (by decide +kernel) rfl (fun K' hK => ?_) | refine AWP.drawL2 (by kernel_rfl) (by decide +kernel) rfl (fun K' hK => ?_) | (refine AQ.nil (hK _ ?_); clear hK K') | refine AQ.nil ?_ | refine AQ.q rfl rfl (fun hg => by first | exact std0 | exact PRun.lenA tabOk rfl rfl nd rfl | exact std1) (by exact rfl) ?_)
  refine AWP.loopW (ι := Nat) (fun k => [(0, .sla 1 12 0 l.length 0), (1, .fn (.func 58) [] [.ptr 0 0]), (7, .int l.length), (8, .int k)]) (fun _ => [keyS p b, .arr 12 0 (l.map encN)]) (fun k => k ≤ l.length ∧ ∀ j, j < k → (!isOf p b (l.getD j default)) = false) (fun k => l.length - k) 0 ⟨Nat.zero_le _, fun j h => absurd h (by omega)⟩ ⟨rfl, rfl, rfl, rfl, True.intro⟩ rfl ?_
  rintro k ⟨hk, hall⟩
  by_cases hlt : k < l.length
  · have hq := TCall.val (first := []) (caps := [.ptr 0 0]) (avs := [.agg (encN (l.getD k default))]) (of1_T (l.getD k default) p b l)
    have e1 : ((k : Int)).toNat = k := Int.toNat_natCast k
    repeat' (first | refine AOps.q rfl rfl rfl (fun hg => by first | exact std0 | exact PRun.indexA0 tabOk rfl rfl nd rfl nd rfl (by decide) rfl ⟨by omega, by omega⟩ | exact PRun.loadEM (f := encN) (xs := l) tabOk rfl rfl nd rfl (by omega) rfl rfl | exact PRun.callQ (hq) rfl rfl nd rfl rfl nds | exact std1) (by exact rfl) ?_ | refine AWP.seq ?_ | refine AWP.regionK (fun K' hK => ?_) | (refine AOps.nil (hK _ _ ?_); clear hK K') | refine AOps.e (EStep.boxW rfl rfl rfl rfl rfl True.intro rfl rfl ?_) | refine AOps.e (EStep.storeW tabOk rfl rfl rfl True.intro rfl rfl True.intro rfl rfl rfl rfl rfl rfl rfl ?_) | refine AOps.e (EStep.allocW tabOk rfl rfl rfl rfl rfl rfl ?_) | (refine AWP.condW rfl True.intro (fun hc => ?_) (fun hc => ?_) <;> (first | (simp only [decide_eq_true_eq] at hc) | (simp only [decide_eq_false_iff_not, Int.not_lt, Int.not_le] at hc) | skip)) | refine AWP.block ?_ | refine AWP.exit ?_ | refine AWP.skip ?_ | refine AWP.ret ?_ | refine AWP.drawK2 (by decide +kernel) (by kernel_rfl) (by decide +kernel) rfl (fun K' hK => ?_) | refine AWP.drawL2 (by kernel_rfl) (by decide +kernel) rfl (fun K' hK => ?_) | (refine AQ.nil (hK _ ?_); clear hK K') | refine AQ.nil ?_ | refine AQ.q rfl rfl (fun hg => by first | exact std0 | exact PRun.indexA0 tabOk rfl rfl nd rfl nd rfl (by decide) rfl ⟨by omega, by omega⟩ | exact PRun.loadEM (f := encN) (xs := l) tabOk rfl rfl nd rfl (by omega) rfl rfl | exact PRun.callQ (hq) rfl rfl nd rfl rfl nds | exact std1) (by exact rfl) ?_)
    all_goals (first | (exfalso; omega) | skip)
    · refine ⟨.inr rfl, .int k, _, ⟨?_, rfl⟩, rfl, Nat.le_refl _, okA rfl, rfl, rfl⟩
      rw [findI_at (p := fun x => !isOf p b x) hlt hc hall]
    · exact ⟨k + 1, ⟨by omega, fun j hj => lt_succ_cases hall hc hj⟩, by omega, ⟨rfl, rfl, rfl, rfl, True.intro⟩, rfl⟩
  · repeat' (first | refine AOps.q rfl rfl rfl (fun hg => by first | exact std0 | exact std1) (by exact rfl) ?_ | refine AWP.seq ?_ | refine AWP.regionK (fun K' hK => ?_) | (refine AOps.nil (hK _ _ ?_); clear hK K') | refine AOps.e (EStep.boxW rfl rfl rfl rfl rfl True.intro rfl rfl ?_) | refine AOps.e (EStep.storeW tabOk rfl rfl rfl True.intro rfl rfl True.intro rfl rfl rfl rfl rfl rfl rfl ?_) | refine AOps.e (EStep.allocW tabOk rfl rfl rfl rfl rfl rfl ?_) | (refine AWP.condW rfl True.intro (fun hc => ?_) (fun hc => ?_) <;> (first | (simp only [decide_eq_true_eq] at hc) | (simp only [decide_eq_false_iff_not, Int.not_lt, Int.not_le] at hc) | skip)) | refine AWP.block ?_ | refine AWP.exit ?_ | refine AWP.skip ?_ | refine AWP.ret ?_ | refine AWP.drawK2 (by decide +kernel) (by kernel_rfl) (by decide +kernel) rfl (fun K' hK => ?_) | refine AWP.drawL2 (by kernel_rfl) (by decide +kernel) rfl (fun K' hK => ?_) | (refine AQ.nil (hK _ ?_); clear hK K') | refine AQ.nil ?_ | refine AQ.q rfl rfl (fun hg => by first | exact std0 | exact std1) (by exact rfl) ?_)
    all_goals (first | (exfalso; omega) | skip)
    refine ⟨.inr rfl, .int (-1), _, ⟨?_, rfl⟩, rfl, Nat.le_refl _, okA rfl, rfl, rfl⟩
    rw [findI_no (p := fun x => !isOf p b x) fun j hj => hall j (by omega)]
theorem take_snoc' {α : Type} [Inhabited α] {l : List α} {k : Nat} (h : k < l.length) : l.take (k + 1) = l.take k ++ [l.getD k default] := by
  rw [List.take_add_one, getD_lt h]; simp [h]
/-- How far slices.DeleteFunc has come. -/
structure DelI (q : Note → Bool) (l : List Note) (x : Nat × Nat × List Note) : Prop where
  lt : x.1 < x.2.1
  le : x.2.1 ≤ l.length
  len : x.2.2.length = l.length
  kept : x.2.2.take x.1 = (l.take x.2.1).filter q
  rest : ∀ m, x.2.1 ≤ m → m < l.length → x.2.2.getD m default = l.getD m default
theorem DelI.start {q : Note → Bool} {l : List Note} {k : Nat} (hk : k < l.length) (h0 : q (l.getD k default) = false) (h : ∀ j, j < k → q (l.getD j default) = true) : DelI q l (k, k + 1, l) := by
  refine ⟨Nat.lt_succ_self _, hk, rfl, ?_, fun _ _ _ => rfl⟩
  show l.take k = (l.take (k + 1)).filter q
  rw [take_snoc' hk, List.filter_append, List.filter_cons_of_neg (by rw [h0]; decide), List.filter_nil, List.append_nil]
  refine (List.filter_eq_self.2 fun x hx => ?_).symm
  obtain ⟨j, hj, rfl⟩ := List.mem_iff_getElem.1 hx
  simp only [List.length_take] at hj
  have := h j (by omega)
  rw [getD_lt (by omega)] at this
  rw [List.getElem_take]; exact this
theorem DelI.yes {q : Note → Bool} {l : List Note} {i j : Nat} {es : List Note} (h : DelI q l (i, j, es)) (hj : j < l.length) (hq : q (l.getD j default) = true) : DelI q l (i + 1, j + 1, es.set i (l.getD j default)) := by
  obtain ⟨h1, h2, h3, h4, h5⟩ := h
  dsimp only at h1 h2 h3 h4 h5
  refine ⟨by show i + 1 < j + 1; omega, hj, by simpa using h3, ?_, fun m hm hml => ?_⟩
  · show (es.set i (l.getD j default)).take (i + 1) = (l.take (j + 1)).filter q
    rw [take_snoc' hj, List.filter_append, List.filter_cons_of_pos hq, List.filter_nil, ← h4]
    rw [take_snoc' (by simp; omega), List.take_set_of_le (Nat.le_refl _)]
    congr 1
    rw [getD_lt (by simp; omega), List.getElem_set_self]
  · dsimp only at hm ⊢
    have := h5 m (by omega) hml
    rw [← this]
    simp only [List.getD_eq_getElem?_getD]
    rw [List.getElem?_set_ne (by omega)]
theorem DelI.no {q : Note → Bool} {l : List Note} {i j : Nat} {es : List Note} (h : DelI q l (i, j, es)) (hj : j < l.length) (hq : q (l.getD j default) = false) : DelI q l (i, j + 1, es) := by
  obtain ⟨h1, h2, h3, h4, h5⟩ := h
  dsimp only at h1 h2 h3 h4 h5
  refine ⟨by show i < j + 1; omega, hj, h3, ?_, fun m hm hml => h5 m (by dsimp only at hm; omega) hml⟩
  show es.take i = (l.take (j + 1)).filter q
  rw [take_snoc' hj, List.filter_append, List.filter_cons_of_neg (by rw [hq]; decide), List.filter_nil, List.append_nil, h4]
theorem delete0 (p b : Int) : TCall Tryd.prog 56 [.nils, .fn (.func 58) [] [.ptr 0 0]] [keyS p b] (fun r s => r = .nils ∧ s = [keyS p b]) := by
  have h := PCall.argE (u := .nils) Ent.nil (idxNote_spec [] (.fn (.func 58) [] [.iptr [.int p, .int b]]) (fun _ => true) (fun x hx => by cases hx) (by simp))
  refine TCall.body Tryd.func56 rfl rfl Tryd.ntmps56 rfl rfl ?_
  repeat' (first | refine AOps.q rfl rfl rfl (fun hg => by first | exact std0 | exact PRun.callBW (h) rfl rfl nd rfl rfl nds | exact std1) (by exact rfl) ?_ | refine AWP.seq ?_ | refine AWP.regionK (fun K' hK => ?_) | (refine AOps.nil (hK _ _ ?_); clear hK K') | refine AOps.e (EStep.boxW rfl rfl rfl rfl rfl True.intro rfl rfl ?_) | refine AOps.e (EStep.storeW tabOk rfl rfl rfl True.intro rfl rfl True.intro rfl rfl rfl rfl rfl rfl rfl ?_) | refine AOps.e (EStep.allocW tabOk rfl rfl rfl rfl rfl rfl ?_) | (refine AWP.condW rfl True.intro (fun hc => ?_) (fun hc => ?_) <;> (first | (simp only [decide_eq_true_eq] at hc) | (simp only [decide_eq_false_iff_not, Int.not_lt, Int.not_le] at hc) | skip)) | refine AWP.block ?_ | refine AWP.exit ?_ | refine AWP.skip ?_ | refine AWP.ret ?_ | (refine AQ.nil (hK _ ?_); clear hK K') | refine AQ.nil ?_ | refine AQ.q rfl rfl (fun hg => by first | exact std0 | exact PRun.callBW (h) rfl rfl nd rfl rfl nds | exact std1) (by exact rfl) ?_)
  · exact ⟨.inr rfl, _, _, ⟨rfl, rfl⟩, rfl, Nat.le_refl _, rfl, rfl, rfl⟩
  all_goals (exfalso; simp [findI] at hc)
set_option maxHeartbeats 4000000 in
set_option maxRecDepth 20000 in
theorem deleteT (l : List Note) (hl : l.length ≤ 1000000000) (p b : Int) : TCall Tryd.prog 56 [.sla 1 12 0 l.length 0, .fn (.func 58) [] [.ptr 0 0]] [keyS p b, .arr 12 0 (l.map encN)]
    (fun r s => r = .sla 1 12 0 (l.filter (isOf p b)).length 0 ∧ s = [keyS p b, .arr 12 0 ((l.filter (isOf p b)).map encN)]) := by
  have hx := TCall.val (first := []) (caps := []) (avs := [.sla 1 12 0 l.length 0, .fn (.func 58) [] [.ptr 0 0]]) (idxT l hl p b)
  by_cases hf : findI (fun x => !isOf p b x) l ≥ 0
  · obtain ⟨k, f1, f2, f3, f4⟩ := findI_lt hf
    rw [f1] at hx
    refine TCall.body Tryd.func56 rfl rfl Tryd.ntmps56 rfl rfl ?_
    repeat' (first | refine AOps.q rfl rfl rfl (fun hg => by first | exact std0 | exact std1) (by exact rfl) ?_ | refine AWP.seq ?_ | refine AWP.regionK (fun K' hK => ?_) | (refine AOps.nil (hK _ _ ?_); clear hK K') | refine AOps.e (EStep.boxW rfl rfl rfl rfl rfl True.intro rfl rfl ?_) | refine AOps.e (EStep.storeW tabOk rfl rfl rfl True.intro rfl rfl True.intro rfl rfl rfl rfl rfl rfl rfl ?_) | refine AOps.e (EStep.allocW tabOk rfl rfl rfl rfl rfl rfl ?_) | refine AOps.e (EStep.callT (hx) rfl rfl rfl rfl rfl nd rfl rfl nds ?_) | (refine AWP.condW rfl True.intro (fun hc => ?_) (fun hc => ?_) <;> (first | (simp only [decide_eq_true_eq] at hc) | (simp only [decide_eq_false_iff_not, Int.not_lt, Int.not_le] at hc) | skip)) | refine AWP.block ?_ | refine AWP.exit ?_ | refine AWP.skip ?_ | refine AWP.ret ?_ | refine AWP.drawK2 (by decide +kernel) (by kernel_rfl) (by decide +kernel) rfl (fun K' hK => ?_) | refine AWP.drawL2 (by kernel_rfl) (by decide +kernel) rfl (fun K' hK => ?_) | (refine AQ.nil (hK _ ?_); clear hK K') | refine AQ.nil ?_ | refine AQ.q rfl rfl (fun hg => by first | exact std0 | exact std1) (by exact rfl) ?_)
    rintro r s ⟨rfl, rfl⟩
    repeat' (first | refine AOps.q rfl rfl rfl (fun hg => by first | exact std0 | exact PRun.lenA tabOk rfl rfl nd rfl | exact std1) (by exact rfl) ?_ | refine AWP.seq ?_ | refine AWP.regionK (fun K' hK => ?_) | (refine AOps.nil (hK _ _ ?_); clear hK K') | refine AOps.e (EStep.boxW rfl rfl rfl rfl rfl True.intro rfl rfl ?_) | refine AOps.e (EStep.storeW tabOk rfl rfl rfl True.intro rfl rfl True.intro rfl rfl rfl rfl rfl rfl rfl ?_) | refine AOps.e (EStep.allocW tabOk rfl rfl rfl rfl rfl rfl ?_) | (refine AWP.condW rfl True.intro (fun hc => ?_) (fun hc => ?_) <;> (first | (simp only [decide_eq_true_eq] at hc) | (simp only [decide_eq_false_iff_not, Int.not_lt, Int.not_le] at hc) | skip)) | refine AWP.block ?_ | refine AWP.exit ?_ | refine AWP.skip ?_ | refine AWP.ret ?_ | (refine AQ.nil (hK _ ?_); clear hK K') | refine AQ.nil ?_ | refine AQ.q rfl rfl (fun hg => by first | exact std0 | exact PRun.lenA tabOk rfl rfl nd rfl | exact std1) (by exact rfl) ?_)
    all_goals (first | (exfalso; simp at hc; done) | (exfalso; simp at hc; omega) | skip)
    refine AWP.loopD (ι := Nat × Nat × List Note) (fun x => [(0, .sla 1 12 0 l.length 0), (1, .fn (.func 58) [] [.ptr 0 0]), (5, .int x.1), (6, .int x.2.1)]) (fun x => [keyS p b, .arr 12 0 (x.2.2.map encN)])
      (fun x => DelI (isOf p b) l x) (fun x => l.length - x.2.1) 2 (fun _ => rfl) (k, k + 1, l) (DelI.start f2 (by simpa using f3) (fun j hj => by simpa using f4 j hj)) ⟨rfl, rfl, rfl, rfl, True.intro⟩ rfl (fun _ _ => rfl) (fun x _ => okA rfl) ?_
    rintro ⟨i, j, es⟩ hI
    have hI' := hI
    obtain ⟨h1, h2, h3, h4, h5⟩ := hI'
    dsimp only at h1 h2 h3 h4 h5
    by_cases hlt : j < l.length
    · have h6 := h5 j (Nat.le_refl _) hlt
      obtain ⟨x, hx'⟩ : ∃ x, l.getD j default = x := ⟨_, rfl⟩
      rw [hx'] at h6
      have e1 : ((j : Int)).toNat = j := Int.toNat_natCast j
      have hq : VCall Tryd.prog (.fn (.func 58) [] [.ptr 0 0]) [.agg (encN x)] [keyS p b, .arr 12 0 (es.map encN), .var (encN x)] (fun r s => r = .b (!isOf p b x) ∧ s = [keyS p b, .arr 12 0 (es.map encN), .var (encN x)]) := by
        have := VCall.frame (TCall.val (first := []) (caps := [.ptr 0 0]) (avs := [.agg (encN x)]) (of1_T x p b es)) [.var (encN x)] (okA rfl) rfl rfl (by rintro rv s' ⟨_, rfl⟩; rfl)
        refine VCall.mono this ?_
        rintro r t ⟨t', rfl, h, rfl⟩
        exact ⟨h, rfl⟩
      have hld : ∀ {o : Oper} {env : Env} {σ : Store} {t : TypeId} {y : Operand} {li : LI}, o.op = .load t y → rdv env y = some (.eptr 1 12 ((j : Int)).toNat 0 0) → rdn env y → σ[1]? = some (.arr 12 0 (es.map encN)) → tab.get t = some li → takeF li 0 (encN x) = some (.agg (encN x)) → PRun Tryd.prog o env σ (.agg (encN x)) := fun a1 a2 a3 a4 a5 a6 =>
        PRun.loadEM (f := encN) (xs := es) tabOk a1 a2 a3 a4 (by omega) a5 (by rw [e1, h6]; exact a6)
      repeat' (first | refine AOps.q rfl rfl rfl (fun hg => by first | exact hld rfl rfl nd rfl rfl rfl | exact std0 | exact PRun.lenA tabOk rfl rfl nd rfl | exact PRun.indexA0 tabOk rfl rfl nd rfl nd rfl (by decide) rfl ⟨by omega, by omega⟩ | exact PRun.callQ (hq) rfl rfl nd rfl rfl nds | exact std1) (by exact rfl) ?_ | refine AWP.seq ?_ | refine AWP.regionK (fun K' hK => ?_) | (refine AOps.nil (hK _ _ ?_); clear hK K') | refine AOps.e (EStep.boxW rfl rfl rfl rfl rfl True.intro rfl rfl ?_) | refine AOps.e (EStep.storeW tabOk rfl rfl rfl True.intro rfl rfl True.intro rfl rfl rfl rfl rfl rfl rfl ?_) | refine AOps.e (EStep.allocW tabOk rfl rfl rfl rfl rfl rfl ?_) | refine AOps.e (EStep.storeE tabOk rfl rfl rfl True.intro rfl (by simp only [List.length_map, Int.toNat_natCast]; omega) rfl True.intro rfl rfl rfl rfl rfl rfl ?_) | (refine AWP.condW rfl True.intro (fun hc => ?_) (fun hc => ?_) <;> (first | (simp only [decide_eq_true_eq] at hc) | (simp only [decide_eq_false_iff_not, Int.not_lt, Int.not_le] at hc) | skip)) | refine AWP.block ?_ | refine AWP.exit ?_ | refine AWP.skip ?_ | refine AWP.ret ?_ | refine AWP.drawK2 (by decide +kernel) (by kernel_rfl) (by decide +kernel) rfl (fun K' hK => ?_) | refine AWP.drawL2 (by kernel_rfl) (by decide +kernel) rfl (fun K' hK => ?_) | (refine AQ.nil (hK _ ?_); clear hK K') | refine AQ.nil ?_ | refine AQ.q rfl rfl (fun hg => by first | exact hld rfl rfl nd rfl rfl rfl | exact std0 | exact PRun.lenA tabOk rfl rfl nd rfl | exact PRun.indexA0 tabOk rfl rfl nd rfl nd rfl (by decide) rfl ⟨by omega, by omega⟩ | exact PRun.callQ (hq) rfl rfl nd rfl rfl nds | exact std1) (by exact rfl) ?_)
      all_goals (first | (exfalso; omega) | (exfalso; simp at hc; omega) | skip)
      · refine ⟨(i + 1, j + 1, es.set i x), hx' ▸ hI.yes hlt (by rw [hx']; simpa using hc), by show l.length - (j + 1) < l.length - j; omega, ⟨rfl, rfl, rfl, rfl, True.intro⟩, ?_⟩
        show [_, _] = [_, _]
        rw [List.map_set]; rfl
      · exact ⟨(i, j + 1, es), hI.no hlt (by rw [hx']; simpa using hc), by show l.length - (j + 1) < l.length - j; omega, ⟨rfl, rfl, rfl, rfl, True.intro⟩, rfl⟩
    · obtain rfl : j = l.length := by omega
      rw [List.take_length] at h4
      have hil : i = (l.filter (isOf p b)).length := by rw [← h4, List.length_take]; omega
      repeat' (first | refine AOps.q rfl rfl rfl (fun hg => by first | exact std0 | exact PRun.lenA tabOk rfl rfl nd rfl | exact PRun.sliceLoS tabOk rfl rfl nd rfl nd rfl rfl ⟨by omega, by omega⟩ | exact PRun.sliceHiS tabOk rfl rfl nd rfl nd rfl rfl ⟨by omega, by omega⟩ | exact std1) (by exact rfl) ?_ | refine AWP.seq ?_ | refine AWP.regionK (fun K' hK => ?_) | (refine AOps.nil (hK _ _ ?_); clear hK K') | refine AOps.e (EStep.boxW rfl rfl rfl rfl rfl True.intro rfl rfl ?_) | refine AOps.e (EStep.storeW tabOk rfl rfl rfl True.intro rfl rfl True.intro rfl rfl rfl rfl rfl rfl rfl ?_) | refine AOps.e (EStep.allocW tabOk rfl rfl rfl rfl rfl rfl ?_) | refine AOps.e (EStep.clearA tabOk rfl rfl rfl True.intro rfl (LOk.of (tabOk.get rfl)) (LOk.of (tabOk.get rfl)) rfl rfl rfl ?_) | (refine AWP.condW rfl True.intro (fun hc => ?_) (fun hc => ?_) <;> (first | (simp only [decide_eq_true_eq] at hc) | (simp only [decide_eq_false_iff_not, Int.not_lt, Int.not_le] at hc) | skip)) | refine AWP.block ?_ | refine AWP.exit ?_ | refine AWP.skip ?_ | refine AWP.ret ?_ | refine AWP.drawK2 (by decide +kernel) (by kernel_rfl) (by decide +kernel) rfl (fun K' hK => ?_) | refine AWP.drawL2 (by kernel_rfl) (by decide +kernel) rfl (fun K' hK => ?_) | (refine AQ.nil (hK _ ?_); clear hK K') | refine AQ.nil ?_ | refine AQ.q rfl rfl (fun hg => by first | exact std0 | exact PRun.lenA tabOk rfl rfl nd rfl | exact PRun.sliceLoS tabOk rfl rfl nd rfl nd rfl rfl ⟨by omega, by omega⟩ | exact PRun.sliceHiS tabOk rfl rfl nd rfl nd rfl rfl ⟨by omega, by omega⟩ | exact std1) (by exact rfl) ?_)
      all_goals (first | (exfalso; omega) | (exfalso; simp at hc; omega) | skip)
      refine ⟨.inr rfl, .sla 1 12 0 (l.filter (isOf p b)).length 0, [keyS p b, .arr 12 0 ((l.filter (isOf p b)).map encN)], ⟨rfl, rfl⟩, ?_, by simp, okA rfl, rfl, ?_⟩
      · show [_, _] = [_, _]
        rw [← h4, List.map_take]; simp
      · rw [← hil]; rfl
  · have hall : ∀ j, j < l.length → isOf p b (l.getD j default) = true := fun j hj => by
      rcases Bool.eq_false_or_eq_true (isOf p b (l.getD j default)) with h | h
      · exact h
      · exfalso
        have h3 := findI_any (fun x => !isOf p b x) l
        rw [decide_eq_false hf] at h3
        have h4 := List.all_eq_true.1 h3.symm (l.getD j default) (getD_mem hj)
        rw [h] at h4; simp at h4
    have hfl : l.filter (isOf p b) = l := List.filter_eq_self.2 fun x hx => by
      obtain ⟨j, hj, rfl⟩ := List.mem_iff_getElem.1 hx
      have := hall j hj
      rwa [getD_lt hj] at this
    have hm : findI (fun x => !isOf p b x) l = -1 := findI_no fun j hj => by rw [hall j hj]; rfl
    rw [hm] at hx
    rw [hfl]
    refine TCall.body Tryd.func56 rfl rfl Tryd.ntmps56 rfl rfl ?_
    repeat' (first | refine AOps.q rfl rfl rfl (fun hg => by first | exact std0 | exact std1) (by exact rfl) ?_ | refine AWP.seq ?_ | refine AWP.regionK (fun K' hK => ?_) | (refine AOps.nil (hK _ _ ?_); clear hK K') | refine AOps.e (EStep.boxW rfl rfl rfl rfl rfl True.intro rfl rfl ?_) | refine AOps.e (EStep.storeW tabOk rfl rfl rfl True.intro rfl rfl True.intro rfl rfl rfl rfl rfl rfl rfl ?_) | refine AOps.e (EStep.allocW tabOk rfl rfl rfl rfl rfl rfl ?_) | refine AOps.e (EStep.callT (hx) rfl rfl rfl rfl rfl nd rfl rfl nds ?_) | (refine AWP.condW rfl True.intro (fun hc => ?_) (fun hc => ?_) <;> (first | (simp only [decide_eq_true_eq] at hc) | (simp only [decide_eq_false_iff_not, Int.not_lt, Int.not_le] at hc) | skip)) | refine AWP.block ?_ | refine AWP.exit ?_ | refine AWP.skip ?_ | refine AWP.ret ?_ | (refine AQ.nil (hK _ ?_); clear hK K') | refine AQ.nil ?_ | refine AQ.q rfl rfl (fun hg => by first | exact std0 | exact std1) (by exact rfl) ?_)
    rintro r s ⟨rfl, rfl⟩
    repeat' (first | refine AOps.q rfl rfl rfl (fun hg => by first | exact std0 | exact std1) (by exact rfl) ?_ | refine AWP.seq ?_ | refine AWP.regionK (fun K' hK => ?_) | (refine AOps.nil (hK _ _ ?_); clear hK K') | refine AOps.e (EStep.boxW rfl rfl rfl rfl rfl True.intro rfl rfl ?_) | refine AOps.e (EStep.storeW tabOk rfl rfl rfl True.intro rfl rfl True.intro rfl rfl rfl rfl rfl rfl rfl ?_) | refine AOps.e (EStep.allocW tabOk rfl rfl rfl rfl rfl rfl ?_) | (refine AWP.condW rfl True.intro (fun hc => ?_) (fun hc => ?_) <;> (first | (simp only [decide_eq_true_eq] at hc) | (simp only [decide_eq_false_iff_not, Int.not_lt, Int.not_le] at hc) | skip)) | refine AWP.block ?_ | refine AWP.exit ?_ | refine AWP.skip ?_ | refine AWP.ret ?_ | (refine AQ.nil (hK _ ?_); clear hK K') | refine AQ.nil ?_ | refine AQ.q rfl rfl (fun hg => by first | exact std0 | exact std1) (by exact rfl) ?_)
    · exact ⟨.inr rfl, _, _, ⟨rfl, rfl⟩, rfl, Nat.le_refl _, okA rfl, rfl, rfl⟩
    all_goals (exfalso; simp at hc)
/-- The notes of a part in a bar, and the error. -/
def ofR (bars : List Bar) (l : List Note) (p b : Int) : List Note × Int :=
  if (notesOk bars l && inB p 1 1000000) && inB b 1 1000000 then (if (lk (idxAL bars) b).isSome then (sortN (idxAL bars) (l.filter (isOf p b)), 0) else ([], 21)) else ([], 1)
set_option maxHeartbeats 4000000 in
theorem of_spec (bars : List Bar) (l : List Note) (hb : bars.length ≤ 1000000000) (hl : l.length ≤ 1000000000) (p b : Int) :
    PCall Tryd.prog 22 [.sl 4 (bars.map encB) .no, .sl 12 (l.map encN) .no, .int p, .int b] (.tup [.sl 12 ((ofR bars l p b).1.map encN) .no, .int (ofR bars l p b).2]) := by
  have hv := nvalid_spec bars l (by omega) (by omega)
  have hi := indexes_spec bars (by omega)
  by_cases hok : ((notesOk bars l && inB p 1 1000000) && inB b 1 1000000) = true
  · have hn : notesOk bars l = true := by simp only [Bool.and_eq_true] at hok; exact hok.1.1
    have hok2 : ((!notesOk bars l || !inB p 1 1000000) || !inB b 1 1000000) = false := by
      revert hok; cases notesOk bars l <;> cases inB p 1 1000000 <;> cases inB b 1 1000000 <;> simp
    by_cases hk : (lk (idxAL bars) b).isSome = true
    · have er : ofR bars l p b = (sortN (idxAL bars) (l.filter (isOf p b)), 0) := by unfold ofR; rw [if_pos hok, if_pos hk]
      rw [er]
      have hin : ∀ n ∈ l.filter (isOf p b), noteIn n := fun n hn' => notesOk_in hn n (List.mem_filter.1 hn').1
      have hs := sorted_spec bars (l.filter (isOf p b)) hb (Nat.le_trans (List.length_filter_le _ _) hl) hin
      have hc' := TCall.val (first := []) (caps := []) (avs := [.sl 12 (l.map encN) .no]) (cloneT l hl p b)
      have hd' := TCall.val (first := []) (caps := []) (avs := [.sla 1 12 0 l.length 0, .fn (.func 58) [] [.ptr 0 0]]) (deleteT l hl p b)
      have h0 := TCall.val (first := []) (caps := []) (avs := [.nils, .fn (.func 58) [] [.ptr 0 0]]) (delete0 p b)
      refine PCall.body Tryd.func22 rfl rfl Tryd.ntmps22 rfl rfl ?_
      repeat' (first | refine AOps.q rfl rfl rfl (fun hg => by first | exact std0 | exact PRun.callW (hv) rfl rfl nd rfl nds | exact PRun.callW (hi) rfl rfl nd rfl nds | exact PRun.callW (nisID_spec _) rfl rfl nd rfl nds | exact PRun.lookup (ek := ekI) (ev := AV.int) (zv := 0) (keyLaw_int (LOk.of (tabOk.get rfl))) (LOk.of (tabOk.get rfl)) (LOk.of (tabOk.get rfl)) rfl rfl (Rd.w rfl nd) (Or.inl rfl) (Rd.w rfl nd) rfl | exact PRun.buildAW tabOk rfl rfl nds | exact std1) (by exact rfl) ?_ | refine AWP.seq ?_ | refine AWP.regionK (fun K' hK => ?_) | (refine AOps.nil (hK _ _ ?_); clear hK K') | refine AOps.e (EStep.boxW rfl rfl rfl rfl rfl True.intro rfl rfl ?_) | refine AOps.e (EStep.storeW tabOk rfl rfl rfl True.intro rfl rfl True.intro rfl rfl rfl rfl rfl rfl rfl ?_) | refine AOps.e (EStep.allocW tabOk rfl rfl rfl rfl rfl rfl ?_) | refine AOps.e (EStep.callT (hc') rfl rfl rfl rfl rfl nd rfl rfl nds ?_) | (refine AWP.condW rfl True.intro (fun hc => ?_) (fun hc => ?_) <;> (first | (simp only [decide_eq_true_eq] at hc) | (simp only [decide_eq_false_iff_not, Int.not_lt, Int.not_le] at hc) | skip)) | refine AWP.block ?_ | refine AWP.exit ?_ | refine AWP.skip ?_ | refine AWP.ret ?_ | refine AWP.drawK2 (by decide +kernel) (by kernel_rfl) (by decide +kernel) rfl (fun K' hK => ?_) | refine AWP.drawL2 (by kernel_rfl) (by decide +kernel) rfl (fun K' hK => ?_) | (refine AQ.nil (hK _ ?_); clear hK K') | refine AQ.nil ?_ | refine AQ.q rfl rfl (fun hg => by first | exact std0 | exact PRun.callW (hv) rfl rfl nd rfl nds | exact PRun.callW (hi) rfl rfl nd rfl nds | exact PRun.callW (nisID_spec _) rfl rfl nd rfl nds | exact PRun.lookup (ek := ekI) (ev := AV.int) (zv := 0) (keyLaw_int (LOk.of (tabOk.get rfl))) (LOk.of (tabOk.get rfl)) (LOk.of (tabOk.get rfl)) rfl rfl (Rd.w rfl nd) (Or.inl rfl) (Rd.w rfl nd) rfl | exact PRun.buildAW tabOk rfl rfl nds | exact std1) (by exact rfl) ?_)
      all_goals (first | (exact absurd (hok2.symm.trans hc) (by decide)) | (exact absurd hc (by rw [hk]; decide)) | skip)
      rintro r s (⟨h1, rfl, rfl⟩ | ⟨rfl, rfl⟩)
      · subst h1
        have hs0 := PCall.argE2 (u := .nils) Ent.nil hs
        repeat' (first | refine AOps.q rfl rfl rfl (fun hg => by first | exact std0 | exact std1) (by exact rfl) ?_ | refine AWP.seq ?_ | refine AWP.regionK (fun K' hK => ?_) | (refine AOps.nil (hK _ _ ?_); clear hK K') | refine AOps.e (EStep.boxW rfl rfl rfl rfl rfl True.intro rfl rfl ?_) | refine AOps.e (EStep.storeW tabOk rfl rfl rfl True.intro rfl rfl True.intro rfl rfl rfl rfl rfl rfl rfl ?_) | refine AOps.e (EStep.allocW tabOk rfl rfl rfl rfl rfl rfl ?_) | refine AOps.e (EStep.callT (h0) rfl rfl rfl rfl rfl nd rfl rfl nds ?_) | (refine AWP.condW rfl True.intro (fun hc => ?_) (fun hc => ?_) <;> (first | (simp only [decide_eq_true_eq] at hc) | (simp only [decide_eq_false_iff_not, Int.not_lt, Int.not_le] at hc) | skip)) | refine AWP.block ?_ | refine AWP.exit ?_ | refine AWP.skip ?_ | refine AWP.ret ?_ | refine AWP.drawK2 (by decide +kernel) (by kernel_rfl) (by decide +kernel) rfl (fun K' hK => ?_) | refine AWP.drawL2 (by kernel_rfl) (by decide +kernel) rfl (fun K' hK => ?_) | (refine AQ.nil (hK _ ?_); clear hK K') | refine AQ.nil ?_ | refine AQ.q rfl rfl (fun hg => by first | exact std0 | exact std1) (by exact rfl) ?_)
        rintro r s ⟨rfl, rfl⟩
        repeat' (first | refine AOps.q rfl rfl rfl (fun hg => by first | exact std0 | exact PRun.callW (hs0) rfl rfl nd rfl nds | exact std1) (by exact rfl) ?_ | refine AWP.seq ?_ | refine AWP.regionK (fun K' hK => ?_) | (refine AOps.nil (hK _ _ ?_); clear hK K') | refine AOps.e (EStep.boxW rfl rfl rfl rfl rfl True.intro rfl rfl ?_) | refine AOps.e (EStep.storeW tabOk rfl rfl rfl True.intro rfl rfl True.intro rfl rfl rfl rfl rfl rfl rfl ?_) | refine AOps.e (EStep.allocW tabOk rfl rfl rfl rfl rfl rfl ?_) | (refine AWP.condW rfl True.intro (fun hc => ?_) (fun hc => ?_) <;> (first | (simp only [decide_eq_true_eq] at hc) | (simp only [decide_eq_false_iff_not, Int.not_lt, Int.not_le] at hc) | skip)) | refine AWP.block ?_ | refine AWP.exit ?_ | refine AWP.skip ?_ | refine AWP.ret ?_ | refine AWP.drawK2 (by decide +kernel) (by kernel_rfl) (by decide +kernel) rfl (fun K' hK => ?_) | refine AWP.drawL2 (by kernel_rfl) (by decide +kernel) rfl (fun K' hK => ?_) | (refine AQ.nil (hK _ ?_); clear hK K') | refine AQ.nil ?_ | refine AQ.q rfl rfl (fun hg => by first | exact std0 | exact PRun.callW (hs0) rfl rfl nd rfl nds | exact std1) (by exact rfl) ?_)
        exact ⟨.inr rfl, fun _ _ h => h⟩
      · repeat' (first | refine AOps.q rfl rfl rfl (fun hg => by first | exact std0 | exact std1) (by exact rfl) ?_ | refine AWP.seq ?_ | refine AWP.regionK (fun K' hK => ?_) | (refine AOps.nil (hK _ _ ?_); clear hK K') | refine AOps.e (EStep.boxW rfl rfl rfl rfl rfl True.intro rfl rfl ?_) | refine AOps.e (EStep.storeW tabOk rfl rfl rfl True.intro rfl rfl True.intro rfl rfl rfl rfl rfl rfl rfl ?_) | refine AOps.e (EStep.allocW tabOk rfl rfl rfl rfl rfl rfl ?_) | refine AOps.e (EStep.callT (hd') rfl rfl rfl rfl rfl nd rfl rfl nds ?_) | (refine AWP.condW rfl True.intro (fun hc => ?_) (fun hc => ?_) <;> (first | (simp only [decide_eq_true_eq] at hc) | (simp only [decide_eq_false_iff_not, Int.not_lt, Int.not_le] at hc) | skip)) | refine AWP.block ?_ | refine AWP.exit ?_ | refine AWP.skip ?_ | refine AWP.drawK2 (by decide +kernel) (by kernel_rfl) (by decide +kernel) rfl (fun K' hK => ?_) | refine AWP.drawL2 (by kernel_rfl) (by decide +kernel) rfl (fun K' hK => ?_) | (refine AQ.nil (hK _ ?_); clear hK K') | refine AQ.nil ?_ | refine AQ.q rfl rfl (fun hg => by first | exact std0 | exact std1) (by exact rfl) ?_)
        rintro r s ⟨rfl, rfl⟩
        refine AOps.q rfl rfl rfl (fun hg => by exact std0) (by exact rfl) ?_
        (refine AOps.nil (hK _ _ ?_); clear hK K')
        refine AWP.freezeA (d := 13) (l := 1) (sz := 12) (ver := 0) (es := (l.filter (isOf p b)).map encN) (by show AV.sla 1 12 0 (l.filter (isOf p b)).length 0 = _; rw [List.length_map]) rfl (pureN _) ?_
        refine AWP.keep [(0, .sl 4 (bars.map encB) .no), (13, .sl 12 ((l.filter (isOf p b)).map encN) .no)] ⟨rfl, rfl, True.intro⟩ ?_
        repeat' (first | refine AOps.q rfl rfl rfl (fun hg => by first | exact std0 | exact PRun.callW (hs) rfl rfl nd rfl nds | exact std1) (by exact rfl) ?_ | refine AWP.seq ?_ | refine AWP.regionK (fun K' hK => ?_) | (refine AOps.nil (hK _ _ ?_); clear hK K') | refine AOps.e (EStep.boxW rfl rfl rfl rfl rfl True.intro rfl rfl ?_) | refine AOps.e (EStep.storeW tabOk rfl rfl rfl True.intro rfl rfl True.intro rfl rfl rfl rfl rfl rfl rfl ?_) | refine AOps.e (EStep.allocW tabOk rfl rfl rfl rfl rfl rfl ?_) | (refine AWP.condW rfl True.intro (fun hc => ?_) (fun hc => ?_) <;> (first | (simp only [decide_eq_true_eq] at hc) | (simp only [decide_eq_false_iff_not, Int.not_lt, Int.not_le] at hc) | skip)) | refine AWP.block ?_ | refine AWP.exit ?_ | refine AWP.skip ?_ | refine AWP.ret ?_ | refine AWP.drawK2 (by decide +kernel) (by kernel_rfl) (by decide +kernel) rfl (fun K' hK => ?_) | refine AWP.drawL2 (by kernel_rfl) (by decide +kernel) rfl (fun K' hK => ?_) | (refine AQ.nil (hK _ ?_); clear hK K') | refine AQ.nil ?_ | refine AQ.q rfl rfl (fun hg => by first | exact std0 | exact PRun.callW (hs) rfl rfl nd rfl nds | exact std1) (by exact rfl) ?_)
        exact ⟨.inr rfl, fun _ _ h => h⟩
    · have er : ofR bars l p b = ([], 21) := by unfold ofR; rw [if_pos hok, if_neg hk]
      rw [er]
      have hk2 : (lk (idxAL bars) b).isSome = false := by simpa using hk
      refine PCall.body Tryd.func22 rfl rfl Tryd.ntmps22 rfl rfl ?_
      repeat' (first | refine AOps.q rfl rfl rfl (fun hg => by first | exact std0 | exact PRun.callW (hv) rfl rfl nd rfl nds | exact PRun.callW (hi) rfl rfl nd rfl nds | exact PRun.callW (nisID_spec _) rfl rfl nd rfl nds | exact PRun.lookup (ek := ekI) (ev := AV.int) (zv := 0) (keyLaw_int (LOk.of (tabOk.get rfl))) (LOk.of (tabOk.get rfl)) (LOk.of (tabOk.get rfl)) rfl rfl (Rd.w rfl nd) (Or.inl rfl) (Rd.w rfl nd) rfl | exact std1) (by exact rfl) ?_ | refine AWP.seq ?_ | refine AWP.regionK (fun K' hK => ?_) | (refine AOps.nil (hK _ _ ?_); clear hK K') | refine AOps.e (EStep.boxW rfl rfl rfl rfl rfl True.intro rfl rfl ?_) | refine AOps.e (EStep.storeW tabOk rfl rfl rfl True.intro rfl rfl True.intro rfl rfl rfl rfl rfl rfl rfl ?_) | refine AOps.e (EStep.allocW tabOk rfl rfl rfl rfl rfl rfl ?_) | (refine AWP.condW rfl True.intro (fun hc => ?_) (fun hc => ?_) <;> (first | (simp only [decide_eq_true_eq] at hc) | (simp only [decide_eq_false_iff_not, Int.not_lt, Int.not_le] at hc) | skip)) | refine AWP.block ?_ | refine AWP.exit ?_ | refine AWP.skip ?_ | refine AWP.ret ?_ | (refine AQ.nil (hK _ ?_); clear hK K') | refine AQ.nil ?_ | refine AQ.q rfl rfl (fun hg => by first | exact std0 | exact PRun.callW (hv) rfl rfl nd rfl nds | exact PRun.callW (hi) rfl rfl nd rfl nds | exact PRun.callW (nisID_spec _) rfl rfl nd rfl nds | exact PRun.lookup (ek := ekI) (ev := AV.int) (zv := 0) (keyLaw_int (LOk.of (tabOk.get rfl))) (LOk.of (tabOk.get rfl)) (LOk.of (tabOk.get rfl)) rfl rfl (Rd.w rfl nd) (Or.inl rfl) (Rd.w rfl nd) rfl | exact std1) (by exact rfl) ?_)
      all_goals (first | (exact absurd (hok2.symm.trans hc) (by decide)) | (exact ⟨.inr rfl, Ent.tup2 Ent.nil (Ent.rfl' _)⟩) | skip)
      all_goals (exact absurd hc (by rw [hk2]; decide))
  · have er : ofR bars l p b = ([], 1) := by unfold ofR; rw [if_neg hok]
    rw [er]
    have hok2 : ((!notesOk bars l || !inB p 1 1000000) || !inB b 1 1000000) = true := by
      revert hok; cases notesOk bars l <;> cases inB p 1 1000000 <;> cases inB b 1 1000000 <;> simp
    refine PCall.body Tryd.func22 rfl rfl Tryd.ntmps22 rfl rfl ?_
    repeat' (first | refine AOps.q rfl rfl rfl (fun hg => by first | exact std0 | exact PRun.callW (hv) rfl rfl nd rfl nds | exact PRun.callW (hi) rfl rfl nd rfl nds | exact PRun.callW (nisID_spec _) rfl rfl nd rfl nds | exact PRun.lookup (ek := ekI) (ev := AV.int) (zv := 0) (keyLaw_int (LOk.of (tabOk.get rfl))) (LOk.of (tabOk.get rfl)) (LOk.of (tabOk.get rfl)) rfl rfl (Rd.w rfl nd) (Or.inl rfl) (Rd.w rfl nd) rfl | exact PRun.buildAW tabOk rfl rfl nds | exact std1) (by exact rfl) ?_ | refine AWP.seq ?_ | refine AWP.regionK (fun K' hK => ?_) | (refine AOps.nil (hK _ _ ?_); clear hK K') | refine AOps.e (EStep.boxW rfl rfl rfl rfl rfl True.intro rfl rfl ?_) | refine AOps.e (EStep.storeW tabOk rfl rfl rfl True.intro rfl rfl True.intro rfl rfl rfl rfl rfl rfl rfl ?_) | refine AOps.e (EStep.allocW tabOk rfl rfl rfl rfl rfl rfl ?_) | (refine AWP.condW rfl True.intro (fun hc => ?_) (fun hc => ?_) <;> (first | (simp only [decide_eq_true_eq] at hc) | (simp only [decide_eq_false_iff_not, Int.not_lt, Int.not_le] at hc) | skip)) | refine AWP.block ?_ | refine AWP.exit ?_ | refine AWP.skip ?_ | refine AWP.ret ?_ | (refine AQ.nil (hK _ ?_); clear hK K') | refine AQ.nil ?_ | refine AQ.q rfl rfl (fun hg => by first | exact std0 | exact PRun.callW (hv) rfl rfl nd rfl nds | exact PRun.callW (hi) rfl rfl nd rfl nds | exact PRun.callW (nisID_spec _) rfl rfl nd rfl nds | exact PRun.lookup (ek := ekI) (ev := AV.int) (zv := 0) (keyLaw_int (LOk.of (tabOk.get rfl))) (LOk.of (tabOk.get rfl)) (LOk.of (tabOk.get rfl)) rfl rfl (Rd.w rfl nd) (Or.inl rfl) (Rd.w rfl nd) rfl | exact PRun.buildAW tabOk rfl rfl nds | exact std1) (by exact rfl) ?_)
    all_goals (first | (exact ⟨.inr rfl, Ent.tup2 Ent.nil (Ent.rfl' _)⟩) | skip)
    all_goals (rename_i h0; exact absurd (hok2.symm.trans h0) (by decide))
end Go.Proofs.YtnmdmmfdnnmdfaaDoor.Nt
