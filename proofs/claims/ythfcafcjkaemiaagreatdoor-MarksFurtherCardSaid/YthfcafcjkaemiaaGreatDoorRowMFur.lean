/- A further mark is seen by a reader for whom it is meant, if it counts before the one that was seen at its note, of its kind, and all others that were seen still are (scores of up to 60 bars, 61 parts and 60 notes, up to 39 marks); no condition beyond the row's own. -/
import Derived.Test.YthfcafcjkaemiaaGreatDoorMV2
import Derived.Test.YthfcafcjkaemiaaGreatDoorRM
import Derived.Test.YthfcafcjkaemiaaGreatDoorCards
import Derived.Test.YthfcafcjkaemiaaGreatDoorTie
import Derived.SevenTiedAt
set_option linter.unusedVariables false
set_option linter.unusedSimpArgs false
set_option maxRecDepth 20000
namespace Go.Ab
open Go.ChangeShapes Go.WideShapes
section
variable {H : Type} {enc : TypeId × Value → H} {P : Program} {w : World} {base : Nat} {held : Bool} {spare : Nat → Bool}
theorem slice_sized {t e : TypeId} {sz b : Nat} {v : Value} {d : DataW H} {p : List MemPlace} {es : List (List AV)} {ts : List TypeId} {ds : List (DataW H)} (hu : P.underlying t = some (.slice e)) (hb : P.bytesOf e = b) (h : DataW.Trod enc P w base spare held t v d p)
    (hr : VRel (memOf w) [] (.sl sz es .no) v) (hs : (DataW.weightsEach P ts ds).all (· ≤ reachBytes) = true) {j : Nat} (ht : ts[j]? = some t) (hd : ds[j]? = some d) : es.length * b ≤ reachBytes := by
  obtain ⟨fuel, hf⟩ := h
  rcases Deep.open_slice hu hf with ⟨h1, h2⟩ | ⟨a, len, cap, m, n, D, Pl, h1, _, _, _, _, h2, _⟩
  · cases hr with
    | sl _ _ _ b off cap f => simp [Value.cells] at h1
    | slz => simp
    | slzz => simp
  · have hd' : d = .slice ((List.range len).map D) ((List.range (m - len)).map fun j => D (len + j)) := congrArg Prod.fst h2
    subst hd'
    have := sized_slice hs ht hd hu
    rw [hb] at this
    have hl : es.length = len := by
      cases hr with
      | sl _ _ _ b off cap f => simp [Value.cells] at h1; omega
      | slz => simp [Value.cells] at h1
      | slzz => simp [Value.cells] at h1; simp; omega
    rw [hl]
    refine Nat.le_trans (Nat.mul_le_mul_right b ?_) this
    simp
end
end Go.Ab
namespace Go.Proofs.YthfcafcjkaemiaaGreatDoor.Mk
open Go.Ab Go.Jo Go.ChangeShapes Go.WideShapes
section
variable {H : Type} {enc : TypeId × Value → H} {W : World} {base b0 fuel : Nat} {held : Bool} {spare : Nat → Bool}
theorem ctM : Tryz.prog.cellTypes Tryz.prog.depth 68 = some [3, 3, 3, 3, 3, 3, 3, 3, 3, 9] := by kernel_rfl
theorem ctPart : Tryz.prog.cellTypes Tryz.prog.depth 41 = some [3, 3, 3, 3, 3, 3, 3, 3, 3, 3, 3, 3, 3] := by kernel_rfl
theorem argMark {r : Reach} {v : Value} {d : DataW H} {p : List MemPlace} (hval : Value.okWide Tryz.prog W r b0 68 v) (h : DataW.Trod enc Tryz.prog W base spare held 68 v d p) : ∃ e : Jo.Mark, VRel (memOf W) [] (.agg (encMk e)) v ∧ e.text.length ≤ 9223372036854775807 := by
  obtain ⟨cs, rfl, hsz, _⟩ := struct_ok lkM ctM hval
  obtain ⟨fuel, hf⟩ := h
  obtain ⟨l, rfl⟩ : ∃ l, cs = List.toArray l := ⟨cs.toList, by simp⟩
  simp only [Value.cells] at hf
  obtain ⟨e, he, hb⟩ := rdM hf
  have he : l = vM e := by simpa using he
  subst he
  refine ⟨e, .agg _ _ rfl fun i c hi => ?_, hb⟩
  have := relM (W := W) e i c hi
  simpa using this
theorem argPart {r : Reach} {v : Value} {d : DataW H} {p : List MemPlace} (hval : Value.okWide Tryz.prog W r b0 41 v) (h : DataW.Trod enc Tryz.prog W base spare held 41 v d p) : ∃ e : Part, VRel (memOf W) [] (.agg (encP e)) v := by
  obtain ⟨cs, rfl, hsz, _⟩ := struct_ok lkPart ctPart hval
  obtain ⟨fuel, hf⟩ := h
  obtain ⟨l, rfl⟩ : ∃ l, cs = List.toArray l := ⟨cs.toList, by simp⟩
  simp only [Value.cells] at hf
  obtain ⟨e, he⟩ := rdPart hf
  have he : l = vPart e := by simpa using he
  subst he
  refine ⟨e, .agg _ _ rfl fun i c hi => ?_⟩
  have := relPart (W := W) e i c hi
  simpa using this
theorem argMarksZ {r : Reach} {v : Value} {d : DataW H} {p : List MemPlace} {ts : List TypeId} {ds : List (DataW H)} (hval : Value.okWide Tryz.prog W r b0 64 v) (h : DataW.Trod enc Tryz.prog W base spare held 64 v d p) (hs : (DataW.weightsEach Tryz.prog ts ds).all (· ≤ reachBytes) = true) {j : Nat} (ht : ts[j]? = some 64) (hd : ds[j]? = some d) :
    ∃ l : List Jo.Mark, VRel (memOf W) [] (.sl 10 (l.map encMk) .no) v ∧ l.length * 88 ≤ 140737488351232 ∧ TextsIn l := by
  obtain ⟨l, h1, _, h3⟩ := argMarks hval h
  have := slice_sized (b := 88) lkSM.und_slice (by kernel_rfl) h h1 hs ht hd
  have hr : reachBytes = 140737488351232 := by decide
  rw [List.length_map, hr] at this
  exact ⟨l, h1, this, h3⟩
end
end Go.Proofs.YthfcafcjkaemiaaGreatDoor.Mk
namespace Go.Proofs.YthfcafcjkaemiaaGreatDoor.mfur
open Go.Ab Go.ChangeShapes Go.WideShapes Go.ChangeAt Go.RowKit Mk
theorem paramsL : Tryz.f10.params.toList = [26, 64, 68, 66] := by kernel_rfl
theorem paramsA : Tryz.f10.params = #[26, 64, 68, 66] := by kernel_rfl
set_option maxRecDepth 100000 in
theorem lifted (os : Os) (started : os.Started) (H : Type) (enc : TypeId × Value → H) :
    ReturnsInHanded {} Tryz.checked os 10 .any (fun w args => (Rows.marksFurtherSpec.pre enc Tryz.prog Tryz.f10 [] false w args ∧ laidMetH Tryz.prog laid1 w) ∧ sizedMet enc Tryz.prog Tryz.f10 (OpenSpec.ofChange Rows.marksFurtherSpec) false w args) (Rows.marksFurtherSpec.post enc Tryz.prog Tryz.f10 false true false false) := by
  refine returnsInHanded_of_change_and (C := Tryz.checked) (X := fun w _ => laidMetH Tryz.prog laid1 w) (fun _ _ _ hh h => h.of_heap hh) own started (by kernel_rfl) Tryz.func10
    (ChangeSpec.witness_shaped (enc := enc) (C := Tryz.checked) (os := os) (X := fun w _ => laidMetH Tryz.prog laid1 w) false (World.doorLaid Tryz.prog 4000 os) #[.agg #[.int .i64 0, .slice none 0 0, .slice none 0 0, .slice none 0 0], .slice none 0 0, .agg #[.int .i64 0, .int .i64 0, .int .i64 0, .int .i64 0, .int .i64 0, .int .i64 0, .int .i64 0, .int .i64 0, .int .i64 0, .string ⟨#[]⟩], .agg #[.int .i64 0, .int .i64 0, .int .i64 0]] 8 rfl (World.shaped_of_RefB (by kernel_rfl) (by kernel_rfl)) (by kernel_rfl) (by kernel_rfl) (by kernel_rfl) (door_met os _)) ?_
  intro W base args ds gs before hval0 hW _ hsz0 hL _
  have hval : ∀ (j : Nat) t v, Tryz.f10.params[j]? = some t → args[j]? = some v → Value.okWide Tryz.prog W .any base t v := hval0
  have hW' := hW
  obtain ⟨p, q, hA0, hV, rfl, hfz, hnd⟩ := hW
  have hA : DataW.TrodAll enc Tryz.prog W 0 (fun _ => true) true Tryz.f10.params.toList args.toList ds p := hA0
  have hsz : (DataW.weightsEach Tryz.prog (Tryz.f10.params.toList ++ Rows.marksFurtherSpec.plain.varTypes Tryz.prog) (ds ++ gs)).all (· ≤ reachBytes) = true := hsz0
  rw [paramsL] at hsz
  rw [paramsL] at hA
  rw [paramsA] at hval
  obtain ⟨v0, vs0, d0, ds0, p0, q0, hargs, rfl, rfl, h0, r0⟩ := trodAll_cons hA
  obtain ⟨v1, vs1, d1, ds1, p1, q1, rfl, rfl, rfl, h1, r1⟩ := trodAll_cons r0
  obtain ⟨v2, vs2, d2, ds2, p2, q2, rfl, rfl, rfl, h2, r2⟩ := trodAll_cons r1
  obtain ⟨v3, vs3, d3, ds3, p3, q3, rfl, rfl, rfl, h3, r3⟩ := trodAll_cons r2
  obtain ⟨rfl, rfl, rfl⟩ := trodAll_nil r3
  obtain rfl : args = #[v0, v1, v2, v3] := by cases args; simp_all
  obtain ⟨rfl, rfl⟩ := trodVars_none hV
  obtain ⟨a0, re0, b0⟩ := argScore (hval 0 26 v0 rfl rfl) h0
  obtain ⟨a1, re1, b1, t1⟩ := argMarksZ (hval 1 64 v1 rfl rfl) h1 hsz (j := 1) rfl rfl
  obtain ⟨a2, re2, b2⟩ := argMark (hval 2 68 v2 rfl rfl) h2
  obtain ⟨a3, re3⟩ := argReader (hval 3 66 v3 rfl rfl) h3
  clear hA0 hval0
  refine ((further_law a0 b0 a1 b1 t1 a2 b2 a3).kept W (gam_laid hL) (args := #[v0, v1, v2, v3]) (Reads.args (.cons re0 (.cons re1 (.cons re2 (.cons re3 .nil)))))).mono fun x W' ⟨he, bel⟩ => ?_
  subst he
  exact ⟨_, rfl, _, _, _, [], _, [], hW', trodAll_mk1 (shut_bool ((LOk.of (tabOk.get rfl) : LOk Tryz.prog 4 ⟨.bool, 1, 1, [.bool]⟩)).und_bool _), (trodAll_cons_mk (Kept.trod laidOut (by kernel_rfl) (of_decide_eq_true (by kernel_rfl)) h0 bel) (trodAll_cons_mk (Kept.trod laidOut (by kernel_rfl) (of_decide_eq_true (by kernel_rfl)) h1 bel) (trodAll_cons_mk (Kept.trod laidOut (by kernel_rfl) (of_decide_eq_true (by kernel_rfl)) h2 bel) (trodAll_cons_mk (Kept.trod laidOut (by kernel_rfl) (of_decide_eq_true (by kernel_rfl)) h3 bel) trodAll_mk0)))), rfl, bel.frame _, fun h => by cases h⟩
theorem over : Rows.marksFurtherRow.holds Tryz.pinned (OpenSpec.ofChange Rows.marksFurtherSpec) :=
  OpenClaim.holds_of_wide 10 Tryz.f10 rfl rfl rfl rfl rfl rfl rfl ⟨rfl, rfl, rfl, rfl, rfl⟩ rfl rfl rfl rfl rfl (by kernel_rfl) Tryz.func10 (by kernel_rfl)
    (of_decide_eq_true (by kernel_rfl)) (by unfold Func.isWrapper; first | (rw [if_pos (by decide +kernel)]; kernel_rfl) | (rw [if_neg (by decide +kernel)]; exact ⟨rfl, rfl⟩))
    (fun os started H enc _ => lifted os started H enc)
theorem proved : Rows.MarksFurtherCardSaid :=
  Claim7.holds_tied_plain_at .later [] [.data] true (true, "cc6068cba889bc702be7df9d40241c749401806eca4590df140c891af0a7fd90") false
    over (fun _ h => by cases h) (by kernel_rfl) (fun _ h => by cases h) marksFurther_row_tie rfl ⟨rfl, rfl⟩ (by kernel_rfl) rfl
    (fun f fn hf hfn => by
      obtain rfl : f = 10 := Option.some.inj ((show Tryz.prog.funcNamed "partbook/partbooklaw19.MarksFurther" = some 10 by kernel_rfl).symm.trans hf) |>.symm
      obtain rfl : fn = Tryz.f10 := (Option.some.inj (Tryz.func10.symm.trans hfn)).symm
      exact ⟨by kernel_rfl, fun j t ht => by
        rw [paramsA] at ht
        match j, ht with
        | 0, ht => simp at ht; subst ht; exact (show Tryz.prog.wantsStandIn 26 = false by kernel_rfl)
        | 1, ht => simp at ht; subst ht; exact (show Tryz.prog.wantsStandIn 64 = false by kernel_rfl)
        | 2, ht => simp at ht; subst ht; exact (show Tryz.prog.wantsStandIn 68 = false by kernel_rfl)
        | 3, ht => simp at ht; subst ht; exact (show Tryz.prog.wantsStandIn 66 = false by kernel_rfl)
        | j + 4, ht => simp at ht⟩)
    (by kernel_rfl)
end Go.Proofs.YthfcafcjkaemiaaGreatDoor.mfur
