/- Calls that differ in Beat alone mean moments of the same visit, each at its Beat; a Beat that is not in the bar is ErrRange, if the bar is there (scores, editions and forms that the layers 8, 11 and 9 call few); no condition beyond the row's own. -/
import Derived.SevenTiedAt
import Derived.Test.YtdglbdfdkabjfaaGreatDoorCards
import Derived.Test.YtdglbdfdkabjfaaGreatDoorTie
import Derived.Test.YtdglbdfdkabjfaaGreatDoorP34
import Derived.Test.YtdglbdfdkabjfaaGreatDoorP37
set_option linter.unusedVariables false
set_option linter.unusedSimpArgs false
namespace Go.Proofs.YtdglbdfdkabjfaaGreatDoor.pbea
open Go.Ab Go.ChangeShapes Go.WideShapes Go.ChangeAt Go.RowKit Ed Go.Proofs.YtdglbdfdkabjfaaGreatDoor.Pl
theorem paramsL : Tryz.f7.params.toList = [26, 30, 40, 44, 42] := by kernel_rfl
theorem paramsA : Tryz.f7.params = #[26, 30, 40, 44, 42] := by kernel_rfl
set_option maxRecDepth 100000 in
theorem lifted (os : Os) (started : os.Started) (H : Type) (enc : TypeId × Value → H) :
    ReturnsInHanded {} Tryz.checked os 7 .any (fun w args => (Rows.placeBeatsSpec.pre enc Tryz.prog Tryz.f7 [] false w args ∧ laidMetH Tryz.prog laid1 w) ∧ sizedMet enc Tryz.prog Tryz.f7 (OpenSpec.ofChange Rows.placeBeatsSpec) false w args) (Rows.placeBeatsSpec.post enc Tryz.prog Tryz.f7 false true false false) := by
  refine returnsInHanded_of_change_and (C := Tryz.checked) (X := fun w _ => laidMetH Tryz.prog laid1 w) (fun _ _ _ hh h => h.of_heap hh) own started (by kernel_rfl) Tryz.func7
    (ChangeSpec.witness_shaped (enc := enc) (C := Tryz.checked) (os := os) (X := fun w _ => laidMetH Tryz.prog laid1 w) false (World.doorLaid Tryz.prog 4000 os) #[.agg #[.int .i64 0, .slice none 0 0, .slice none 0 0, .slice none 0 0], .agg #[.int .i64 0, .int .i64 0, .slice none 0 0, .slice none 0 0], .agg #[.int .i64 0, .int .i64 0, .slice none 0 0, .slice none 0 0, .int .i64 0, .int .i64 0, .int .i64 0, .slice none 0 0, .slice none 0 0], .agg #[.string ⟨#[]⟩, .int .i64 0, .int .i64 0, .int .i64 0, .int .i64 0, .int .i64 0], .agg #[.int .i64 0, .int .i64 0]] 8 rfl (World.shaped_of_RefB (by kernel_rfl) (by kernel_rfl)) (by kernel_rfl) (by kernel_rfl) (by kernel_rfl) (door_met os _)) ?_
  intro W base args ds gs before hval0 hW _ hsz0 hL _
  have hval : ∀ (j : Nat) t v, Tryz.f7.params[j]? = some t → args[j]? = some v → Value.okWide Tryz.prog W .any base t v := hval0
  have hW' := hW
  obtain ⟨p, q, hA0, hV, rfl, hfz, hnd⟩ := hW
  have hA : DataW.TrodAll enc Tryz.prog W 0 (fun _ => true) true Tryz.f7.params.toList args.toList ds p := hA0
  rw [paramsL] at hA
  rw [paramsA] at hval
  obtain ⟨v0, vs0, d0, ds0, p0, q0, hargs, rfl, rfl, h0, r0⟩ := trodAll_cons hA
  obtain ⟨v1, vs1, d1, ds1, p1, q1, rfl, rfl, rfl, h1, r1⟩ := trodAll_cons r0
  obtain ⟨v2, vs2, d2, ds2, p2, q2, rfl, rfl, rfl, h2, r2⟩ := trodAll_cons r1
  obtain ⟨v3, vs3, d3, ds3, p3, q3, rfl, rfl, rfl, h3, r3⟩ := trodAll_cons r2
  obtain ⟨v4, vs4, d4, ds4, p4, q4, rfl, rfl, rfl, h4, r4⟩ := trodAll_cons r3
  obtain ⟨rfl, rfl, rfl⟩ := trodAll_nil r4
  obtain rfl : args = #[v0, v1, v2, v3, v4] := by cases args; simp_all
  obtain ⟨rfl, rfl⟩ := trodVars_none hV
  obtain ⟨a0, re0, b0⟩ := argScore (hval 0 26 v0 rfl rfl) h0
  obtain ⟨a1, re1, b1⟩ := argEdition (hval 1 30 v1 rfl rfl) h1
  obtain ⟨a2, re2, b2⟩ := argRoom (hval 2 40 v2 rfl rfl) h2
  obtain ⟨a3, re3, b3⟩ := argCall (hval 3 44 v3 rfl rfl) h3
  obtain ⟨a4, re4⟩ := argRat (hval 4 42 v4 rfl rfl) h4
  clear hA0 hval0
  refine ((beats_law a0 b0 a1 b1 a2 b2 a3 b3 a4).kept W (gam_laid hL) (args := #[v0, v1, v2, v3, v4]) (Reads.args (.cons re0 (.cons re1 (.cons re2 (.cons re3 (.cons re4 .nil))))))).mono fun x W' ⟨he, bel⟩ => ?_
  subst he
  exact ⟨_, rfl, _, _, _, [], _, [], hW', trodAll_mk1 (shut_bool ((LOk.of (tabOk.get rfl) : LOk Tryz.prog 4 ⟨.bool, 1, 1, [.bool]⟩)).und_bool _), (trodAll_cons_mk (Kept.trod laidOut (by kernel_rfl) (of_decide_eq_true (by kernel_rfl)) h0 bel) (trodAll_cons_mk (Kept.trod laidOut (by kernel_rfl) (of_decide_eq_true (by kernel_rfl)) h1 bel) (trodAll_cons_mk (Kept.trod laidOut (by kernel_rfl) (of_decide_eq_true (by kernel_rfl)) h2 bel) (trodAll_cons_mk (Kept.trod laidOut (by kernel_rfl) (of_decide_eq_true (by kernel_rfl)) h3 bel) (trodAll_cons_mk (Kept.trod laidOut (by kernel_rfl) (of_decide_eq_true (by kernel_rfl)) h4 bel) trodAll_mk0))))), rfl, bel.frame _, fun h => by cases h⟩
theorem fact0 : (Rows.placeBeatsRow.wf (OpenSpec.ofChange Rows.placeBeatsSpec)) = true := by kernel_rfl
theorem fact1 : (laidOutB Tryz.pinned.checked.prog) = true := by kernel_rfl
theorem fact2 : (mapsRowed Tryz.pinned.checked.prog) = true := by kernel_rfl
theorem fact3 : (Tryz.f7.params.all (Tryz.pinned.checked.prog.readableRec ·)) = true := by kernel_rfl
theorem fact4 : (namedTie Tryz.pinned.checked.prog Rows.placeBeatsRow.named Rows.placeBeatsSpec.vars) = true := by kernel_rfl
theorem fact5 : ((Rows.placeBeatsRow.stops == [])) = true := by kernel_rfl
theorem fact6 : ((Tryz.pinned.checked.prog.stops == [])) = true := by kernel_rfl
theorem fact7 : ((Rows.placeBeatsRow.knobs == [])) = true := by kernel_rfl
theorem fact8 : ((Tryz.pinned.checked.prog.stopKnobs == [])) = true := by kernel_rfl
theorem fact9 : ((Rows.placeBeatsRow.inPlace == Tryz.pinned.checked.prog.inPlace 7)) = true := by kernel_rfl
theorem fact10 : ((Rows.placeBeatsRow.unfollowed == Tryz.pinned.checked.prog.unfollowed 7)) = true := by kernel_rfl
theorem fact11 : ((Rows.placeBeatsRow.recurses == Tryz.pinned.checked.prog.recurses 7)) = true := by kernel_rfl
theorem fact12 : ((Rows.placeBeatsRow.named == Tryz.pinned.checked.prog.varsNamed 7)) = true := by kernel_rfl
theorem fact13 : ((Rows.placeBeatsRow.maps == (Tryz.f7.params.toList ++ Rows.placeBeatsSpec.plain.varTypes Tryz.pinned.checked.prog).any (Tryz.pinned.checked.prog.mapsRec ·))) = true := by kernel_rfl
theorem fact14 : ((Rows.placeBeatsRow.ifaces == (Tryz.f7.params.toList ++ Rows.placeBeatsSpec.plain.varTypes Tryz.pinned.checked.prog).any (Tryz.pinned.checked.prog.ifacesRec ·))) = true := by kernel_rfl
theorem fact15 : ((Rows.placeBeatsRow.mapsOut == Tryz.pinned.checked.prog.mapsAmong Tryz.f7.resultTypes.toList)) = true := by kernel_rfl
theorem fact16 : ((Rows.placeBeatsRow.loops == (Tryz.f7.params.toList ++ Rows.placeBeatsSpec.plain.varTypes Tryz.pinned.checked.prog).any (Tryz.pinned.checked.prog.loopsFrom ·))) = true := by kernel_rfl
theorem fact17 : ((Rows.placeBeatsRow.wideKeys == (Tryz.f7.params.toList ++ Rows.placeBeatsSpec.plain.varTypes Tryz.pinned.checked.prog ++ Tryz.f7.resultTypes.toList).any (Tryz.pinned.checked.prog.wideKeysFrom ·))) = true := by kernel_rfl
theorem fact18 : (Rows.placeBeatsSpec.vars.all (Tryz.pinned.checked.prog.varReadable ·)) = true := by kernel_rfl
theorem fact19 : (Tryz.f7.resultTypes.all (fun t => Tryz.pinned.checked.prog.readableRec t && decide (t < Tryz.pinned.checked.prog.types.size))) = true := by kernel_rfl
theorem fact20 : ((Rows.placeBeatsRow.ifacesOut == Tryz.f7.resultTypes.toList.any (Tryz.pinned.checked.prog.ifacesRec ·))) = true := by kernel_rfl
theorem fact21 : ((Rows.placeBeatsRow.loopsOut == Tryz.f7.resultTypes.toList.any (Tryz.pinned.checked.prog.loopsFrom ·))) = true := by kernel_rfl
theorem fact22 : ((Rows.placeBeatsRow.plainKeys == Tryz.pinned.checked.prog.plainKeys)) = true := by kernel_rfl
theorem fact23 : (Rows.placeBeatsRow.shortTexts.isNone) = true := by kernel_rfl
theorem fact24 : (Tryz.pinned.checked.prog.stopsHeard) = true := by kernel_rfl
theorem fact25 : (Tryz.pinned.checked.prog.mayEnter) = true := by kernel_rfl
theorem fact26 : ((Rows.placeBeatsRow.lifted == Tryz.pinned.checked.prog.liftsFinal)) = true := by kernel_rfl
theorem fact27 : ((Tryz.pinned.checked.prog.make == some Rows.placeBeatsRow.make)) = true := by kernel_rfl
theorem fact29 : ((Rows.placeBeatsRow.pinned == Rows.placeBeatsRow.pinnedBy)) = true := by kernel_rfl
theorem fact30 : ((Rows.placeBeatsRow.veiled == (Tryz.f7.params.toList ++ Rows.placeBeatsSpec.plain.varTypes Tryz.pinned.checked.prog ++ Tryz.f7.resultTypes.toList).any (Tryz.pinned.checked.prog.veiledRec ·))) = true := by kernel_rfl
theorem fact31 : (Rows.placeBeatsRow.veiledFits Tryz.pinned.checked.prog Tryz.f7.params.toList (Tryz.f7.params.toList ++ Rows.placeBeatsSpec.plain.varTypes Tryz.pinned.checked.prog ++ Tryz.f7.resultTypes.toList)) = true := by kernel_rfl
theorem closed : joinedFacts Tryz.pinned.checked.prog 7 Tryz.f7 Rows.placeBeatsSpec Rows.placeBeatsRow = true := by
  unfold joinedFacts
  simp only [fact0, fact1, fact2, fact3, fact4, fact5, fact6, fact7, fact8, fact9, fact10, fact11, fact12, fact13, fact14, fact15, fact16, fact17, fact18, fact19, fact20, fact21, fact22, fact23, fact24, fact25, fact26, fact27, fact29, fact30, fact31, Bool.and_self, Bool.true_and, Bool.and_true]
  kernel_rfl
theorem over : Rows.placeBeatsRow.holds Tryz.pinned (OpenSpec.ofChange Rows.placeBeatsSpec) :=
  OpenClaim.holds_of_wide 7 Tryz.f7 rfl rfl rfl rfl rfl rfl rfl ⟨rfl, rfl, rfl, rfl, rfl⟩ rfl rfl rfl rfl rfl (by kernel_rfl) Tryz.func7 closed
    (of_decide_eq_true (by kernel_rfl)) (by unfold Func.isWrapper; first | (rw [if_pos (by decide +kernel)]; kernel_rfl) | (rw [if_neg (by decide +kernel)]; exact ⟨rfl, rfl⟩))
    (fun os started H enc _ => lifted os started H enc)
theorem proved : Rows.PlaceBeatsCardSaid :=
  Claim7.holds_tied_plain_at .later [] [.handle, .data] true (true, "823b189a5c97ebb486d91f27c2cd96f75e82d708bcadca5a191fd16754752226") true
    over (fun _ h => by cases h) (by kernel_rfl) (fun _ h => by cases h) placeBeats_row_tie rfl ⟨rfl, rfl⟩ (by kernel_rfl) rfl
    (fun f fn hf hfn => by
      obtain rfl : f = 7 := Option.some.inj ((show Tryz.prog.funcNamed "partbook/partbooklaw31.PlaceBeats" = some 7 by kernel_rfl).symm.trans hf) |>.symm
      obtain rfl : fn = Tryz.f7 := (Option.some.inj (Tryz.func7.symm.trans hfn)).symm
      exact ⟨by kernel_rfl, fun j t ht => by
        rw [paramsA] at ht
        match j, ht with
        | 0, ht => simp at ht; subst ht; exact (show Tryz.prog.wantsStandIn 26 = false by kernel_rfl)
        | 1, ht => simp at ht; subst ht; exact (show Tryz.prog.wantsStandIn 30 = false by kernel_rfl)
        | 2, ht => simp at ht; subst ht; exact (show Tryz.prog.wantsStandIn 40 = false by kernel_rfl)
        | 3, ht => simp at ht; subst ht; exact (show Tryz.prog.wantsStandIn 44 = false by kernel_rfl)
        | 4, ht => simp at ht; subst ht; exact (show Tryz.prog.wantsStandIn 42 = false by kernel_rfl)
        | j + 5, ht => simp at ht⟩)
    (by kernel_rfl)
end Go.Proofs.YtdglbdfdkabjfaaGreatDoor.pbea
