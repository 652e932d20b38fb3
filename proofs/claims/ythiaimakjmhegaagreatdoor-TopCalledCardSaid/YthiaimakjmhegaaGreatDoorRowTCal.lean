/- For any library, decisions, stands, time, number and call, right or not, all stands that know the same decisions mean the same by a place that one of them calls (libraries, decisions and stands that the layers 41 call few); no condition beyond the row's own. -/
import Derived.SevenTiedAt
import Derived.Test.YthiaimakjmhegaaGreatDoorCards
import Derived.Test.YthiaimakjmhegaaGreatDoorTie
import Derived.Test.YthiaimakjmhegaaGreatDoorP20
import Derived.Test.YthiaimakjmhegaaGreatDoorP41
set_option linter.unusedVariables false
set_option linter.unusedSimpArgs false
namespace Go.Proofs.YthiaimakjmhegaaGreatDoor.tcal
open Go.Ab Go.ChangeShapes Go.WideShapes Go.ChangeAt Go.RowKit Go.Proofs.YthiaimakjmhegaaGreatDoor.Top
theorem paramsL : Tryz.f3.params.toList = [27, 28, 29, 30, 5, 34] := by kernel_rfl
theorem paramsA : Tryz.f3.params = #[27, 28, 29, 30, 5, 34] := by kernel_rfl
theorem lkU : LOk Tryz.prog 5 ⟨.int .u8, 1, 1, [.i .u8]⟩ := .of (ab.get rfl)
theorem lkH : LOk Tryz.prog 30 ⟨.int .u16, 1, 2, [.i .u16]⟩ := .of (ab.get rfl)
set_option maxRecDepth 100000 in
theorem lifted (os : Os) (started : os.Started) (H : Type) (enc : TypeId × Value → H) :
    ReturnsInHanded {} Tryz.checked os 3 .any (fun w args => (Rows.topCalledSpec.pre enc Tryz.prog Tryz.f3 [] false w args ∧ laidMetH Tryz.prog tt w) ∧ sizedMet enc Tryz.prog Tryz.f3 (OpenSpec.ofChange Rows.topCalledSpec) false w args) (Rows.topCalledSpec.post enc Tryz.prog Tryz.f3 false true false false) := by
  refine returnsInHanded_of_change_and (C := Tryz.checked) (X := fun w _ => laidMetH Tryz.prog tt w) (fun _ _ _ hh h => h.of_heap hh) own started (by kernel_rfl) Tryz.func3
    (ChangeSpec.witness_shaped (enc := enc) (C := Tryz.checked) (os := os) (X := fun w _ => laidMetH Tryz.prog tt w) false (World.doorLaid Tryz.prog 4000 os) #[.agg #[.slice none 0 0, .slice none 0 0, .slice none 0 0, .slice none 0 0], .slice none 0 0, .slice none 0 0, .int .u16 0, .int .u8 0, .agg #[.string ⟨#[]⟩, .int .i64 0, .int .i64 0, .int .i64 0, .int .i64 0, .int .i64 0]] 8 rfl (World.shaped_of_RefB (by kernel_rfl) (by kernel_rfl)) (by kernel_rfl) (by kernel_rfl) (by kernel_rfl) (Gl os _)) ?_
  intro W base args ds gs before hval0 hW _ FH hL _;have dX : ∀ (j : Nat) t v, Tryz.f3.params[j]? = some t → args[j]? = some v → Value.okWide Tryz.prog W .any base t v := hval0
  have hW' := hW;obtain ⟨p, q, hA0, hV, rfl, hfz, hnd⟩ := hW;have hA : DataW.TrodAll enc Tryz.prog W 0 (fun _ => true) true Tryz.f3.params.toList args.toList ds p := hA0;have hsz : (DataW.weightsEach Tryz.prog (Tryz.f3.params.toList ++ Rows.topCalledSpec.plain.varTypes Tryz.prog) (ds ++ gs)).all (· ≤ reachBytes) = true := FH;rw [paramsL] at hsz;rw [paramsL] at hA;rw [paramsA] at dX;obtain ⟨v0, vs0, d0, ds0, p0, q0, gT, rfl, rfl, h0, r0⟩ := trodAll_cons hA;obtain ⟨v1, vs1, d1, ds1, p1, q1, rfl, rfl, rfl, h1, r1⟩ := trodAll_cons r0;obtain ⟨v2, vs2, d2, ds2, p2, q2, rfl, rfl, rfl, h2, r2⟩ := trodAll_cons r1;obtain ⟨v3, vs3, d3, ds3, p3, q3, rfl, rfl, rfl, h3, r3⟩ := trodAll_cons r2;obtain ⟨v4, vs4, d4, ds4, p4, q4, rfl, rfl, rfl, h4, r4⟩ := trodAll_cons r3;obtain ⟨v5, vs5, d5, ds5, p5, q5, rfl, rfl, rfl, h5, r5⟩ := trodAll_cons r4;obtain ⟨rfl, rfl, rfl⟩ := trodAll_nil r5;obtain rfl : args = #[v0, v1, v2, v3, v4, v5] := by cases args; simp_all
  obtain ⟨rfl, rfl⟩ := trodVars_none hV;obtain ⟨a0, re0, b0⟩ := KD (dX 0 27 v0 rfl rfl) h0 hsz (j := 0) rfl rfl;obtain ⟨a1, re1, b1⟩ := JJ (dX 1 28 v1 rfl rfl) h1;obtain ⟨a2, re2, b2, t2⟩ := Fm (dX 2 29 v2 rfl rfl) h2;obtain ⟨a3, rfl, rfl, rfl, w3⟩ := open_int lkH.lF (dX 3 30 v3 rfl rfl) h3;have b3 : 0 ≤ a3 ∧ a3 ≤ 65535 := by have w := w3; simp only [Lit.wf, Bool.and_eq_true, decide_eq_true_eq] at w; exact w
  obtain ⟨a4, rfl, rfl, rfl, w4⟩ := open_int lkU.lF (dX 4 5 v4 rfl rfl) h4;have b4 : 0 ≤ a4 ∧ a4 ≤ 255 := by have w := w4; simp only [Lit.wf, Bool.and_eq_true, decide_eq_true_eq] at w; exact w
  obtain ⟨a5, re5, b5⟩ := JL (dX 5 34 v5 rfl rfl) h5;clear hA0 hval0;refine ((Top.C4 a0 b0 a1 b1 a2 b2 t2 a3 b3 a4 b4 a5 b5).kept W (Gm hL) (args := #[v0, v1, v2, .int .u16 a3, .int .u8 a4, v5]) (Reads.args (.cons re0 (.cons re1 (.cons re2 (.cons (.prim _) (.cons (.prim _) (.cons re5 .nil)))))))).mono fun x W' ⟨he, bel⟩ => ?_
  subst he;exact ⟨_, rfl, _, _, _, [], _, [], hW', trodAll_mk1 (shut_bool ((LOk.of (ab.get rfl) : LOk Tryz.prog 4 ⟨.bool, 1, 1, [.bool]⟩)).FA _), (trodAll_cons_mk (Kept.trod laidOut (by kernel_rfl) (of_decide_eq_true (by kernel_rfl)) h0 bel) (trodAll_cons_mk (Kept.trod laidOut (by kernel_rfl) (of_decide_eq_true (by kernel_rfl)) h1 bel) (trodAll_cons_mk (Kept.trod laidOut (by kernel_rfl) (of_decide_eq_true (by kernel_rfl)) h2 bel) (trodAll_cons_mk (shut_int lkH.lF w3) (trodAll_cons_mk (shut_int lkU.lF w4) (trodAll_cons_mk (Kept.trod laidOut (by kernel_rfl) (of_decide_eq_true (by kernel_rfl)) h5 bel) trodAll_mk0)))))), rfl, bel.frame _, fun h => by cases h⟩
theorem Mt : (Rows.topCalledRow.wf (OpenSpec.ofChange Rows.topCalledSpec)) = true := by kernel_rfl
theorem Mu : (laidOutB Tryz.pinned.checked.prog) = true := by kernel_rfl
theorem Mv : (mapsRowed Tryz.pinned.checked.prog) = true := by kernel_rfl
theorem Mw : (Tryz.f3.params.all (Tryz.pinned.checked.prog.readableRec ·)) = true := by kernel_rfl
theorem Mx : (namedTie Tryz.pinned.checked.prog Rows.topCalledRow.named Rows.topCalledSpec.vars) = true := by kernel_rfl
theorem My : ((Rows.topCalledRow.stops == [])) = true := by kernel_rfl
theorem Mz : ((Tryz.pinned.checked.prog.stops == [])) = true := by kernel_rfl
theorem MA : ((Rows.topCalledRow.knobs == [])) = true := by kernel_rfl
theorem MB : ((Tryz.pinned.checked.prog.stopKnobs == [])) = true := by kernel_rfl
theorem MC : ((Rows.topCalledRow.inPlace == Tryz.pinned.checked.prog.inPlace 3)) = true := by kernel_rfl
theorem KF : ((Rows.topCalledRow.unfollowed == Tryz.pinned.checked.prog.unfollowed 3)) = true := by kernel_rfl
theorem KG : ((Rows.topCalledRow.recurses == Tryz.pinned.checked.prog.recurses 3)) = true := by kernel_rfl
theorem KH : ((Rows.topCalledRow.named == Tryz.pinned.checked.prog.varsNamed 3)) = true := by kernel_rfl
theorem KI : ((Rows.topCalledRow.maps == (Tryz.f3.params.toList ++ Rows.topCalledSpec.plain.varTypes Tryz.pinned.checked.prog).any (Tryz.pinned.checked.prog.mapsRec ·))) = true := by kernel_rfl
theorem KJ : ((Rows.topCalledRow.ifaces == (Tryz.f3.params.toList ++ Rows.topCalledSpec.plain.varTypes Tryz.pinned.checked.prog).any (Tryz.pinned.checked.prog.ifacesRec ·))) = true := by kernel_rfl
theorem KK : ((Rows.topCalledRow.mapsOut == Tryz.pinned.checked.prog.mapsAmong Tryz.f3.resultTypes.toList)) = true := by kernel_rfl
theorem KL : ((Rows.topCalledRow.loops == (Tryz.f3.params.toList ++ Rows.topCalledSpec.plain.varTypes Tryz.pinned.checked.prog).any (Tryz.pinned.checked.prog.loopsFrom ·))) = true := by kernel_rfl
theorem KM : ((Rows.topCalledRow.wideKeys == (Tryz.f3.params.toList ++ Rows.topCalledSpec.plain.varTypes Tryz.pinned.checked.prog ++ Tryz.f3.resultTypes.toList).any (Tryz.pinned.checked.prog.wideKeysFrom ·))) = true := by kernel_rfl
theorem KN : (Rows.topCalledSpec.vars.all (Tryz.pinned.checked.prog.varReadable ·)) = true := by kernel_rfl
theorem KO : (Tryz.f3.resultTypes.all (fun t => Tryz.pinned.checked.prog.readableRec t && decide (t < Tryz.pinned.checked.prog.types.size))) = true := by kernel_rfl
theorem KP : ((Rows.topCalledRow.ifacesOut == Tryz.f3.resultTypes.toList.any (Tryz.pinned.checked.prog.ifacesRec ·))) = true := by kernel_rfl
theorem KQ : ((Rows.topCalledRow.loopsOut == Tryz.f3.resultTypes.toList.any (Tryz.pinned.checked.prog.loopsFrom ·))) = true := by kernel_rfl
theorem KR : ((Rows.topCalledRow.plainKeys == Tryz.pinned.checked.prog.plainKeys)) = true := by kernel_rfl
theorem KS : (Rows.topCalledRow.shortTexts.isNone) = true := by kernel_rfl
theorem KT : (Tryz.pinned.checked.prog.stopsHeard) = true := by kernel_rfl
theorem KU : (Tryz.pinned.checked.prog.mayEnter) = true := by kernel_rfl
theorem KV : ((Rows.topCalledRow.lifted == Tryz.pinned.checked.prog.liftsFinal)) = true := by kernel_rfl
theorem KW : ((Tryz.pinned.checked.prog.make == some Rows.topCalledRow.make)) = true := by kernel_rfl
theorem KX : ((Rows.topCalledRow.pinned == Rows.topCalledRow.pinnedBy)) = true := by kernel_rfl
theorem KY : ((Rows.topCalledRow.veiled == (Tryz.f3.params.toList ++ Rows.topCalledSpec.plain.varTypes Tryz.pinned.checked.prog ++ Tryz.f3.resultTypes.toList).any (Tryz.pinned.checked.prog.veiledRec ·))) = true := by kernel_rfl
theorem KZ : (Rows.topCalledRow.veiledFits Tryz.pinned.checked.prog Tryz.f3.params.toList (Tryz.f3.params.toList ++ Rows.topCalledSpec.plain.varTypes Tryz.pinned.checked.prog ++ Tryz.f3.resultTypes.toList)) = true := by kernel_rfl
theorem closed : joinedFacts Tryz.pinned.checked.prog 3 Tryz.f3 Rows.topCalledSpec Rows.topCalledRow = true := by
  unfold joinedFacts;simp only [Mt, Mu, Mv, Mw, Mx, My, Mz, MA, MB, MC, KF, KG, KH, KI, KJ, KK, KL, KM, KN, KO, KP, KQ, KR, KS, KT, KU, KV, KW, KX, KY, KZ, Bool.and_self, Bool.true_and, Bool.and_true]
  kernel_rfl
theorem over : Rows.topCalledRow.holds Tryz.pinned (OpenSpec.ofChange Rows.topCalledSpec) :=
  OpenClaim.holds_of_wide 3 Tryz.f3 rfl rfl rfl rfl rfl rfl rfl ⟨rfl, rfl, rfl, rfl, rfl⟩ rfl rfl rfl rfl rfl (by kernel_rfl) Tryz.func3 closed
    (of_decide_eq_true (by kernel_rfl)) (by unfold Func.isWrapper; first | (rw [if_pos (by decide +kernel)]; kernel_rfl) | (rw [if_neg (by decide +kernel)]; exact ⟨rfl, rfl⟩))
    (fun os started H enc _ => lifted os started H enc)
theorem proved : Rows.TopCalledCardSaid :=
  Claim7.holds_tied_plain_at .later [] [.handle, .data] true (true, "5e880d8a09ecb69702c2c7beb74b43c376d725898993e58bcde1f160a54b66fb") true
    over (fun _ h => by cases h) (by kernel_rfl) (fun _ h => by cases h) topCalled_row_tie rfl ⟨rfl, rfl⟩ (by kernel_rfl) rfl
    (fun f fn hf hfn => by
      obtain rfl : f = 3 := Option.some.inj ((show Tryz.prog.funcNamed "partbook/partbooktop.TopCalled" = some 3 by kernel_rfl).symm.trans hf) |>.symm
      obtain rfl : fn = Tryz.f3 := (Option.some.inj (Tryz.func3.symm.trans hfn)).symm
      exact ⟨by kernel_rfl, fun j t ht => by
        rw [paramsA] at ht
        match j, ht with
        | 0, ht => simp at ht; subst ht; exact (show Tryz.prog.wantsStandIn 27 = false by kernel_rfl)
        | 1, ht => simp at ht; subst ht; exact (show Tryz.prog.wantsStandIn 28 = false by kernel_rfl)
        | 2, ht => simp at ht; subst ht; exact (show Tryz.prog.wantsStandIn 29 = false by kernel_rfl)
        | 3, ht => simp at ht; subst ht; exact (show Tryz.prog.wantsStandIn 30 = false by kernel_rfl)
        | 4, ht => simp at ht; subst ht; exact (show Tryz.prog.wantsStandIn 5 = false by kernel_rfl)
        | 5, ht => simp at ht; subst ht; exact (show Tryz.prog.wantsStandIn 34 = false by kernel_rfl)
        | j + 6, ht => simp at ht⟩)
    (by kernel_rfl)
end Go.Proofs.YthiaimakjmhegaaGreatDoor.tcal
