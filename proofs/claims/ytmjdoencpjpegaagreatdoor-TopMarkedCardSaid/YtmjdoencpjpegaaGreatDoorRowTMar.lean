/- For any works, decisions, stand and time, right or not, each mark of the stand's events is where stand.Front says that it is (works, decisions and events that the layers 32 call few); no condition beyond the row's own. -/
import Derived.SevenTiedAt
import Derived.Test.YtmjdoencpjpegaaGreatDoorCards
import Derived.Test.YtmjdoencpjpegaaGreatDoorTie
import Derived.Test.YtmjdoencpjpegaaGreatDoorP44
import Derived.Test.YtmjdoencpjpegaaGreatDoorP45
set_option linter.unusedVariables false
set_option linter.unusedSimpArgs false
namespace Go.Proofs.YtmjdoencpjpegaaGreatDoor.tmar
open Go.Ab Go.ChangeShapes Go.WideShapes Go.ChangeAt Go.RowKit Go.Proofs.YtmjdoencpjpegaaGreatDoor.Top
theorem paramsL : Tryz.f3.params.toList = [22, 23, 28, 3] := by kernel_rfl
theorem paramsA : Tryz.f3.params = #[22, 23, 28, 3] := by kernel_rfl
set_option maxRecDepth 100000 in
theorem lifted (os : Os) (started : os.Started) (H : Type) (enc : TypeId × Value → H) :
    ReturnsInHanded {} Tryz.checked os 3 .any (fun w args => (Rows.topMarkedSpec.pre enc Tryz.prog Tryz.f3 [] false w args ∧ laidMetH Tryz.prog uX w) ∧ sizedMet enc Tryz.prog Tryz.f3 (OpenSpec.ofChange Rows.topMarkedSpec) false w args) (Rows.topMarkedSpec.post enc Tryz.prog Tryz.f3 false true false false) := by
  refine returnsInHanded_of_change_and (C := Tryz.checked) (X := fun w _ => laidMetH Tryz.prog uX w) (fun _ _ _ hh h => h.of_heap hh) own started (by kernel_rfl) Tryz.func3
    (ChangeSpec.witness_shaped (enc := enc) (C := Tryz.checked) (os := os) (X := fun w _ => laidMetH Tryz.prog uX w) false (World.doorLaid Tryz.prog 4000 os) #[.slice none 0 0, .slice none 0 0, .agg #[.int .i64 0, .int .i64 0, .int .i64 0, .int .i64 0, .int .i64 0, .int .i64 0, .slice none 0 0], .int .i64 0] 8 rfl (World.shaped_of_RefB (by kernel_rfl) (by kernel_rfl)) (by kernel_rfl) (by kernel_rfl) (by kernel_rfl) (HD os _)) ?_
  intro W base args ds gs before hval0 hW _ GW hL _;have jU : ∀ (j : Nat) t v, Tryz.f3.params[j]? = some t → args[j]? = some v → Value.okWide Tryz.prog W .any base t v := hval0
  have hW' := hW;obtain ⟨p, q, hA0, hV, rfl, hfz, hnd⟩ := hW;have hA : DataW.TrodAll enc Tryz.prog W 0 (fun _ => true) true Tryz.f3.params.toList args.toList ds p := hA0;have hsz : (DataW.weightsEach Tryz.prog (Tryz.f3.params.toList ++ Rows.topMarkedSpec.plain.varTypes Tryz.prog) (ds ++ gs)).all (· ≤ reachBytes) = true := GW;rw [paramsL] at hsz;rw [paramsL] at hA;rw [paramsA] at jU;obtain ⟨v0, vs0, d0, ds0, p0, q0, gC, rfl, rfl, h0, r0⟩ := trodAll_cons hA;obtain ⟨v1, vs1, d1, ds1, p1, q1, rfl, rfl, rfl, h1, r1⟩ := trodAll_cons r0;obtain ⟨v2, vs2, d2, ds2, p2, q2, rfl, rfl, rfl, h2, r2⟩ := trodAll_cons r1;obtain ⟨v3, vs3, d3, ds3, p3, q3, rfl, rfl, rfl, h3, r3⟩ := trodAll_cons r2;obtain ⟨rfl, rfl, rfl⟩ := trodAll_nil r3;obtain rfl : args = #[v0, v1, v2, v3] := by cases args; simp_all
  obtain ⟨rfl, rfl⟩ := trodVars_none hV;obtain ⟨a0, re0, b0, t0⟩ := IZ (jU 0 22 v0 rfl rfl) h0 hsz (j := 0) rfl rfl;obtain ⟨a1, re1, b1⟩ := Lf (jU 1 23 v1 rfl rfl) h1;obtain ⟨a2, re2, b2, t2⟩ := I1 (jU 2 28 v2 rfl rfl) h2;obtain ⟨a3, rfl, rfl, rfl, w3⟩ := open_int lk3.sa (jU 3 3 v3 rfl rfl) h3;clear hA0 hval0;refine ((Top.Ef a0 b0 t0 a1 b1 a2 t2 b2 a3).kept W (HE hL) (args := #[v0, v1, v2, .int .i64 a3]) (Reads.args (.cons re0 (.cons re1 (.cons re2 (.cons (.prim _) .nil)))))).mono fun x W' ⟨he, bel⟩ => ?_
  subst he;exact ⟨_, rfl, _, _, _, [], _, [], hW', trodAll_mk1 (shut_bool ((LOk.of (ab.get rfl) : LOk Tryz.prog 4 ⟨.bool, 1, 1, [.bool]⟩)).GO _), (trodAll_cons_mk (Kept.trod laidOut (by kernel_rfl) (of_decide_eq_true (by kernel_rfl)) h0 bel) (trodAll_cons_mk (Kept.trod laidOut (by kernel_rfl) (of_decide_eq_true (by kernel_rfl)) h1 bel) (trodAll_cons_mk (Kept.trod laidOut (by kernel_rfl) (of_decide_eq_true (by kernel_rfl)) h2 bel) (trodAll_cons_mk (shut_int lk3.sa w3) trodAll_mk0)))), rfl, bel.frame _, fun h => by cases h⟩
theorem over : Rows.topMarkedRow.holds Tryz.pinned (OpenSpec.ofChange Rows.topMarkedSpec) :=
  OpenClaim.holds_of_wide 3 Tryz.f3 rfl rfl rfl rfl rfl rfl rfl ⟨rfl, rfl, rfl, rfl, rfl⟩ rfl rfl rfl rfl rfl (by kernel_rfl) Tryz.func3 (by kernel_rfl)
    (of_decide_eq_true (by kernel_rfl)) (by unfold Func.isWrapper; first | (rw [if_pos (by decide +kernel)]; kernel_rfl) | (rw [if_neg (by decide +kernel)]; exact ⟨rfl, rfl⟩))
    (fun os started H enc _ => lifted os started H enc)
theorem proved : Rows.TopMarkedCardSaid :=
  Claim7.holds_tied_plain_at .later [] [.data] true (true, "7bb9ff6a9d08bd794118c31be9f3d9784b146f19d06390525c2026b84a2ccd81") false
    over (fun _ h => by cases h) (by kernel_rfl) (fun _ h => by cases h) topMarked_row_tie rfl ⟨rfl, rfl⟩ (by kernel_rfl) rfl
    (fun f fn hf hfn => by
      obtain rfl : f = 3 := Option.some.inj ((show Tryz.prog.funcNamed "partbook/partbooktop.TopMarked" = some 3 by kernel_rfl).symm.trans hf) |>.symm
      obtain rfl : fn = Tryz.f3 := (Option.some.inj (Tryz.func3.symm.trans hfn)).symm
      exact ⟨by kernel_rfl, fun j t ht => by
        rw [paramsA] at ht
        match j, ht with
        | 0, ht => simp at ht; subst ht; exact (show Tryz.prog.wantsStandIn 22 = false by kernel_rfl)
        | 1, ht => simp at ht; subst ht; exact (show Tryz.prog.wantsStandIn 23 = false by kernel_rfl)
        | 2, ht => simp at ht; subst ht; exact (show Tryz.prog.wantsStandIn 28 = false by kernel_rfl)
        | 3, ht => simp at ht; subst ht; exact (show Tryz.prog.wantsStandIn 3 = false by kernel_rfl)
        | j + 4, ht => simp at ht⟩)
    (by kernel_rfl)
end Go.Proofs.YtmjdoencpjpegaaGreatDoor.tmar
