/- There are no clashes exactly if any two readers of the section have the same bowing, by what they see, at notes that are alike, and no exceptions, wherever both have one; no condition beyond the row's own. -/
import Derived.SevenTiedAt
import Derived.Test.YtficfljjnbnhbaaGreatDoorCards
import Derived.Test.YtficfljjnbnhbaaGreatDoorTie
import Derived.Test.YtficfljjnbnhbaaGreatDoorP34
import Derived.Test.YtficfljjnbnhbaaGreatDoorP36
set_option linter.unusedVariables false
set_option linter.unusedSimpArgs false
namespace Go.Proofs.YtficfljjnbnhbaaGreatDoor.bagr
open Go.Ab Go.ChangeShapes Go.WideShapes Go.ChangeAt Go.RowKit Mk Bw
theorem paramsL : Tryz.f4.params.toList = [26, 27, 3, 28] := by kernel_rfl
theorem paramsA : Tryz.f4.params = #[26, 27, 3, 28] := by kernel_rfl
set_option maxRecDepth 100000 in
theorem lifted (os : Os) (started : os.Started) (H : Type) (enc : TypeId × Value → H) :
    ReturnsInHanded {} Tryz.checked os 4 .any (fun w args => (Rows.bowingAgreesSpec.pre enc Tryz.prog Tryz.f4 [] false w args ∧ laidMetH Tryz.prog laid1 w) ∧ sizedMet enc Tryz.prog Tryz.f4 (OpenSpec.ofChange Rows.bowingAgreesSpec) false w args) (Rows.bowingAgreesSpec.post enc Tryz.prog Tryz.f4 false true false false) := by
  refine returnsInHanded_of_change_and (C := Tryz.checked) (X := fun w _ => laidMetH Tryz.prog laid1 w) (fun _ _ _ hh h => h.of_heap hh) own started (by kernel_rfl) Tryz.func4
    (ChangeSpec.witness_shaped (enc := enc) (C := Tryz.checked) (os := os) (X := fun w _ => laidMetH Tryz.prog laid1 w) false (World.doorLaid Tryz.prog 4000 os) #[.agg #[.int .i64 0, .slice none 0 0, .slice none 0 0, .slice none 0 0], .slice none 0 0, .int .i64 0, .slice none 0 0] 8 rfl (World.shaped_of_RefB (by kernel_rfl) (by kernel_rfl)) (by kernel_rfl) (by kernel_rfl) (by kernel_rfl) (door_met os _)) ?_
  intro W base args ds gs before hval0 hW _ hsz0 hL _
  have hval : ∀ (j : Nat) t v, Tryz.f4.params[j]? = some t → args[j]? = some v → Value.okWide Tryz.prog W .any base t v := hval0
  have hW' := hW
  obtain ⟨p, q, hA0, hV, rfl, hfz, hnd⟩ := hW
  have hA : DataW.TrodAll enc Tryz.prog W 0 (fun _ => true) true Tryz.f4.params.toList args.toList ds p := hA0
  rw [paramsL] at hA
  rw [paramsA] at hval
  obtain ⟨v0, vs0, d0, ds0, p0, q0, hargs, rfl, rfl, h0, r0⟩ := trodAll_cons hA
  obtain ⟨v1, vs1, d1, ds1, p1, q1, rfl, rfl, rfl, h1, r1⟩ := trodAll_cons r0
  obtain ⟨v2, vs2, d2, ds2, p2, q2, rfl, rfl, rfl, h2, r2⟩ := trodAll_cons r1
  obtain ⟨v3, vs3, d3, ds3, p3, q3, rfl, rfl, rfl, h3, r3⟩ := trodAll_cons r2
  obtain ⟨rfl, rfl, rfl⟩ := trodAll_nil r3
  obtain rfl : args = #[v0, v1, v2, v3] := by cases args; simp_all
  obtain ⟨rfl, rfl⟩ := trodVars_none hV
  obtain ⟨a0, re0, b0⟩ := argScore (hval 0 26 v0 rfl rfl) h0
  obtain ⟨a1, re1, b1, t1⟩ := argMarks (hval 1 27 v1 rfl rfl) h1
  obtain ⟨a2, rfl, rfl, rfl, w2⟩ := open_int lk3.und_int (hval 2 3 v2 rfl rfl) h2
  obtain ⟨a3, re3, b3⟩ := argInts (hval 3 28 v3 rfl rfl) h3
  clear hA0 hval0
  refine ((agrees_law a0 b0 a1 b1 t1 a2 a3 b3).kept W (gam_laid hL) (args := #[v0, v1, .int .i64 a2, v3]) (Reads.args (.cons re0 (.cons re1 (.cons (.prim _) (.cons re3 .nil)))))).mono fun x W' ⟨he, bel⟩ => ?_
  subst he
  exact ⟨_, rfl, _, _, _, [], _, [], hW', trodAll_mk1 (shut_bool ((LOk.of (tabOk.get rfl) : LOk Tryz.prog 4 ⟨.bool, 1, 1, [.bool]⟩)).und_bool _), (trodAll_cons_mk (Kept.trod laidOut (by kernel_rfl) (of_decide_eq_true (by kernel_rfl)) h0 bel) (trodAll_cons_mk (Kept.trod laidOut (by kernel_rfl) (of_decide_eq_true (by kernel_rfl)) h1 bel) (trodAll_cons_mk (shut_int lk3.und_int w2) (trodAll_cons_mk (Kept.trod laidOut (by kernel_rfl) (of_decide_eq_true (by kernel_rfl)) h3 bel) trodAll_mk0)))), rfl, bel.frame _, fun h => by cases h⟩
theorem over : Rows.bowingAgreesRow.holds Tryz.pinned (OpenSpec.ofChange Rows.bowingAgreesSpec) :=
  OpenClaim.holds_of_wide 4 Tryz.f4 rfl rfl rfl rfl rfl rfl rfl ⟨rfl, rfl, rfl, rfl, rfl⟩ rfl rfl rfl rfl rfl (by kernel_rfl) Tryz.func4 (by kernel_rfl)
    (of_decide_eq_true (by kernel_rfl)) (by unfold Func.isWrapper; first | (rw [if_pos (by decide +kernel)]; kernel_rfl) | (rw [if_neg (by decide +kernel)]; exact ⟨rfl, rfl⟩))
    (fun os started H enc _ => lifted os started H enc)
theorem proved : Rows.BowingAgreesCardSaid :=
  Claim7.holds_tied_plain_at .later [] [.data] true (true, "e763a8eac35c874368b0950757ed8f0d2a32c5f6ac4141ceb053834143b983b0") false
    over (fun _ h => by cases h) (by kernel_rfl) (fun _ h => by cases h) bowingAgrees_row_tie rfl ⟨rfl, rfl⟩ (by kernel_rfl) rfl
    (fun f fn hf hfn => by
      obtain rfl : f = 4 := Option.some.inj ((show Tryz.prog.funcNamed "partbook/partbooklaw20.BowingAgrees" = some 4 by kernel_rfl).symm.trans hf) |>.symm
      obtain rfl : fn = Tryz.f4 := (Option.some.inj (Tryz.func4.symm.trans hfn)).symm
      exact ⟨by kernel_rfl, fun j t ht => by
        rw [paramsA] at ht
        match j, ht with
        | 0, ht => simp at ht; subst ht; exact (show Tryz.prog.wantsStandIn 26 = false by kernel_rfl)
        | 1, ht => simp at ht; subst ht; exact (show Tryz.prog.wantsStandIn 27 = false by kernel_rfl)
        | 2, ht => simp at ht; subst ht; exact (show Tryz.prog.wantsStandIn 3 = false by kernel_rfl)
        | 3, ht => simp at ht; subst ht; exact (show Tryz.prog.wantsStandIn 28 = false by kernel_rfl)
        | j + 4, ht => simp at ht⟩)
    (by kernel_rfl)
end Go.Proofs.YtficfljjnbnhbaaGreatDoor.bagr
