/- CarryDirect: what becomes of a mark does not depend on other versions; no condition. -/
import Derived.SevenTiedAt
import Derived.Test.YtekfpcgagoidcaaGreatDoorCards
import Derived.Test.YtekfpcgagoidcaaGreatDoorTie
import Derived.Test.YtekfpcgagoidcaaGreatDoorV34
import Derived.Test.YtekfpcgagoidcaaGreatDoorV36
set_option linter.unusedVariables false
set_option linter.unusedSimpArgs false
namespace Go.Proofs.YtekfpcgagoidcaaGreatDoor.cdir
open Go.Ab Go.ChangeShapes Go.WideShapes Go.ChangeAt Go.RowKit Mk Al Cy
theorem paramsL : Tryz.f12.params.toList = [65, 69, 5, 5] := by kernel_rfl
theorem paramsA : Tryz.f12.params = #[65, 69, 5, 5] := by kernel_rfl
theorem lkU : LOk Tryz.prog 5 ⟨.int .u8, 1, 1, [.i .u8]⟩ := .of (tabOk.get rfl)
set_option maxRecDepth 100000 in
theorem lifted (os : Os) (started : os.Started) (H : Type) (enc : TypeId × Value → H) :
    ReturnsInHanded {} Tryz.checked os 12 .any (fun w args => (Rows.carryDirectSpec.pre enc Tryz.prog Tryz.f12 [] false w args ∧ laidMetH Tryz.prog laid1 w) ∧ sizedMet enc Tryz.prog Tryz.f12 (OpenSpec.ofChange Rows.carryDirectSpec) false w args) (Rows.carryDirectSpec.post enc Tryz.prog Tryz.f12 false true false false) := by
  refine returnsInHanded_of_change_and (C := Tryz.checked) (X := fun w _ => laidMetH Tryz.prog laid1 w) (fun _ _ _ hh h => h.of_heap hh) own started (by kernel_rfl) Tryz.func12
    (ChangeSpec.witness_shaped (enc := enc) (C := Tryz.checked) (os := os) (X := fun w _ => laidMetH Tryz.prog laid1 w) false (World.doorLaid Tryz.prog 4000 os) #[.slice none 0 0, .agg #[.int .i64 0, .int .i64 0, .int .i64 0, .int .i64 0, .int .i64 0, .int .i64 0, .int .i64 0, .int .i64 0, .int .i64 0, .string ⟨#[]⟩], .int .u8 0, .int .u8 0] 8 rfl (World.shaped_of_RefB (by kernel_rfl) (by kernel_rfl)) (by kernel_rfl) (by kernel_rfl) (by kernel_rfl) (door_met os _)) ?_
  intro W base args ds gs before hval0 hW _ hsz0 hL _
  have hval : ∀ (j : Nat) t v, Tryz.f12.params[j]? = some t → args[j]? = some v → Value.okWide Tryz.prog W .any base t v := hval0
  have hW' := hW
  obtain ⟨p, q, hA0, hV, rfl, hfz, hnd⟩ := hW
  have hA : DataW.TrodAll enc Tryz.prog W 0 (fun _ => true) true Tryz.f12.params.toList args.toList ds p := hA0
  rw [paramsL] at hA
  rw [paramsA] at hval
  obtain ⟨v0, vs0, d0, ds0, p0, q0, hargs, rfl, rfl, h0, r0⟩ := trodAll_cons hA
  obtain ⟨v1, vs1, d1, ds1, p1, q1, rfl, rfl, rfl, h1, r1⟩ := trodAll_cons r0
  obtain ⟨v2, vs2, d2, ds2, p2, q2, rfl, rfl, rfl, h2, r2⟩ := trodAll_cons r1
  obtain ⟨v3, vs3, d3, ds3, p3, q3, rfl, rfl, rfl, h3, r3⟩ := trodAll_cons r2
  obtain ⟨rfl, rfl, rfl⟩ := trodAll_nil r3
  obtain rfl : args = #[v0, v1, v2, v3] := by cases args; simp_all
  obtain ⟨rfl, rfl⟩ := trodVars_none hV
  obtain ⟨a0, re0, b0, t0⟩ := argScores (hval 0 65 v0 rfl rfl) h0
  obtain ⟨a1, re1, b1⟩ := argMark (hval 1 69 v1 rfl rfl) h1
  obtain ⟨a2, rfl, rfl, rfl, w2⟩ := open_int lkU.und_int (hval 2 5 v2 rfl rfl) h2
  have b2 : 0 ≤ a2 ∧ a2 ≤ 255 := by have w := w2; simp only [Lit.wf, Bool.and_eq_true, decide_eq_true_eq] at w; exact w
  obtain ⟨a3, rfl, rfl, rfl, w3⟩ := open_int lkU.und_int (hval 3 5 v3 rfl rfl) h3
  have b3 : 0 ≤ a3 ∧ a3 ≤ 255 := by have w := w3; simp only [Lit.wf, Bool.and_eq_true, decide_eq_true_eq] at w; exact w
  clear hA0 hval0
  refine ((direct_law a0 b0 t0 a1 b1 a2 b2 a3 b3).kept W (gam_laid hL) (args := #[v0, v1, .int .u8 a2, .int .u8 a3]) (Reads.args (.cons re0 (.cons re1 (.cons (.prim _) (.cons (.prim _) .nil)))))).mono fun x W' ⟨he, bel⟩ => ?_
  subst he
  exact ⟨_, rfl, _, _, _, [], _, [], hW', trodAll_mk1 (shut_bool ((LOk.of (tabOk.get rfl) : LOk Tryz.prog 4 ⟨.bool, 1, 1, [.bool]⟩)).und_bool _), (trodAll_cons_mk (Kept.trod laidOut (by kernel_rfl) (of_decide_eq_true (by kernel_rfl)) h0 bel) (trodAll_cons_mk (Kept.trod laidOut (by kernel_rfl) (of_decide_eq_true (by kernel_rfl)) h1 bel) (trodAll_cons_mk (shut_int lkU.und_int w2) (trodAll_cons_mk (shut_int lkU.und_int w3) trodAll_mk0)))), rfl, bel.frame _, fun h => by cases h⟩
theorem over : Rows.carryDirectRow.holds Tryz.pinned (OpenSpec.ofChange Rows.carryDirectSpec) :=
  OpenClaim.holds_of_wide 12 Tryz.f12 rfl rfl rfl rfl rfl rfl rfl ⟨rfl, rfl, rfl, rfl, rfl⟩ rfl rfl rfl rfl rfl (by kernel_rfl) Tryz.func12 (by kernel_rfl)
    (of_decide_eq_true (by kernel_rfl)) (by unfold Func.isWrapper; first | (rw [if_pos (by decide +kernel)]; kernel_rfl) | (rw [if_neg (by decide +kernel)]; exact ⟨rfl, rfl⟩))
    (fun os started H enc _ => lifted os started H enc)
theorem proved : Rows.CarryDirectCardSaid :=
  Claim7.holds_tied_plain_at .later [] [.data] true (true, "8cd0352e08ea4b4b146f0583d020e3c31bfe5df82b4443beffe05bd69158732d") false
    over (fun _ h => by cases h) (by kernel_rfl) (fun _ h => by cases h) carryDirect_row_tie rfl ⟨rfl, rfl⟩ (by kernel_rfl) rfl
    (fun f fn hf hfn => by
      obtain rfl : f = 12 := Option.some.inj ((show Tryz.prog.funcNamed "partbook/partbooklaw21.CarryDirect" = some 12 by kernel_rfl).symm.trans hf) |>.symm
      obtain rfl : fn = Tryz.f12 := (Option.some.inj (Tryz.func12.symm.trans hfn)).symm
      exact ⟨by kernel_rfl, fun j t ht => by
        rw [paramsA] at ht
        match j, ht with
        | 0, ht => simp at ht; subst ht; exact (show Tryz.prog.wantsStandIn 65 = false by kernel_rfl)
        | 1, ht => simp at ht; subst ht; exact (show Tryz.prog.wantsStandIn 69 = false by kernel_rfl)
        | 2, ht => simp at ht; subst ht; exact (show Tryz.prog.wantsStandIn 5 = false by kernel_rfl)
        | 3, ht => simp at ht; subst ht; exact (show Tryz.prog.wantsStandIn 5 = false by kernel_rfl)
        | j + 4, ht => simp at ht⟩)
    (by kernel_rfl)
end Go.Proofs.YtekfpcgagoidcaaGreatDoor.cdir
