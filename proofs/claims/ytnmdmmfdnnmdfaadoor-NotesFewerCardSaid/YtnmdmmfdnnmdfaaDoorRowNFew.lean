/- Without one of its notes a part plays only when it did before, and a note that sounds only while it plays anyway changes nothing (up to 60 bars and notes); no condition beyond the row's own. -/
import Derived.Test.YtnmdmmfdnnmdfaaDoorNM
import Derived.Test.YtnmdmmfdnnmdfaaDoorXR
import Derived.Test.YtnmdmmfdnnmdfaaDoorCards
import Derived.Test.YtnmdmmfdnnmdfaaDoorTie
import Derived.SevenTiedAt
set_option linter.unusedVariables false
set_option linter.unusedSimpArgs false
namespace Go.Proofs.YtnmdmmfdnnmdfaaDoor.nfew
open Go.Ab Go.ChangeShapes Go.WideShapes Go.ChangeAt Go.RowKit Nt
theorem paramsL : Tryd.f8.params.toList = [22, 24, 5, 62] := by kernel_rfl
theorem paramsA : Tryd.f8.params = #[22, 24, 5, 62] := by kernel_rfl
theorem lkU : LOk Tryd.prog 5 ⟨.int .u8, 1, 1, [.i .u8]⟩ := .of (tabOk.get rfl)
theorem lkH : LOk Tryd.prog 62 ⟨.int .u16, 1, 2, [.i .u16]⟩ := .of (tabOk.get rfl)
set_option maxRecDepth 100000 in
theorem lifted (os : Os) (started : os.Started) (H : Type) (enc : TypeId × Value → H) :
    ReturnsInHanded {} Tryd.checked os 8 .any (fun w args => (Rows.notesFewerSpec.pre enc Tryd.prog Tryd.f8 [] false w args ∧ laidMetH Tryd.prog laid1 w) ∧ sizedMet enc Tryd.prog Tryd.f8 (OpenSpec.ofChange Rows.notesFewerSpec) false w args) (Rows.notesFewerSpec.post enc Tryd.prog Tryd.f8 false true false false) := by
  refine returnsInHanded_of_change_and (C := Tryd.checked) (X := fun w _ => laidMetH Tryd.prog laid1 w) (fun _ _ _ hh h => h.of_heap hh) own started (by kernel_rfl) Tryd.func8
    (ChangeSpec.witness_shaped (enc := enc) (C := Tryd.checked) (os := os) (X := fun w _ => laidMetH Tryd.prog laid1 w) false (World.doorLaid Tryd.prog 4000 os) #[.slice none 0 0, .slice none 0 0, .int .u8 0, .int .u16 0] 8 rfl (World.shaped_of_RefB (by kernel_rfl) (by kernel_rfl)) (by kernel_rfl) (by kernel_rfl) (by kernel_rfl) (door_met os _)) ?_
  intro W base args ds gs before hval0 hW _ hsz0 hL _
  have hval : ∀ (j : Nat) t v, Tryd.f8.params[j]? = some t → args[j]? = some v → Value.okWide Tryd.prog W .any base t v := hval0
  have hW' := hW
  obtain ⟨p, q, hA0, hV, rfl, hfz, hnd⟩ := hW
  have hA : DataW.TrodAll enc Tryd.prog W 0 (fun _ => true) true Tryd.f8.params.toList args.toList ds p := hA0
  rw [paramsL] at hA
  rw [paramsA] at hval
  obtain ⟨v0, vs0, d0, ds0, p0, q0, hargs, rfl, rfl, h0, r0⟩ := trodAll_cons hA
  obtain ⟨v1, vs1, d1, ds1, p1, q1, rfl, rfl, rfl, h1, r1⟩ := trodAll_cons r0
  obtain ⟨v2, vs2, d2, ds2, p2, q2, rfl, rfl, rfl, h2, r2⟩ := trodAll_cons r1
  obtain ⟨v3, vs3, d3, ds3, p3, q3, rfl, rfl, rfl, h3, r3⟩ := trodAll_cons r2
  obtain ⟨rfl, rfl, rfl⟩ := trodAll_nil r3
  obtain rfl : args = #[v0, v1, v2, v3] := by cases args; simp_all
  obtain ⟨rfl, rfl⟩ := trodVars_none hV
  obtain ⟨a0, re0, b0⟩ := argBars (hval 0 22 v0 rfl rfl) h0
  obtain ⟨a1, re1, b1⟩ := argNotes (hval 1 24 v1 rfl rfl) h1
  obtain ⟨a2, rfl, rfl, rfl, w2⟩ := open_int lkU.und_int (hval 2 5 v2 rfl rfl) h2
  have b2 : 0 ≤ a2 ∧ a2 ≤ 255 := by have w := w2; simp only [Lit.wf, Bool.and_eq_true, decide_eq_true_eq] at w; exact w
  obtain ⟨a3, rfl, rfl, rfl, w3⟩ := open_int lkH.und_int (hval 3 62 v3 rfl rfl) h3
  have b3 : 0 ≤ a3 ∧ a3 ≤ 65535 := by have w := w3; simp only [Lit.wf, Bool.and_eq_true, decide_eq_true_eq] at w; exact w
  clear hA0 hval0
  refine ((fewer_law a0 b0 a1 b1 a2 b2 a3 b3).kept W (gam_laid hL) (args := #[v0, v1, .int .u8 a2, .int .u16 a3]) (Reads.args (.cons re0 (.cons re1 (.cons (.prim _) (.cons (.prim _) .nil)))))).mono fun x W' ⟨he, bel⟩ => ?_
  subst he
  exact ⟨_, rfl, _, _, _, [], _, [], hW', trodAll_mk1 (shut_bool ((LOk.of (tabOk.get rfl) : LOk Tryd.prog 4 ⟨.bool, 1, 1, [.bool]⟩)).und_bool _), (trodAll_cons_mk (Kept.trod laidOut (by kernel_rfl) (of_decide_eq_true (by kernel_rfl)) h0 bel) (trodAll_cons_mk (Kept.trod laidOut (by kernel_rfl) (of_decide_eq_true (by kernel_rfl)) h1 bel) (trodAll_cons_mk (shut_int lkU.und_int w2) (trodAll_cons_mk (shut_int lkH.und_int w3) trodAll_mk0)))), rfl, bel.frame _, fun h => by cases h⟩
theorem over : Rows.notesFewerRow.holds Tryd.pinned (OpenSpec.ofChange Rows.notesFewerSpec) :=
  OpenClaim.holds_of_wide 8 Tryd.f8 rfl rfl rfl rfl rfl rfl rfl ⟨rfl, rfl, rfl, rfl, rfl⟩ rfl rfl rfl rfl rfl (by kernel_rfl) Tryd.func8 (by kernel_rfl)
    (of_decide_eq_true (by kernel_rfl)) (by unfold Func.isWrapper; first | (rw [if_pos (by decide +kernel)]; kernel_rfl) | (rw [if_neg (by decide +kernel)]; exact ⟨rfl, rfl⟩))
    (fun os started H enc _ => lifted os started H enc)
theorem proved : Rows.NotesFewerCardSaid :=
  Claim7.holds_tied_plain_at .later [] [.data] true (true, "b40f1e23d0ad135253e223b0e3c0c900f0fa0e68c3e5bf08bbd9f08888e9fcf2") false
    over (fun _ h => by cases h) (by kernel_rfl) (fun _ h => by cases h) notesFewer_row_tie rfl ⟨rfl, rfl⟩ (by kernel_rfl) rfl
    (fun f fn hf hfn => by
      obtain rfl : f = 8 := Option.some.inj ((show Tryd.prog.funcNamed "partbook/partbooklaw07.NotesFewer" = some 8 by kernel_rfl).symm.trans hf) |>.symm
      obtain rfl : fn = Tryd.f8 := (Option.some.inj (Tryd.func8.symm.trans hfn)).symm
      exact ⟨by kernel_rfl, fun j t ht => by
        rw [paramsA] at ht
        match j, ht with
        | 0, ht => simp at ht; subst ht; exact (show Tryd.prog.wantsStandIn 22 = false by kernel_rfl)
        | 1, ht => simp at ht; subst ht; exact (show Tryd.prog.wantsStandIn 24 = false by kernel_rfl)
        | 2, ht => simp at ht; subst ht; exact (show Tryd.prog.wantsStandIn 5 = false by kernel_rfl)
        | 3, ht => simp at ht; subst ht; exact (show Tryd.prog.wantsStandIn 62 = false by kernel_rfl)
        | j + 4, ht => simp at ht⟩)
    (by kernel_rfl)
end Go.Proofs.YtnmdmmfdnnmdfaaDoor.nfew
