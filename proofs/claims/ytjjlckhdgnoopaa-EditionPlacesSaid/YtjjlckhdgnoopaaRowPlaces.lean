/- EditionPlaces returns true for every edition and visit, and what was handed in reads as it did; no condition beyond those of the given row. -/
import Derived.Test.YtjjlckhdgnoopaaEdI
import Derived.Test.YtjjlckhdgnoopaaEdG
namespace Go.Proofs.Ytjjlckhdgnoopaa.places
open Go.Ab Go.ChangeShapes Go.WideShapes Go.ChangeAt Go.RowKit
open Go.ChangeMaps (open_string shut_string)

theorem paramsL : Try.f5.params.toList = [25, 39] := by kernel_rfl
theorem paramsA : Try.f5.params = #[25, 39] := by kernel_rfl
set_option maxRecDepth 100000 in
theorem lifted (os : Os) (started : os.Started) (H : Type) (enc : TypeId × Value → H) :
    ReturnsInHanded {} Try.checked os 5 .any (Rows.editionPlacesSpec.pre6 enc Try.prog Try.f5 Rows.editionPlacesRow.domain false) (Rows.editionPlacesSpec.post enc Try.prog Try.f5 false true false false) := by
  refine returnsInHanded_of_change (C := Try.checked) own started (by kernel_rfl) Try.func5
    (ChangeSpec.witness6 (enc := enc) (C := Try.checked) false ⟨#[], #[.agg #[.int .i64 0, .int .i64 0, .slice none 0 0, .slice none 0 0], .agg #[.int .i64 0, .int .i64 0]], []⟩ 8 (by kernel_rfl) (by kernel_rfl) (by kernel_rfl) (by kernel_rfl)) ?_
  intro W base args ds gs before hval0 hW hcnd _
  have hval : ∀ (j : Nat) t v, Try.f5.params[j]? = some t → args[j]? = some v → Value.okWide Try.prog W .any base t v := hval0
  have hW' := hW
  obtain ⟨p, q, hA0, hV, rfl, hfz, hnd⟩ := hW
  have hA : DataW.TrodAll enc Try.prog W 0 (fun _ => true) true Try.f5.params.toList args.toList ds p := hA0
  rw [paramsL] at hA
  rw [paramsA] at hval
  obtain ⟨v0, vs0, d0, ds0, p0, q0, hargs, rfl, rfl, h0, r0⟩ := trodAll_cons hA
  obtain ⟨v1, vs1, d1, ds1, p1, q1, rfl, rfl, rfl, h1, r1⟩ := trodAll_cons r0
  obtain ⟨rfl, rfl, rfl⟩ := trodAll_nil r1
  obtain rfl : args = #[v0, v1] := by cases args; simp_all
  obtain ⟨rfl, rfl⟩ := trodVars_none hV
  obtain ⟨e, re, hw⟩ := edition_rd (hval 0 25 v0 rfl rfl) h0
  obtain ⟨vb, vp, rv⟩ := visit_rd (hval 1 39 v1 rfl rfl) h1
  clear hA0 hval0
  refine ((places_law e hw vb vp).kept W (args := #[v0, v1]) (Reads.args (.cons re (.cons rv .nil)))).mono fun x W' ⟨he, bel⟩ => ?_
  subst he
  exact ⟨_, rfl, _, _, _, [], _, [], hW', trodAll_mk1 (shut_bool ((LOk.of (tabOk.get rfl) : LOk Try.prog 4 ⟨.bool, 1, 1, [.bool]⟩)).und_bool _), (trodAll_cons_mk (Kept.trod laidOut (by kernel_rfl) (of_decide_eq_true (by kernel_rfl)) h0 bel) (trodAll_cons_mk (Kept.trod laidOut (by kernel_rfl) (of_decide_eq_true (by kernel_rfl)) h1 bel) trodAll_mk0)), rfl, bel.frame _, fun h => by cases h⟩

theorem over : Rows.editionPlacesRow.holds Try.pinned (OpenSpec.ofChange Rows.editionPlacesSpec) :=
  OpenClaim.holds_of_wide 5 Try.f5 rfl rfl rfl rfl rfl rfl rfl ⟨rfl, rfl, rfl, rfl, rfl⟩ rfl rfl rfl rfl rfl (by kernel_rfl) Try.func5 (by kernel_rfl)
    (of_decide_eq_true (by kernel_rfl)) (by unfold Func.isWrapper; first | (rw [if_pos (by decide +kernel)]; kernel_rfl) | (rw [if_neg (by decide +kernel)]; exact ⟨rfl, rfl⟩))
    (fun os started H enc _ => lifted os started H enc)

theorem proved : Rows.EditionPlacesSaid := over
end Go.Proofs.Ytjjlckhdgnoopaa.places
