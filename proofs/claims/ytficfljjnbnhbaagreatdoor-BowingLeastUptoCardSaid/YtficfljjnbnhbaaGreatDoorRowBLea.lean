/- Whatever marks are added after which there are no clashes: they are at least as many as those of Restore; the second form: arguments that hold together at most 1048576 values and letters. -/
import Derived.Test.YtficfljjnbnhbaaGreatDoorP40
import Derived.Test.YtficfljjnbnhbaaGreatDoorP34
import Derived.Test.YtficfljjnbnhbaaGreatDoorCards
import Derived.Test.YtficfljjnbnhbaaGreatDoorTie
import Derived.SevenTiedAt
import Derived.Deep.DeepHandedRow
import Derived.Test.YtficfljjnbnhbaaGreatDoorP41
set_option linter.unusedVariables false
set_option linter.unusedSimpArgs false
namespace Go.Proofs.YtficfljjnbnhbaaGreatDoor.blea
open Go.Ab Go.ChangeShapes Go.WideShapes Go.ChangeAt Go.RowKit Mk Bw
theorem paramsL : Tryz.f6.params.toList = [26, 27, 27, 3, 28] := by kernel_rfl
theorem paramsA : Tryz.f6.params = #[26, 27, 27, 3, 28] := by kernel_rfl
set_option maxRecDepth 100000 in
theorem contract (H : Type) (enc : TypeId × Value → H) (W : World) (base : Nat) (args : Array Value) (ds gs : List (DataW H)) (before : List MemPlace)
    (hval0 : ∀ (j : Nat) t v, Tryz.f6.params[j]? = some t → args[j]? = some v → Value.okWide Tryz.prog W .any base t v)
    (hW : DataW.Whole enc Tryz.prog Tryz.f6.params.toList Rows.bowingLeastSpec.vars false W args.toList ds gs before) (hcnd : Rows.uptoSmall H (ds ++ gs) = true) (hL : laidMetH Tryz.prog laid1 W) :
    Calls Tryz.prog 6 args W fun e W' => ∃ v, e = .returned v ∧ Rows.bowingLeastSpec.post enc Tryz.prog Tryz.f6 false true false false W args v W' := by
  have hval : ∀ (j : Nat) t v, Tryz.f6.params[j]? = some t → args[j]? = some v → Value.okWide Tryz.prog W .any base t v := hval0
  have hW' := hW
  obtain ⟨p, q, hA0, hV, rfl, hfz, hnd⟩ := hW
  have hA : DataW.TrodAll enc Tryz.prog W 0 (fun _ => true) true Tryz.f6.params.toList args.toList ds p := hA0
  rw [paramsL] at hA
  rw [paramsA] at hval
  obtain ⟨v0, vs0, d0, ds0, p0, q0, hargs, rfl, rfl, h0, r0⟩ := trodAll_cons hA
  obtain ⟨v1, vs1, d1, ds1, p1, q1, rfl, rfl, rfl, h1, r1⟩ := trodAll_cons r0
  obtain ⟨v2, vs2, d2, ds2, p2, q2, rfl, rfl, rfl, h2, r2⟩ := trodAll_cons r1
  obtain ⟨v3, vs3, d3, ds3, p3, q3, rfl, rfl, rfl, h3, r3⟩ := trodAll_cons r2
  obtain ⟨v4, vs4, d4, ds4, p4, q4, rfl, rfl, rfl, h4, r4⟩ := trodAll_cons r3
  obtain ⟨rfl, rfl, rfl⟩ := trodAll_nil r4
  obtain rfl : args = #[v0, v1, v2, v3, v4] := by cases args; simp_all
  obtain ⟨rfl, rfl⟩ := trodVars_none hV
  obtain ⟨a0, re0, b0⟩ := argScore (hval 0 26 v0 rfl rfl) h0
  obtain ⟨a1, re1, b1, t1⟩ := argMarksB (hval 1 27 v1 rfl rfl) h1 (Bw.bulk_part hcnd (by simp))
  obtain ⟨a2, re2, b2, t2⟩ := argMarksB (hval 2 27 v2 rfl rfl) h2 (Bw.bulk_part hcnd (by simp))
  obtain ⟨a3, rfl, rfl, rfl, w3⟩ := open_int lk3.und_int (hval 3 3 v3 rfl rfl) h3
  obtain ⟨a4, re4, b4⟩ := argInts (hval 4 28 v4 rfl rfl) h4
  clear hA0 hval0
  refine ((least_law a0 b0 a1 b1 t1 a2 b2 t2 a3 a4 b4).kept W (gam_laid hL) (args := #[v0, v1, v2, .int .i64 a3, v4]) (Reads.args (.cons re0 (.cons re1 (.cons re2 (.cons (.prim _) (.cons re4 .nil))))))).mono fun x W' ⟨he, bel⟩ => ?_
  subst he
  exact ⟨_, rfl, _, _, _, [], _, [], hW', trodAll_mk1 (shut_bool ((LOk.of (tabOk.get rfl) : LOk Tryz.prog 4 ⟨.bool, 1, 1, [.bool]⟩)).und_bool _), (trodAll_cons_mk (Kept.trod laidOut (by kernel_rfl) (of_decide_eq_true (by kernel_rfl)) h0 bel) (trodAll_cons_mk (Kept.trod laidOut (by kernel_rfl) (of_decide_eq_true (by kernel_rfl)) h1 bel) (trodAll_cons_mk (Kept.trod laidOut (by kernel_rfl) (of_decide_eq_true (by kernel_rfl)) h2 bel) (trodAll_cons_mk (shut_int lk3.und_int w3) (trodAll_cons_mk (Kept.trod laidOut (by kernel_rfl) (of_decide_eq_true (by kernel_rfl)) h4 bel) trodAll_mk0))))), rfl, bel.frame _, fun h => by cases h⟩
theorem reads (os : Os) (H : Type) (enc : TypeId × Value → H) : ∃ ds places, DataW.whole enc Tryz.prog ((World.doorLaid Tryz.prog 4000 os).forCall (fun _ _ => 0) ⟨#[], #[.agg #[.int .i64 0, .slice none 0 0, .slice none 0 0, .slice none 0 0], .slice none 0 0, .slice none 0 0, .int .i64 0, .slice none 0 0], []⟩).memory Tryz.f6.params.toList Rows.bowingLeastSpec.vars false #[.agg #[.int .i64 0, .slice none 0 0, .slice none 0 0, .slice none 0 0], .slice none 0 0, .slice none 0 0, .int .i64 0, .slice none 0 0].toList 8 = some (ds, [], places) ∧ Rows.uptoSmall H (ds ++ []) = true :=
  ⟨[.agg [.lit (.int .i64 0), .nil, .nil, .nil], .nil, .nil, .lit (.int .i64 0), .nil], [], by kernel_rfl, by kernel_rfl⟩
set_option maxRecDepth 100000 in
theorem liftedU (os : Os) (started : os.Started) (H : Type) (enc : TypeId × Value → H) (F : Stop.Interp) :
    ReturnsInHanded {} Tryz.checked os 6 .any ((Rows.OpenSpec.upto Rows.bowingLeastSpec).preRow enc Tryz.prog Tryz.f6 Rows.bowingLeastUptoRow.domain false Rows.bowingLeastUptoRow.laid) (((Rows.OpenSpec.upto Rows.bowingLeastSpec).at F).post enc Tryz.prog Tryz.f6 false true false false) := by
  obtain ⟨ds, places, hx, hb⟩ := reads os H enc
  refine returnsInHanded_of_row (C := Tryz.checked) (s := Rows.OpenSpec.upto Rows.bowingLeastSpec) own started (by kernel_rfl) Tryz.func6
    (witness_row_at (enc := enc) (C := Tryz.checked) false (World.doorLaid Tryz.prog 4000 os) #[.agg #[.int .i64 0, .slice none 0 0, .slice none 0 0, .slice none 0 0], .slice none 0 0, .slice none 0 0, .int .i64 0, .slice none 0 0] rfl (by kernel_rfl) (by kernel_rfl) (by kernel_rfl)
      (OpenSpec.preRow_of_cond 8 hx (by kernel_rfl) (fun k hk => by cases hk; exact hb) (by kernel_rfl) (door_met os _))) ?_
  intro W base args ds gs before hval hW _ hcond _ hL _ _
  exact contract H enc W base args ds gs before hval hW (hcond _ rfl) hL
theorem over : Rows.bowingLeastUptoRow.holds Tryz.pinned (Rows.OpenSpec.upto Rows.bowingLeastSpec) :=
  OpenClaim.holds_of_cond 6 Tryz.f6 rfl rfl rfl rfl rfl rfl rfl ⟨rfl, rfl, rfl, rfl, rfl⟩ rfl rfl rfl rfl rfl (by kernel_rfl) Tryz.func6 (by kernel_rfl)
    (of_decide_eq_true (by kernel_rfl)) (by unfold Func.isWrapper; first | (rw [if_pos (by decide +kernel)]; kernel_rfl) | (rw [if_neg (by decide +kernel)]; exact ⟨rfl, rfl⟩))
    (fun os started H enc _ F => by rw [OpenClaim.pre_eq_preRow]; exact liftedU os started H enc F)
theorem plain (f : FuncId) (fn : Func) (hf : Tryz.pinned.checked.prog.funcNamed "partbook/partbooklaw20.BowingLeast" = some f) (hfn : Tryz.pinned.checked.prog.funcs[f]? = some fn) :
    false = Tryz.pinned.checked.prog.looks [] ∧ ∀ (j : Nat) t, fn.params[j]? = some t → Tryz.pinned.checked.prog.wantsStandIn t = false := by
  obtain rfl : f = 6 := Option.some.inj ((show Tryz.prog.funcNamed "partbook/partbooklaw20.BowingLeast" = some 6 by kernel_rfl).symm.trans hf) |>.symm
  obtain rfl : fn = Tryz.f6 := (Option.some.inj (Tryz.func6.symm.trans hfn)).symm
  refine ⟨by kernel_rfl, fun j t ht => ?_⟩
  rw [paramsA] at ht
  match j, ht with
  | 0, ht => simp at ht; subst ht; exact (show Tryz.prog.wantsStandIn 26 = false by kernel_rfl)
  | 1, ht => simp at ht; subst ht; exact (show Tryz.prog.wantsStandIn 27 = false by kernel_rfl)
  | 2, ht => simp at ht; subst ht; exact (show Tryz.prog.wantsStandIn 27 = false by kernel_rfl)
  | 3, ht => simp at ht; subst ht; exact (show Tryz.prog.wantsStandIn 3 = false by kernel_rfl)
  | 4, ht => simp at ht; subst ht; exact (show Tryz.prog.wantsStandIn 28 = false by kernel_rfl)
  | j + 5, ht => simp at ht
theorem proved : Rows.BowingLeastUptoCardSaid :=
  Claim7.holds_tied_plain_at .later [] _ _ _ _ over (fun _ h => by cases h) (by kernel_rfl) (fun _ h => by cases h) bowingLeastUpto_row_tie rfl ⟨rfl, rfl⟩ (by kernel_rfl) rfl plain (by kernel_rfl)
end Go.Proofs.YtficfljjnbnhbaaGreatDoor.blea
