/- Contracts by content: the head of the laws. No statement is proved here. -/
import Derived.Test.YtdglbdfdkabjfaaGreatDoorP26
set_option linter.unusedVariables false
set_option linter.unusedSimpArgs false
namespace Go.Proofs.YtdglbdfdkabjfaaGreatDoor.Pl
open Go.Ab Go.Pl
attribute [local irreducible] AWP AOps EStep AQ PStep PRun PCall TCall VCall
theorem flMo : flatN Tryz.prog 48 = some [.int .i64, .int .i64, .int .i64, .int .i64] := by kernel_rfl
theorem flCl : flatN Tryz.prog 44 = some [.str, .int .i64, .int .i64, .int .i64, .int .i64, .int .i64] := by kernel_rfl
theorem exWf : Ed.Wf exE := ⟨by decide, by decide, by decide⟩
theorem exWf2 : Ed.Wf exE2 := ⟨by decide, by decide, by decide⟩
theorem exFI : FIn exR.form := ⟨by decide, by decide, by decide⟩
theorem exFI2 : FIn exR2.form := ⟨by decide, by decide, by decide⟩
theorem exSm : exS.Small := ⟨by decide, by decide, by decide⟩
abbrev B0 : Store := [.dead, .dead, .dead, .dead, .dead, .dead, .arr 3 3 (exPrs.map Ed.encP), .var (encS exS), .var (cellE 3), .var (encRm exR)]
theorem cellS_ent : ∀ (i : Nat) u v, (cellS 3)[i]? = some u → (encS exS)[i]? = some v → ∀ M B x, VRel M B u x → VRel M B v x := by
 intro i u v hu hv M B x hx
 match i, hu, hv with
 | 0, hu, hv => cases hu; cases hv; exact hx
 | 1, hu, hv =>
   cases hu; cases hv
   cases hx with
   | sl _ _ _ b off c f hz hm hr hc ht => exact .sl 4 _ .no b off c f hz hm hr hc trivial
 | 2, hu, hv =>
   cases hu; cases hv
   cases hx with
   | sl _ _ _ b off c f hz hm hr hc ht => exact .sl 13 _ .no b off c f hz hm hr hc trivial
 | 3, hu, hv =>
   cases hu; cases hv
   cases hx
   exact .slz 12 .no trivial
 | k + 4, hu, hv => cases hu
theorem cellR_ent : ∀ (i : Nat) u v, cellR[i]? = some u → (encRm exR)[i]? = some v → ∀ M B x, VRel M B u x → VRel M B v x := by
 intro i u v hu hv M B x hx
 match i, hu, hv with
 | 0, hu, hv => cases hu; cases hv; exact hx
 | 1, hu, hv => cases hu; cases hv; exact hx
 | 2, hu, hv =>
   cases hu; cases hv
   cases hx with
   | sl _ _ _ b off c f hz hm hr hc ht => exact .sl 3 _ .no b off c f hz hm hr hc trivial
 | 3, hu, hv => cases hu; cases hv; cases hx; exact .slz 3 .no trivial
 | 4, hu, hv => cases hu; cases hv; exact hx
 | 5, hu, hv => cases hu; cases hv; exact hx
 | 6, hu, hv => cases hu; cases hv; exact hx
 | 7, hu, hv => cases hu; cases hv; cases hx; exact .slz 3 .no trivial
 | 8, hu, hv => cases hu; cases hv; cases hx; exact .slz 1 .no trivial
 | k + 9, hu, hv => cases hu
theorem lendE {σ : Store} (hσ : σ[6]? = some (.arr 3 3 (exPrs.map Ed.encP))) : Lend σ (cellP 3) (.sl 3 (exE.bars.map Ed.encP) .no) := Lend.sla (es := exPrs.map Ed.encP) hσ rfl (by decide)
theorem lendE2 {σ : Store} (hσ : σ[6]? = some (.arr 3 3 (exE2.bars.map Ed.encP))) : Lend σ (cellP 3) (.sl 3 (exE2.bars.map Ed.encP) .no) := Lend.sla (es := exE2.bars.map Ed.encP) hσ rfl (by decide)
abbrev z48 : List AV := [.int 0, .int 0, .int 0, .int 0]
set_option maxHeartbeats 8000000 in
set_option maxRecDepth 20000 in
theorem head_spec : PCall Tryz.prog 9 [] (.b true) := by
 have hx := TCall.val (first := []) (caps := []) (avs := []) example_T
 have rs := fun c (h : c.letter.size ≤ 9223372036854775807) => resolve_spec exS exSm exE exWf exR exFI c h
 have h1 := rs exC (by decide)
 rw [ex_1] at h1
 have h2 := locate_spec exS exSm exE exWf exR exFI exM
 rw [ex_2] at h2
 have h3 := rs ⟨⟨#[66]⟩, 0, -1, ⟨0, 1⟩, 0⟩ (by decide)
 rw [ex_3] at h3
 have h4 := rs ⟨⟨#[66]⟩, 0, -2, ⟨0, 1⟩, 0⟩ (by decide)
 rw [ex_4] at h4
 have h5 := rs ⟨⟨#[66]⟩, 0, 0, ⟨4, 1⟩, 0⟩ (by decide)
 rw [ex_5] at h5
 have h6 := rs ⟨⟨#[66]⟩, 0, 0, ⟨0, 1⟩, 3⟩ (by decide)
 rw [ex_6] at h6
 have h7 := resolve_spec exS exSm exE exWf exR2 exFI2 exC (by decide)
 rw [ex_7] at h7
 have h8 := resolve_spec exS exSm exE2 exWf2 exR2 exFI2 exC (by decide)
 rw [ex_8] at h8
 clear rs
 have r := rat31_spec
 refine PCall.body Tryz.func9 rfl rfl Tryz.ntmps9 rfl rfl ?_
 repeat' (first | refine aoQ rfl rfl rfl (fun hg => by exact std0) (by exact rfl) ?_ | refine sqW ?_ | refine rgK (fun K' hK => ?_) | (refine aoN (hK _ _ ?_); clear hK K') | refine aoE (scT (hx) rfl rfl rfl rfl rfl nd rfl rfl nds ?_))
 rintro _ _ ⟨rfl, rfl⟩
 repeat' (first | refine aoQ rfl rfl rfl (fun hg => by exact std0) (by exact rfl) ?_ | refine aoE (stW tabOk rfl rfl rfl tI rfl rfl tI rfl rfl rfl rfl rfl rfl rfl ?_) | refine aoE (alW tabOk rfl rfl rfl rfl rfl rfl ?_))
 refine aoN (hK _ _ ?_)
 clear hK K'
 refine AWP.varWeak 7 (cs' := encS exS) rfl rfl cellS_ent ?_
 refine AWP.varWeak 9 (cs' := encRm exR) rfl rfl cellR_ent ?_
 refine AWP.kill 0 rfl ?_
 refine AWP.kill 1 rfl ?_
 refine AWP.kill 2 rfl ?_
 refine AWP.kill 3 rfl ?_
 refine AWP.kill 4 rfl ?_
 refine AWP.kill 5 rfl ?_
 refine AWP.keep [(1, .ptr 7 0), (2, .ptr 8 0), (3, .ptr 9 0)] ⟨rfl, rfl, rfl, tI⟩ ?_
 repeat' (first | refine aoQ rfl rfl rfl (fun hg => by first | exact PRun.callL h2 rfl rfl nd ⟨Lend.of 4 rfl, Lend.agg ⟨Lend.pr _, Lend.pr _, lendE rfl, Lend.sl _ _ _, tI⟩, Lend.of 4 rfl, Lend.of 4 rfl, tI⟩ rfl nds | exact PRun.callL h1 rfl rfl nd ⟨Lend.of 4 rfl, Lend.agg ⟨Lend.pr _, Lend.pr _, lendE rfl, Lend.sl _ _ _, tI⟩, Lend.of 4 rfl, Lend.of 4 rfl, tI⟩ rfl nds | exact std0 | exact pbD tabOk rfl rfl nds | exact pcW (r _ _) rfl rfl nd rfl nds) (by exact rfl) ?_ | refine sqW ?_ | refine rgK (fun K' hK => ?_) | (refine aoN (hK _ _ ?_); clear hK K') | refine aoE (stW tabOk rfl rfl rfl tI rfl rfl tI rfl rfl rfl rfl rfl rfl rfl ?_) | refine aoE (alW tabOk rfl rfl rfl rfl rfl rfl ?_))
 refine AWP.keep [(1, .ptr 7 0), (2, .ptr 8 0), (3, .ptr 9 0), (4, .ptr 10 0), (5, .ptr 11 0), (6, .int 0), (7, .ptr 12 0), (8, .b true), (9, .int 0)] ⟨rfl, rfl, rfl, rfl, rfl, rfl, rfl, rfl, rfl, tI⟩ ?_
 repeat refine sqW ?_
 refine AWP.drawY (fun j => match j with | 0 => B0 ++ [.var (encCl exC), .var (encMo exM), .var (encCl exC)] | 1 => B0 ++ [.var (encCl exC), .var (encMo exM), .var (encCl exC)] ++ [.var z48] | _ => B0 ++ [.var (encCl exC), .var (encMo exM), .var (encCl exC)] ++ [.var [.int 11, .int 1, .int 0, .int 1]]) rfl (by kernel_rfl) (by decide +kernel) rfl (by decide +kernel) (fun K' hK => ?_)
 repeat' (first
  | refine yqQ (a := 0) (b := 0) rfl (by decide +kernel) (by decide +kernel) rfl rfl rfl (fun k h1 h2 hg => by (have hk : k = 0 := (by omega)); (rcases hk with rfl) <;> (first | exact PRun.callL h3 rfl rfl nd ⟨Lend.of 4 rfl, Lend.agg ⟨Lend.pr _, Lend.pr _, lendE rfl, Lend.sl _ _ _, tI⟩, Lend.of 4 rfl, Lend.of 4 rfl, tI⟩ rfl nds | exact std0 | exact pbD tabOk rfl rfl nds | exact pcW (r _ _) rfl rfl nd rfl nds | exact std1)) (by exact rfl) ?_
  | refine yqQ (a := 0) (b := 1) rfl (by decide +kernel) (by decide +kernel) rfl rfl rfl (fun k h1 h2 hg => by (have hk : k = 0 ∨ k = 1 := (by omega)); (rcases hk with rfl | rfl) <;> (first | exact PRun.callL h3 rfl rfl nd ⟨Lend.of 4 rfl, Lend.agg ⟨Lend.pr _, Lend.pr _, lendE rfl, Lend.sl _ _ _, tI⟩, Lend.of 4 rfl, Lend.of 4 rfl, tI⟩ rfl nds | exact std0 | exact pbD tabOk rfl rfl nds | exact pcW (r _ _) rfl rfl nd rfl nds | exact std1)) (by exact rfl) ?_
  | refine yqQ (a := 1) (b := 1) rfl (by decide +kernel) (by decide +kernel) rfl rfl rfl (fun k h1 h2 hg => by (have hk : k = 1 := (by omega)); (rcases hk with rfl) <;> (first | exact PRun.callL h3 rfl rfl nd ⟨Lend.of 4 rfl, Lend.agg ⟨Lend.pr _, Lend.pr _, lendE rfl, Lend.sl _ _ _, tI⟩, Lend.of 4 rfl, Lend.of 4 rfl, tI⟩ rfl nds | exact std0 | exact pbD tabOk rfl rfl nds | exact pcW (r _ _) rfl rfl nd rfl nds | exact std1)) (by exact rfl) ?_
  | refine yqQ (a := 0) (b := 2) rfl (by decide +kernel) (by decide +kernel) rfl rfl rfl (fun k h1 h2 hg => by (have hk : k = 0 ∨ k = 1 ∨ k = 2 := (by omega)); (rcases hk with rfl | rfl | rfl) <;> (first | exact PRun.callL h3 rfl rfl nd ⟨Lend.of 4 rfl, Lend.agg ⟨Lend.pr _, Lend.pr _, lendE rfl, Lend.sl _ _ _, tI⟩, Lend.of 4 rfl, Lend.of 4 rfl, tI⟩ rfl nds | exact std0 | exact pbD tabOk rfl rfl nds | exact pcW (r _ _) rfl rfl nd rfl nds | exact std1)) (by exact rfl) ?_
  | refine yqQ (a := 1) (b := 2) rfl (by decide +kernel) (by decide +kernel) rfl rfl rfl (fun k h1 h2 hg => by (have hk : k = 1 ∨ k = 2 := (by omega)); (rcases hk with rfl | rfl) <;> (first | exact PRun.callL h3 rfl rfl nd ⟨Lend.of 4 rfl, Lend.agg ⟨Lend.pr _, Lend.pr _, lendE rfl, Lend.sl _ _ _, tI⟩, Lend.of 4 rfl, Lend.of 4 rfl, tI⟩ rfl nds | exact std0 | exact pbD tabOk rfl rfl nds | exact pcW (r _ _) rfl rfl nd rfl nds | exact std1)) (by exact rfl) ?_
  | refine yqQ (a := 2) (b := 2) rfl (by decide +kernel) (by decide +kernel) rfl rfl rfl (fun k h1 h2 hg => by (have hk : k = 2 := (by omega)); (rcases hk with rfl) <;> (first | exact PRun.callL h3 rfl rfl nd ⟨Lend.of 4 rfl, Lend.agg ⟨Lend.pr _, Lend.pr _, lendE rfl, Lend.sl _ _ _, tI⟩, Lend.of 4 rfl, Lend.of 4 rfl, tI⟩ rfl nds | exact std0 | exact pbD tabOk rfl rfl nds | exact pcW (r _ _) rfl rfl nd rfl nds | exact std1)) (by exact rfl) ?_)
 refine YQ.e (v := .ptr 13 0) (d := some 10) rfl rfl rfl ?_ ?_
 · intro env' he
   exact alW tabOk rfl rfl rfl rfl rfl rfl ⟨rfl, rfl⟩
 repeat' (first
  | refine yqQ (a := 0) (b := 0) rfl (by decide +kernel) (by decide +kernel) rfl rfl rfl (fun k h1 h2 hg => by (have hk : k = 0 := (by omega)); (rcases hk with rfl) <;> (first | exact PRun.callL h3 rfl rfl nd ⟨Lend.of 4 rfl, Lend.agg ⟨Lend.pr _, Lend.pr _, lendE rfl, Lend.sl _ _ _, tI⟩, Lend.of 4 rfl, Lend.of 4 rfl, tI⟩ rfl nds | exact std0 | exact pbD tabOk rfl rfl nds | exact pcW (r _ _) rfl rfl nd rfl nds | exact std1)) (by exact rfl) ?_
  | refine yqQ (a := 0) (b := 1) rfl (by decide +kernel) (by decide +kernel) rfl rfl rfl (fun k h1 h2 hg => by (have hk : k = 0 ∨ k = 1 := (by omega)); (rcases hk with rfl | rfl) <;> (first | exact PRun.callL h3 rfl rfl nd ⟨Lend.of 4 rfl, Lend.agg ⟨Lend.pr _, Lend.pr _, lendE rfl, Lend.sl _ _ _, tI⟩, Lend.of 4 rfl, Lend.of 4 rfl, tI⟩ rfl nds | exact std0 | exact pbD tabOk rfl rfl nds | exact pcW (r _ _) rfl rfl nd rfl nds | exact std1)) (by exact rfl) ?_
  | refine yqQ (a := 1) (b := 1) rfl (by decide +kernel) (by decide +kernel) rfl rfl rfl (fun k h1 h2 hg => by (have hk : k = 1 := (by omega)); (rcases hk with rfl) <;> (first | exact PRun.callL h3 rfl rfl nd ⟨Lend.of 4 rfl, Lend.agg ⟨Lend.pr _, Lend.pr _, lendE rfl, Lend.sl _ _ _, tI⟩, Lend.of 4 rfl, Lend.of 4 rfl, tI⟩ rfl nds | exact std0 | exact pbD tabOk rfl rfl nds | exact pcW (r _ _) rfl rfl nd rfl nds | exact std1)) (by exact rfl) ?_
  | refine yqQ (a := 0) (b := 2) rfl (by decide +kernel) (by decide +kernel) rfl rfl rfl (fun k h1 h2 hg => by (have hk : k = 0 ∨ k = 1 ∨ k = 2 := (by omega)); (rcases hk with rfl | rfl | rfl) <;> (first | exact PRun.callL h3 rfl rfl nd ⟨Lend.of 4 rfl, Lend.agg ⟨Lend.pr _, Lend.pr _, lendE rfl, Lend.sl _ _ _, tI⟩, Lend.of 4 rfl, Lend.of 4 rfl, tI⟩ rfl nds | exact std0 | exact pbD tabOk rfl rfl nds | exact pcW (r _ _) rfl rfl nd rfl nds | exact std1)) (by exact rfl) ?_
  | refine yqQ (a := 1) (b := 2) rfl (by decide +kernel) (by decide +kernel) rfl rfl rfl (fun k h1 h2 hg => by (have hk : k = 1 ∨ k = 2 := (by omega)); (rcases hk with rfl | rfl) <;> (first | exact PRun.callL h3 rfl rfl nd ⟨Lend.of 4 rfl, Lend.agg ⟨Lend.pr _, Lend.pr _, lendE rfl, Lend.sl _ _ _, tI⟩, Lend.of 4 rfl, Lend.of 4 rfl, tI⟩ rfl nds | exact std0 | exact pbD tabOk rfl rfl nds | exact pcW (r _ _) rfl rfl nd rfl nds | exact std1)) (by exact rfl) ?_
  | refine yqQ (a := 2) (b := 2) rfl (by decide +kernel) (by decide +kernel) rfl rfl rfl (fun k h1 h2 hg => by (have hk : k = 2 := (by omega)); (rcases hk with rfl) <;> (first | exact PRun.callL h3 rfl rfl nd ⟨Lend.of 4 rfl, Lend.agg ⟨Lend.pr _, Lend.pr _, lendE rfl, Lend.sl _ _ _, tI⟩, Lend.of 4 rfl, Lend.of 4 rfl, tI⟩ rfl nds | exact std0 | exact pbD tabOk rfl rfl nds | exact pcW (r _ _) rfl rfl nd rfl nds | exact std1)) (by exact rfl) ?_)
 refine YQ.e (v := .any) (d := none) rfl rfl rfl ?_ ?_
 · intro env' he
   exact stW tabOk rfl rfl ((rdv_congr (he 10 (by decide +kernel))).trans rfl) (by rw [rdn_congr (he 10 (by decide +kernel))]; first | exact tI | exact rfl) rfl ((rdv_congr (he 54 (by decide +kernel))).trans rfl) (by rw [rdn_congr (he 54 (by decide +kernel))]; first | exact tI | exact rfl) rfl rfl rfl rfl rfl rfl rfl ⟨rfl, rfl⟩
 repeat' (first
  | refine yqQ (a := 0) (b := 0) rfl (by decide +kernel) (by decide +kernel) rfl rfl rfl (fun k h1 h2 hg => by (have hk : k = 0 := (by omega)); (rcases hk with rfl) <;> (first | exact PRun.callL h3 rfl rfl nd ⟨Lend.of 4 rfl, Lend.agg ⟨Lend.pr _, Lend.pr _, lendE rfl, Lend.sl _ _ _, tI⟩, Lend.of 4 rfl, Lend.of 4 rfl, tI⟩ rfl nds | exact std0 | exact pbD tabOk rfl rfl nds | exact pcW (r _ _) rfl rfl nd rfl nds | exact std1)) (by exact rfl) ?_
  | refine yqQ (a := 0) (b := 1) rfl (by decide +kernel) (by decide +kernel) rfl rfl rfl (fun k h1 h2 hg => by (have hk : k = 0 ∨ k = 1 := (by omega)); (rcases hk with rfl | rfl) <;> (first | exact PRun.callL h3 rfl rfl nd ⟨Lend.of 4 rfl, Lend.agg ⟨Lend.pr _, Lend.pr _, lendE rfl, Lend.sl _ _ _, tI⟩, Lend.of 4 rfl, Lend.of 4 rfl, tI⟩ rfl nds | exact std0 | exact pbD tabOk rfl rfl nds | exact pcW (r _ _) rfl rfl nd rfl nds | exact std1)) (by exact rfl) ?_
  | refine yqQ (a := 1) (b := 1) rfl (by decide +kernel) (by decide +kernel) rfl rfl rfl (fun k h1 h2 hg => by (have hk : k = 1 := (by omega)); (rcases hk with rfl) <;> (first | exact PRun.callL h3 rfl rfl nd ⟨Lend.of 4 rfl, Lend.agg ⟨Lend.pr _, Lend.pr _, lendE rfl, Lend.sl _ _ _, tI⟩, Lend.of 4 rfl, Lend.of 4 rfl, tI⟩ rfl nds | exact std0 | exact pbD tabOk rfl rfl nds | exact pcW (r _ _) rfl rfl nd rfl nds | exact std1)) (by exact rfl) ?_
  | refine yqQ (a := 0) (b := 2) rfl (by decide +kernel) (by decide +kernel) rfl rfl rfl (fun k h1 h2 hg => by (have hk : k = 0 ∨ k = 1 ∨ k = 2 := (by omega)); (rcases hk with rfl | rfl | rfl) <;> (first | exact PRun.callL h3 rfl rfl nd ⟨Lend.of 4 rfl, Lend.agg ⟨Lend.pr _, Lend.pr _, lendE rfl, Lend.sl _ _ _, tI⟩, Lend.of 4 rfl, Lend.of 4 rfl, tI⟩ rfl nds | exact std0 | exact pbD tabOk rfl rfl nds | exact pcW (r _ _) rfl rfl nd rfl nds | exact std1)) (by exact rfl) ?_
  | refine yqQ (a := 1) (b := 2) rfl (by decide +kernel) (by decide +kernel) rfl rfl rfl (fun k h1 h2 hg => by (have hk : k = 1 ∨ k = 2 := (by omega)); (rcases hk with rfl | rfl) <;> (first | exact PRun.callL h3 rfl rfl nd ⟨Lend.of 4 rfl, Lend.agg ⟨Lend.pr _, Lend.pr _, lendE rfl, Lend.sl _ _ _, tI⟩, Lend.of 4 rfl, Lend.of 4 rfl, tI⟩ rfl nds | exact std0 | exact pbD tabOk rfl rfl nds | exact pcW (r _ _) rfl rfl nd rfl nds | exact std1)) (by exact rfl) ?_
  | refine yqQ (a := 2) (b := 2) rfl (by decide +kernel) (by decide +kernel) rfl rfl rfl (fun k h1 h2 hg => by (have hk : k = 2 := (by omega)); (rcases hk with rfl) <;> (first | exact PRun.callL h3 rfl rfl nd ⟨Lend.of 4 rfl, Lend.agg ⟨Lend.pr _, Lend.pr _, lendE rfl, Lend.sl _ _ _, tI⟩, Lend.of 4 rfl, Lend.of 4 rfl, tI⟩ rfl nds | exact std0 | exact pbD tabOk rfl rfl nds | exact pcW (r _ _) rfl rfl nd rfl nds | exact std1)) (by exact rfl) ?_)
 refine YQ.nil (hK _ _ ?_)
 clear hK K'
 refine AWP.keep [(1, .ptr 7 0), (2, .ptr 8 0), (3, .ptr 9 0), (4, .ptr 10 0), (5, .ptr 11 0), (6, .int 0), (7, .ptr 12 0), (8, .b true), (9, .int 0), (10, .ptr 13 0), (11, .int 0)] ⟨rfl, rfl, rfl, rfl, rfl, rfl, rfl, rfl, rfl, rfl, rfl, tI⟩ ?_
 repeat refine sqW ?_
 refine AWP.drawY (fun j => match j with | 0 => B0 ++ [.var (encCl exC), .var (encMo exM), .var (encCl exC)] ++ [.var [.int 11, .int 1, .int 0, .int 1]] | 1 => B0 ++ [.var (encCl exC), .var (encMo exM), .var (encCl exC)] ++ [.var [.int 11, .int 1, .int 0, .int 1]] ++ [.var z48] | _ => B0 ++ [.var (encCl exC), .var (encMo exM), .var (encCl exC)] ++ [.var [.int 11, .int 1, .int 0, .int 1]] ++ [.var z48]) rfl (by kernel_rfl) (by decide +kernel) rfl (by decide +kernel) (fun K' hK => ?_)
 repeat' (first
  | refine yqQ (a := 0) (b := 0) rfl (by decide +kernel) (by decide +kernel) rfl rfl rfl (fun k h1 h2 hg => by (have hk : k = 0 := (by omega)); (rcases hk with rfl) <;> (first | exact PRun.callL h4 rfl rfl nd ⟨Lend.of 4 rfl, Lend.agg ⟨Lend.pr _, Lend.pr _, lendE rfl, Lend.sl _ _ _, tI⟩, Lend.of 4 rfl, Lend.of 4 rfl, tI⟩ rfl nds | exact std0 | exact pbD tabOk rfl rfl nds | exact pcW (r _ _) rfl rfl nd rfl nds | exact std1)) (by exact rfl) ?_
  | refine yqQ (a := 0) (b := 1) rfl (by decide +kernel) (by decide +kernel) rfl rfl rfl (fun k h1 h2 hg => by (have hk : k = 0 ∨ k = 1 := (by omega)); (rcases hk with rfl | rfl) <;> (first | exact PRun.callL h4 rfl rfl nd ⟨Lend.of 4 rfl, Lend.agg ⟨Lend.pr _, Lend.pr _, lendE rfl, Lend.sl _ _ _, tI⟩, Lend.of 4 rfl, Lend.of 4 rfl, tI⟩ rfl nds | exact std0 | exact pbD tabOk rfl rfl nds | exact pcW (r _ _) rfl rfl nd rfl nds | exact std1)) (by exact rfl) ?_
  | refine yqQ (a := 1) (b := 1) rfl (by decide +kernel) (by decide +kernel) rfl rfl rfl (fun k h1 h2 hg => by (have hk : k = 1 := (by omega)); (rcases hk with rfl) <;> (first | exact PRun.callL h4 rfl rfl nd ⟨Lend.of 4 rfl, Lend.agg ⟨Lend.pr _, Lend.pr _, lendE rfl, Lend.sl _ _ _, tI⟩, Lend.of 4 rfl, Lend.of 4 rfl, tI⟩ rfl nds | exact std0 | exact pbD tabOk rfl rfl nds | exact pcW (r _ _) rfl rfl nd rfl nds | exact std1)) (by exact rfl) ?_
  | refine yqQ (a := 0) (b := 2) rfl (by decide +kernel) (by decide +kernel) rfl rfl rfl (fun k h1 h2 hg => by (have hk : k = 0 ∨ k = 1 ∨ k = 2 := (by omega)); (rcases hk with rfl | rfl | rfl) <;> (first | exact PRun.callL h4 rfl rfl nd ⟨Lend.of 4 rfl, Lend.agg ⟨Lend.pr _, Lend.pr _, lendE rfl, Lend.sl _ _ _, tI⟩, Lend.of 4 rfl, Lend.of 4 rfl, tI⟩ rfl nds | exact std0 | exact pbD tabOk rfl rfl nds | exact pcW (r _ _) rfl rfl nd rfl nds | exact std1)) (by exact rfl) ?_
  | refine yqQ (a := 1) (b := 2) rfl (by decide +kernel) (by decide +kernel) rfl rfl rfl (fun k h1 h2 hg => by (have hk : k = 1 ∨ k = 2 := (by omega)); (rcases hk with rfl | rfl) <;> (first | exact PRun.callL h4 rfl rfl nd ⟨Lend.of 4 rfl, Lend.agg ⟨Lend.pr _, Lend.pr _, lendE rfl, Lend.sl _ _ _, tI⟩, Lend.of 4 rfl, Lend.of 4 rfl, tI⟩ rfl nds | exact std0 | exact pbD tabOk rfl rfl nds | exact pcW (r _ _) rfl rfl nd rfl nds | exact std1)) (by exact rfl) ?_
  | refine yqQ (a := 2) (b := 2) rfl (by decide +kernel) (by decide +kernel) rfl rfl rfl (fun k h1 h2 hg => by (have hk : k = 2 := (by omega)); (rcases hk with rfl) <;> (first | exact PRun.callL h4 rfl rfl nd ⟨Lend.of 4 rfl, Lend.agg ⟨Lend.pr _, Lend.pr _, lendE rfl, Lend.sl _ _ _, tI⟩, Lend.of 4 rfl, Lend.of 4 rfl, tI⟩ rfl nds | exact std0 | exact pbD tabOk rfl rfl nds | exact pcW (r _ _) rfl rfl nd rfl nds | exact std1)) (by exact rfl) ?_)
 refine YQ.e (v := .ptr 14 0) (d := some 12) rfl rfl rfl ?_ ?_
 · intro env' he
   exact alW tabOk rfl rfl rfl rfl rfl rfl ⟨rfl, rfl⟩
 repeat' (first
  | refine yqQ (a := 0) (b := 0) rfl (by decide +kernel) (by decide +kernel) rfl rfl rfl (fun k h1 h2 hg => by (have hk : k = 0 := (by omega)); (rcases hk with rfl) <;> (first | exact PRun.callL h4 rfl rfl nd ⟨Lend.of 4 rfl, Lend.agg ⟨Lend.pr _, Lend.pr _, lendE rfl, Lend.sl _ _ _, tI⟩, Lend.of 4 rfl, Lend.of 4 rfl, tI⟩ rfl nds | exact std0 | exact pbD tabOk rfl rfl nds | exact pcW (r _ _) rfl rfl nd rfl nds | exact std1)) (by exact rfl) ?_
  | refine yqQ (a := 0) (b := 1) rfl (by decide +kernel) (by decide +kernel) rfl rfl rfl (fun k h1 h2 hg => by (have hk : k = 0 ∨ k = 1 := (by omega)); (rcases hk with rfl | rfl) <;> (first | exact PRun.callL h4 rfl rfl nd ⟨Lend.of 4 rfl, Lend.agg ⟨Lend.pr _, Lend.pr _, lendE rfl, Lend.sl _ _ _, tI⟩, Lend.of 4 rfl, Lend.of 4 rfl, tI⟩ rfl nds | exact std0 | exact pbD tabOk rfl rfl nds | exact pcW (r _ _) rfl rfl nd rfl nds | exact std1)) (by exact rfl) ?_
  | refine yqQ (a := 1) (b := 1) rfl (by decide +kernel) (by decide +kernel) rfl rfl rfl (fun k h1 h2 hg => by (have hk : k = 1 := (by omega)); (rcases hk with rfl) <;> (first | exact PRun.callL h4 rfl rfl nd ⟨Lend.of 4 rfl, Lend.agg ⟨Lend.pr _, Lend.pr _, lendE rfl, Lend.sl _ _ _, tI⟩, Lend.of 4 rfl, Lend.of 4 rfl, tI⟩ rfl nds | exact std0 | exact pbD tabOk rfl rfl nds | exact pcW (r _ _) rfl rfl nd rfl nds | exact std1)) (by exact rfl) ?_
  | refine yqQ (a := 0) (b := 2) rfl (by decide +kernel) (by decide +kernel) rfl rfl rfl (fun k h1 h2 hg => by (have hk : k = 0 ∨ k = 1 ∨ k = 2 := (by omega)); (rcases hk with rfl | rfl | rfl) <;> (first | exact PRun.callL h4 rfl rfl nd ⟨Lend.of 4 rfl, Lend.agg ⟨Lend.pr _, Lend.pr _, lendE rfl, Lend.sl _ _ _, tI⟩, Lend.of 4 rfl, Lend.of 4 rfl, tI⟩ rfl nds | exact std0 | exact pbD tabOk rfl rfl nds | exact pcW (r _ _) rfl rfl nd rfl nds | exact std1)) (by exact rfl) ?_
  | refine yqQ (a := 1) (b := 2) rfl (by decide +kernel) (by decide +kernel) rfl rfl rfl (fun k h1 h2 hg => by (have hk : k = 1 ∨ k = 2 := (by omega)); (rcases hk with rfl | rfl) <;> (first | exact PRun.callL h4 rfl rfl nd ⟨Lend.of 4 rfl, Lend.agg ⟨Lend.pr _, Lend.pr _, lendE rfl, Lend.sl _ _ _, tI⟩, Lend.of 4 rfl, Lend.of 4 rfl, tI⟩ rfl nds | exact std0 | exact pbD tabOk rfl rfl nds | exact pcW (r _ _) rfl rfl nd rfl nds | exact std1)) (by exact rfl) ?_
  | refine yqQ (a := 2) (b := 2) rfl (by decide +kernel) (by decide +kernel) rfl rfl rfl (fun k h1 h2 hg => by (have hk : k = 2 := (by omega)); (rcases hk with rfl) <;> (first | exact PRun.callL h4 rfl rfl nd ⟨Lend.of 4 rfl, Lend.agg ⟨Lend.pr _, Lend.pr _, lendE rfl, Lend.sl _ _ _, tI⟩, Lend.of 4 rfl, Lend.of 4 rfl, tI⟩ rfl nds | exact std0 | exact pbD tabOk rfl rfl nds | exact pcW (r _ _) rfl rfl nd rfl nds | exact std1)) (by exact rfl) ?_)
 refine YQ.e (v := .any) (d := none) rfl rfl rfl ?_ ?_
 · intro env' he
   exact stW tabOk rfl rfl ((rdv_congr (he 12 (by decide +kernel))).trans rfl) (by rw [rdn_congr (he 12 (by decide +kernel))]; first | exact tI | exact rfl) rfl ((rdv_congr (he 63 (by decide +kernel))).trans rfl) (by rw [rdn_congr (he 63 (by decide +kernel))]; first | exact tI | exact rfl) rfl rfl rfl rfl rfl rfl rfl ⟨rfl, rfl⟩
 repeat' (first
  | refine yqQ (a := 0) (b := 0) rfl (by decide +kernel) (by decide +kernel) rfl rfl rfl (fun k h1 h2 hg => by (have hk : k = 0 := (by omega)); (rcases hk with rfl) <;> (first | exact PRun.callL h4 rfl rfl nd ⟨Lend.of 4 rfl, Lend.agg ⟨Lend.pr _, Lend.pr _, lendE rfl, Lend.sl _ _ _, tI⟩, Lend.of 4 rfl, Lend.of 4 rfl, tI⟩ rfl nds | exact std0 | exact pbD tabOk rfl rfl nds | exact pcW (r _ _) rfl rfl nd rfl nds | exact std1)) (by exact rfl) ?_
  | refine yqQ (a := 0) (b := 1) rfl (by decide +kernel) (by decide +kernel) rfl rfl rfl (fun k h1 h2 hg => by (have hk : k = 0 ∨ k = 1 := (by omega)); (rcases hk with rfl | rfl) <;> (first | exact PRun.callL h4 rfl rfl nd ⟨Lend.of 4 rfl, Lend.agg ⟨Lend.pr _, Lend.pr _, lendE rfl, Lend.sl _ _ _, tI⟩, Lend.of 4 rfl, Lend.of 4 rfl, tI⟩ rfl nds | exact std0 | exact pbD tabOk rfl rfl nds | exact pcW (r _ _) rfl rfl nd rfl nds | exact std1)) (by exact rfl) ?_
  | refine yqQ (a := 1) (b := 1) rfl (by decide +kernel) (by decide +kernel) rfl rfl rfl (fun k h1 h2 hg => by (have hk : k = 1 := (by omega)); (rcases hk with rfl) <;> (first | exact PRun.callL h4 rfl rfl nd ⟨Lend.of 4 rfl, Lend.agg ⟨Lend.pr _, Lend.pr _, lendE rfl, Lend.sl _ _ _, tI⟩, Lend.of 4 rfl, Lend.of 4 rfl, tI⟩ rfl nds | exact std0 | exact pbD tabOk rfl rfl nds | exact pcW (r _ _) rfl rfl nd rfl nds | exact std1)) (by exact rfl) ?_
  | refine yqQ (a := 0) (b := 2) rfl (by decide +kernel) (by decide +kernel) rfl rfl rfl (fun k h1 h2 hg => by (have hk : k = 0 ∨ k = 1 ∨ k = 2 := (by omega)); (rcases hk with rfl | rfl | rfl) <;> (first | exact PRun.callL h4 rfl rfl nd ⟨Lend.of 4 rfl, Lend.agg ⟨Lend.pr _, Lend.pr _, lendE rfl, Lend.sl _ _ _, tI⟩, Lend.of 4 rfl, Lend.of 4 rfl, tI⟩ rfl nds | exact std0 | exact pbD tabOk rfl rfl nds | exact pcW (r _ _) rfl rfl nd rfl nds | exact std1)) (by exact rfl) ?_
  | refine yqQ (a := 1) (b := 2) rfl (by decide +kernel) (by decide +kernel) rfl rfl rfl (fun k h1 h2 hg => by (have hk : k = 1 ∨ k = 2 := (by omega)); (rcases hk with rfl | rfl) <;> (first | exact PRun.callL h4 rfl rfl nd ⟨Lend.of 4 rfl, Lend.agg ⟨Lend.pr _, Lend.pr _, lendE rfl, Lend.sl _ _ _, tI⟩, Lend.of 4 rfl, Lend.of 4 rfl, tI⟩ rfl nds | exact std0 | exact pbD tabOk rfl rfl nds | exact pcW (r _ _) rfl rfl nd rfl nds | exact std1)) (by exact rfl) ?_
  | refine yqQ (a := 2) (b := 2) rfl (by decide +kernel) (by decide +kernel) rfl rfl rfl (fun k h1 h2 hg => by (have hk : k = 2 := (by omega)); (rcases hk with rfl) <;> (first | exact PRun.callL h4 rfl rfl nd ⟨Lend.of 4 rfl, Lend.agg ⟨Lend.pr _, Lend.pr _, lendE rfl, Lend.sl _ _ _, tI⟩, Lend.of 4 rfl, Lend.of 4 rfl, tI⟩ rfl nds | exact std0 | exact pbD tabOk rfl rfl nds | exact pcW (r _ _) rfl rfl nd rfl nds | exact std1)) (by exact rfl) ?_)
 refine YQ.nil (hK _ _ ?_)
 clear hK K'
 refine AWP.keep [(1, .ptr 7 0), (2, .ptr 8 0), (3, .ptr 9 0), (4, .ptr 10 0), (5, .ptr 11 0), (6, .int 0), (7, .ptr 12 0), (8, .b true), (9, .int 0), (10, .ptr 13 0), (11, .int 0), (12, .ptr 14 0), (13, .int 21)] ⟨rfl, rfl, rfl, rfl, rfl, rfl, rfl, rfl, rfl, rfl, rfl, rfl, rfl, tI⟩ ?_
 repeat refine sqW ?_
 refine AWP.drawY (fun j => match j with | 0 => B0 ++ [.var (encCl exC), .var (encMo exM), .var (encCl exC)] ++ [.var [.int 11, .int 1, .int 0, .int 1]] ++ [.var z48] | 1 => B0 ++ [.var (encCl exC), .var (encMo exM), .var (encCl exC)] ++ [.var [.int 11, .int 1, .int 0, .int 1]] ++ [.var z48] ++ [.var z48] | _ => B0 ++ [.var (encCl exC), .var (encMo exM), .var (encCl exC)] ++ [.var [.int 11, .int 1, .int 0, .int 1]] ++ [.var z48] ++ [.var z48]) rfl (by kernel_rfl) (by decide +kernel) rfl (by decide +kernel) (fun K' hK => ?_)
 repeat' (first
  | refine yqQ (a := 0) (b := 0) rfl (by decide +kernel) (by decide +kernel) rfl rfl rfl (fun k h1 h2 hg => by (have hk : k = 0 := (by omega)); (rcases hk with rfl) <;> (first | exact PRun.callL h5 rfl rfl nd ⟨Lend.of 4 rfl, Lend.agg ⟨Lend.pr _, Lend.pr _, lendE rfl, Lend.sl _ _ _, tI⟩, Lend.of 4 rfl, Lend.of 4 rfl, tI⟩ rfl nds | exact std0 | exact pbD tabOk rfl rfl nds | exact pcW (r _ _) rfl rfl nd rfl nds | exact std1)) (by exact rfl) ?_
  | refine yqQ (a := 0) (b := 1) rfl (by decide +kernel) (by decide +kernel) rfl rfl rfl (fun k h1 h2 hg => by (have hk : k = 0 ∨ k = 1 := (by omega)); (rcases hk with rfl | rfl) <;> (first | exact PRun.callL h5 rfl rfl nd ⟨Lend.of 4 rfl, Lend.agg ⟨Lend.pr _, Lend.pr _, lendE rfl, Lend.sl _ _ _, tI⟩, Lend.of 4 rfl, Lend.of 4 rfl, tI⟩ rfl nds | exact std0 | exact pbD tabOk rfl rfl nds | exact pcW (r _ _) rfl rfl nd rfl nds | exact std1)) (by exact rfl) ?_
  | refine yqQ (a := 1) (b := 1) rfl (by decide +kernel) (by decide +kernel) rfl rfl rfl (fun k h1 h2 hg => by (have hk : k = 1 := (by omega)); (rcases hk with rfl) <;> (first | exact PRun.callL h5 rfl rfl nd ⟨Lend.of 4 rfl, Lend.agg ⟨Lend.pr _, Lend.pr _, lendE rfl, Lend.sl _ _ _, tI⟩, Lend.of 4 rfl, Lend.of 4 rfl, tI⟩ rfl nds | exact std0 | exact pbD tabOk rfl rfl nds | exact pcW (r _ _) rfl rfl nd rfl nds | exact std1)) (by exact rfl) ?_
  | refine yqQ (a := 0) (b := 2) rfl (by decide +kernel) (by decide +kernel) rfl rfl rfl (fun k h1 h2 hg => by (have hk : k = 0 ∨ k = 1 ∨ k = 2 := (by omega)); (rcases hk with rfl | rfl | rfl) <;> (first | exact PRun.callL h5 rfl rfl nd ⟨Lend.of 4 rfl, Lend.agg ⟨Lend.pr _, Lend.pr _, lendE rfl, Lend.sl _ _ _, tI⟩, Lend.of 4 rfl, Lend.of 4 rfl, tI⟩ rfl nds | exact std0 | exact pbD tabOk rfl rfl nds | exact pcW (r _ _) rfl rfl nd rfl nds | exact std1)) (by exact rfl) ?_
  | refine yqQ (a := 1) (b := 2) rfl (by decide +kernel) (by decide +kernel) rfl rfl rfl (fun k h1 h2 hg => by (have hk : k = 1 ∨ k = 2 := (by omega)); (rcases hk with rfl | rfl) <;> (first | exact PRun.callL h5 rfl rfl nd ⟨Lend.of 4 rfl, Lend.agg ⟨Lend.pr _, Lend.pr _, lendE rfl, Lend.sl _ _ _, tI⟩, Lend.of 4 rfl, Lend.of 4 rfl, tI⟩ rfl nds | exact std0 | exact pbD tabOk rfl rfl nds | exact pcW (r _ _) rfl rfl nd rfl nds | exact std1)) (by exact rfl) ?_
  | refine yqQ (a := 2) (b := 2) rfl (by decide +kernel) (by decide +kernel) rfl rfl rfl (fun k h1 h2 hg => by (have hk : k = 2 := (by omega)); (rcases hk with rfl) <;> (first | exact PRun.callL h5 rfl rfl nd ⟨Lend.of 4 rfl, Lend.agg ⟨Lend.pr _, Lend.pr _, lendE rfl, Lend.sl _ _ _, tI⟩, Lend.of 4 rfl, Lend.of 4 rfl, tI⟩ rfl nds | exact std0 | exact pbD tabOk rfl rfl nds | exact pcW (r _ _) rfl rfl nd rfl nds | exact std1)) (by exact rfl) ?_)
 refine YQ.e (v := .ptr 15 0) (d := some 14) rfl rfl rfl ?_ ?_
 · intro env' he
   exact alW tabOk rfl rfl rfl rfl rfl rfl ⟨rfl, rfl⟩
 repeat' (first
  | refine yqQ (a := 0) (b := 0) rfl (by decide +kernel) (by decide +kernel) rfl rfl rfl (fun k h1 h2 hg => by (have hk : k = 0 := (by omega)); (rcases hk with rfl) <;> (first | exact PRun.callL h5 rfl rfl nd ⟨Lend.of 4 rfl, Lend.agg ⟨Lend.pr _, Lend.pr _, lendE rfl, Lend.sl _ _ _, tI⟩, Lend.of 4 rfl, Lend.of 4 rfl, tI⟩ rfl nds | exact std0 | exact pbD tabOk rfl rfl nds | exact pcW (r _ _) rfl rfl nd rfl nds | exact std1)) (by exact rfl) ?_
  | refine yqQ (a := 0) (b := 1) rfl (by decide +kernel) (by decide +kernel) rfl rfl rfl (fun k h1 h2 hg => by (have hk : k = 0 ∨ k = 1 := (by omega)); (rcases hk with rfl | rfl) <;> (first | exact PRun.callL h5 rfl rfl nd ⟨Lend.of 4 rfl, Lend.agg ⟨Lend.pr _, Lend.pr _, lendE rfl, Lend.sl _ _ _, tI⟩, Lend.of 4 rfl, Lend.of 4 rfl, tI⟩ rfl nds | exact std0 | exact pbD tabOk rfl rfl nds | exact pcW (r _ _) rfl rfl nd rfl nds | exact std1)) (by exact rfl) ?_
  | refine yqQ (a := 1) (b := 1) rfl (by decide +kernel) (by decide +kernel) rfl rfl rfl (fun k h1 h2 hg => by (have hk : k = 1 := (by omega)); (rcases hk with rfl) <;> (first | exact PRun.callL h5 rfl rfl nd ⟨Lend.of 4 rfl, Lend.agg ⟨Lend.pr _, Lend.pr _, lendE rfl, Lend.sl _ _ _, tI⟩, Lend.of 4 rfl, Lend.of 4 rfl, tI⟩ rfl nds | exact std0 | exact pbD tabOk rfl rfl nds | exact pcW (r _ _) rfl rfl nd rfl nds | exact std1)) (by exact rfl) ?_
  | refine yqQ (a := 0) (b := 2) rfl (by decide +kernel) (by decide +kernel) rfl rfl rfl (fun k h1 h2 hg => by (have hk : k = 0 ∨ k = 1 ∨ k = 2 := (by omega)); (rcases hk with rfl | rfl | rfl) <;> (first | exact PRun.callL h5 rfl rfl nd ⟨Lend.of 4 rfl, Lend.agg ⟨Lend.pr _, Lend.pr _, lendE rfl, Lend.sl _ _ _, tI⟩, Lend.of 4 rfl, Lend.of 4 rfl, tI⟩ rfl nds | exact std0 | exact pbD tabOk rfl rfl nds | exact pcW (r _ _) rfl rfl nd rfl nds | exact std1)) (by exact rfl) ?_
  | refine yqQ (a := 1) (b := 2) rfl (by decide +kernel) (by decide +kernel) rfl rfl rfl (fun k h1 h2 hg => by (have hk : k = 1 ∨ k = 2 := (by omega)); (rcases hk with rfl | rfl) <;> (first | exact PRun.callL h5 rfl rfl nd ⟨Lend.of 4 rfl, Lend.agg ⟨Lend.pr _, Lend.pr _, lendE rfl, Lend.sl _ _ _, tI⟩, Lend.of 4 rfl, Lend.of 4 rfl, tI⟩ rfl nds | exact std0 | exact pbD tabOk rfl rfl nds | exact pcW (r _ _) rfl rfl nd rfl nds | exact std1)) (by exact rfl) ?_
  | refine yqQ (a := 2) (b := 2) rfl (by decide +kernel) (by decide +kernel) rfl rfl rfl (fun k h1 h2 hg => by (have hk : k = 2 := (by omega)); (rcases hk with rfl) <;> (first | exact PRun.callL h5 rfl rfl nd ⟨Lend.of 4 rfl, Lend.agg ⟨Lend.pr _, Lend.pr _, lendE rfl, Lend.sl _ _ _, tI⟩, Lend.of 4 rfl, Lend.of 4 rfl, tI⟩ rfl nds | exact std0 | exact pbD tabOk rfl rfl nds | exact pcW (r _ _) rfl rfl nd rfl nds | exact std1)) (by exact rfl) ?_)
 refine YQ.e (v := .any) (d := none) rfl rfl rfl ?_ ?_
 · intro env' he
   exact stW tabOk rfl rfl ((rdv_congr (he 14 (by decide +kernel))).trans rfl) (by rw [rdn_congr (he 14 (by decide +kernel))]; first | exact tI | exact rfl) rfl ((rdv_congr (he 72 (by decide +kernel))).trans rfl) (by rw [rdn_congr (he 72 (by decide +kernel))]; first | exact tI | exact rfl) rfl rfl rfl rfl rfl rfl rfl ⟨rfl, rfl⟩
 repeat' (first
  | refine yqQ (a := 0) (b := 0) rfl (by decide +kernel) (by decide +kernel) rfl rfl rfl (fun k h1 h2 hg => by (have hk : k = 0 := (by omega)); (rcases hk with rfl) <;> (first | exact PRun.callL h5 rfl rfl nd ⟨Lend.of 4 rfl, Lend.agg ⟨Lend.pr _, Lend.pr _, lendE rfl, Lend.sl _ _ _, tI⟩, Lend.of 4 rfl, Lend.of 4 rfl, tI⟩ rfl nds | exact std0 | exact pbD tabOk rfl rfl nds | exact pcW (r _ _) rfl rfl nd rfl nds | exact std1)) (by exact rfl) ?_
  | refine yqQ (a := 0) (b := 1) rfl (by decide +kernel) (by decide +kernel) rfl rfl rfl (fun k h1 h2 hg => by (have hk : k = 0 ∨ k = 1 := (by omega)); (rcases hk with rfl | rfl) <;> (first | exact PRun.callL h5 rfl rfl nd ⟨Lend.of 4 rfl, Lend.agg ⟨Lend.pr _, Lend.pr _, lendE rfl, Lend.sl _ _ _, tI⟩, Lend.of 4 rfl, Lend.of 4 rfl, tI⟩ rfl nds | exact std0 | exact pbD tabOk rfl rfl nds | exact pcW (r _ _) rfl rfl nd rfl nds | exact std1)) (by exact rfl) ?_
  | refine yqQ (a := 1) (b := 1) rfl (by decide +kernel) (by decide +kernel) rfl rfl rfl (fun k h1 h2 hg => by (have hk : k = 1 := (by omega)); (rcases hk with rfl) <;> (first | exact PRun.callL h5 rfl rfl nd ⟨Lend.of 4 rfl, Lend.agg ⟨Lend.pr _, Lend.pr _, lendE rfl, Lend.sl _ _ _, tI⟩, Lend.of 4 rfl, Lend.of 4 rfl, tI⟩ rfl nds | exact std0 | exact pbD tabOk rfl rfl nds | exact pcW (r _ _) rfl rfl nd rfl nds | exact std1)) (by exact rfl) ?_
  | refine yqQ (a := 0) (b := 2) rfl (by decide +kernel) (by decide +kernel) rfl rfl rfl (fun k h1 h2 hg => by (have hk : k = 0 ∨ k = 1 ∨ k = 2 := (by omega)); (rcases hk with rfl | rfl | rfl) <;> (first | exact PRun.callL h5 rfl rfl nd ⟨Lend.of 4 rfl, Lend.agg ⟨Lend.pr _, Lend.pr _, lendE rfl, Lend.sl _ _ _, tI⟩, Lend.of 4 rfl, Lend.of 4 rfl, tI⟩ rfl nds | exact std0 | exact pbD tabOk rfl rfl nds | exact pcW (r _ _) rfl rfl nd rfl nds | exact std1)) (by exact rfl) ?_
  | refine yqQ (a := 1) (b := 2) rfl (by decide +kernel) (by decide +kernel) rfl rfl rfl (fun k h1 h2 hg => by (have hk : k = 1 ∨ k = 2 := (by omega)); (rcases hk with rfl | rfl) <;> (first | exact PRun.callL h5 rfl rfl nd ⟨Lend.of 4 rfl, Lend.agg ⟨Lend.pr _, Lend.pr _, lendE rfl, Lend.sl _ _ _, tI⟩, Lend.of 4 rfl, Lend.of 4 rfl, tI⟩ rfl nds | exact std0 | exact pbD tabOk rfl rfl nds | exact pcW (r _ _) rfl rfl nd rfl nds | exact std1)) (by exact rfl) ?_
  | refine yqQ (a := 2) (b := 2) rfl (by decide +kernel) (by decide +kernel) rfl rfl rfl (fun k h1 h2 hg => by (have hk : k = 2 := (by omega)); (rcases hk with rfl) <;> (first | exact PRun.callL h5 rfl rfl nd ⟨Lend.of 4 rfl, Lend.agg ⟨Lend.pr _, Lend.pr _, lendE rfl, Lend.sl _ _ _, tI⟩, Lend.of 4 rfl, Lend.of 4 rfl, tI⟩ rfl nds | exact std0 | exact pbD tabOk rfl rfl nds | exact pcW (r _ _) rfl rfl nd rfl nds | exact std1)) (by exact rfl) ?_)
 refine YQ.nil (hK _ _ ?_)
 clear hK K'
 refine AWP.keep [(1, .ptr 7 0), (2, .ptr 8 0), (3, .ptr 9 0), (4, .ptr 10 0), (5, .ptr 11 0), (6, .int 0), (7, .ptr 12 0), (8, .b true), (9, .int 0), (10, .ptr 13 0), (11, .int 0), (12, .ptr 14 0), (13, .int 21), (14, .ptr 15 0), (15, .int 3)] ⟨rfl, rfl, rfl, rfl, rfl, rfl, rfl, rfl, rfl, rfl, rfl, rfl, rfl, rfl, rfl, tI⟩ ?_
 repeat refine sqW ?_
 refine AWP.drawY (fun j => match j with | 0 => B0 ++ [.var (encCl exC), .var (encMo exM), .var (encCl exC)] ++ [.var [.int 11, .int 1, .int 0, .int 1]] ++ [.var z48] ++ [.var z48] | 1 => B0 ++ [.var (encCl exC), .var (encMo exM), .var (encCl exC)] ++ [.var [.int 11, .int 1, .int 0, .int 1]] ++ [.var z48] ++ [.var z48] ++ [.var z48] | _ => B0 ++ [.var (encCl exC), .var (encMo exM), .var (encCl exC)] ++ [.var [.int 11, .int 1, .int 0, .int 1]] ++ [.var z48] ++ [.var z48] ++ [.var z48]) rfl (by kernel_rfl) (by decide +kernel) rfl (by decide +kernel) (fun K' hK => ?_)
 repeat' (first
  | refine yqQ (a := 0) (b := 0) rfl (by decide +kernel) (by decide +kernel) rfl rfl rfl (fun k h1 h2 hg => by (have hk : k = 0 := (by omega)); (rcases hk with rfl) <;> (first | exact PRun.callL h6 rfl rfl nd ⟨Lend.of 4 rfl, Lend.agg ⟨Lend.pr _, Lend.pr _, lendE rfl, Lend.sl _ _ _, tI⟩, Lend.of 4 rfl, Lend.of 4 rfl, tI⟩ rfl nds | exact std0 | exact pbD tabOk rfl rfl nds | exact pcW (r _ _) rfl rfl nd rfl nds | exact std1)) (by exact rfl) ?_
  | refine yqQ (a := 0) (b := 1) rfl (by decide +kernel) (by decide +kernel) rfl rfl rfl (fun k h1 h2 hg => by (have hk : k = 0 ∨ k = 1 := (by omega)); (rcases hk with rfl | rfl) <;> (first | exact PRun.callL h6 rfl rfl nd ⟨Lend.of 4 rfl, Lend.agg ⟨Lend.pr _, Lend.pr _, lendE rfl, Lend.sl _ _ _, tI⟩, Lend.of 4 rfl, Lend.of 4 rfl, tI⟩ rfl nds | exact std0 | exact pbD tabOk rfl rfl nds | exact pcW (r _ _) rfl rfl nd rfl nds | exact std1)) (by exact rfl) ?_
  | refine yqQ (a := 1) (b := 1) rfl (by decide +kernel) (by decide +kernel) rfl rfl rfl (fun k h1 h2 hg => by (have hk : k = 1 := (by omega)); (rcases hk with rfl) <;> (first | exact PRun.callL h6 rfl rfl nd ⟨Lend.of 4 rfl, Lend.agg ⟨Lend.pr _, Lend.pr _, lendE rfl, Lend.sl _ _ _, tI⟩, Lend.of 4 rfl, Lend.of 4 rfl, tI⟩ rfl nds | exact std0 | exact pbD tabOk rfl rfl nds | exact pcW (r _ _) rfl rfl nd rfl nds | exact std1)) (by exact rfl) ?_
  | refine yqQ (a := 0) (b := 2) rfl (by decide +kernel) (by decide +kernel) rfl rfl rfl (fun k h1 h2 hg => by (have hk : k = 0 ∨ k = 1 ∨ k = 2 := (by omega)); (rcases hk with rfl | rfl | rfl) <;> (first | exact PRun.callL h6 rfl rfl nd ⟨Lend.of 4 rfl, Lend.agg ⟨Lend.pr _, Lend.pr _, lendE rfl, Lend.sl _ _ _, tI⟩, Lend.of 4 rfl, Lend.of 4 rfl, tI⟩ rfl nds | exact std0 | exact pbD tabOk rfl rfl nds | exact pcW (r _ _) rfl rfl nd rfl nds | exact std1)) (by exact rfl) ?_
  | refine yqQ (a := 1) (b := 2) rfl (by decide +kernel) (by decide +kernel) rfl rfl rfl (fun k h1 h2 hg => by (have hk : k = 1 ∨ k = 2 := (by omega)); (rcases hk with rfl | rfl) <;> (first | exact PRun.callL h6 rfl rfl nd ⟨Lend.of 4 rfl, Lend.agg ⟨Lend.pr _, Lend.pr _, lendE rfl, Lend.sl _ _ _, tI⟩, Lend.of 4 rfl, Lend.of 4 rfl, tI⟩ rfl nds | exact std0 | exact pbD tabOk rfl rfl nds | exact pcW (r _ _) rfl rfl nd rfl nds | exact std1)) (by exact rfl) ?_
  | refine yqQ (a := 2) (b := 2) rfl (by decide +kernel) (by decide +kernel) rfl rfl rfl (fun k h1 h2 hg => by (have hk : k = 2 := (by omega)); (rcases hk with rfl) <;> (first | exact PRun.callL h6 rfl rfl nd ⟨Lend.of 4 rfl, Lend.agg ⟨Lend.pr _, Lend.pr _, lendE rfl, Lend.sl _ _ _, tI⟩, Lend.of 4 rfl, Lend.of 4 rfl, tI⟩ rfl nds | exact std0 | exact pbD tabOk rfl rfl nds | exact pcW (r _ _) rfl rfl nd rfl nds | exact std1)) (by exact rfl) ?_)
 refine YQ.e (v := .ptr 16 0) (d := some 16) rfl rfl rfl ?_ ?_
 · intro env' he
   exact alW tabOk rfl rfl rfl rfl rfl rfl ⟨rfl, rfl⟩
 repeat' (first
  | refine yqQ (a := 0) (b := 0) rfl (by decide +kernel) (by decide +kernel) rfl rfl rfl (fun k h1 h2 hg => by (have hk : k = 0 := (by omega)); (rcases hk with rfl) <;> (first | exact PRun.callL h6 rfl rfl nd ⟨Lend.of 4 rfl, Lend.agg ⟨Lend.pr _, Lend.pr _, lendE rfl, Lend.sl _ _ _, tI⟩, Lend.of 4 rfl, Lend.of 4 rfl, tI⟩ rfl nds | exact std0 | exact pbD tabOk rfl rfl nds | exact pcW (r _ _) rfl rfl nd rfl nds | exact std1)) (by exact rfl) ?_
  | refine yqQ (a := 0) (b := 1) rfl (by decide +kernel) (by decide +kernel) rfl rfl rfl (fun k h1 h2 hg => by (have hk : k = 0 ∨ k = 1 := (by omega)); (rcases hk with rfl | rfl) <;> (first | exact PRun.callL h6 rfl rfl nd ⟨Lend.of 4 rfl, Lend.agg ⟨Lend.pr _, Lend.pr _, lendE rfl, Lend.sl _ _ _, tI⟩, Lend.of 4 rfl, Lend.of 4 rfl, tI⟩ rfl nds | exact std0 | exact pbD tabOk rfl rfl nds | exact pcW (r _ _) rfl rfl nd rfl nds | exact std1)) (by exact rfl) ?_
  | refine yqQ (a := 1) (b := 1) rfl (by decide +kernel) (by decide +kernel) rfl rfl rfl (fun k h1 h2 hg => by (have hk : k = 1 := (by omega)); (rcases hk with rfl) <;> (first | exact PRun.callL h6 rfl rfl nd ⟨Lend.of 4 rfl, Lend.agg ⟨Lend.pr _, Lend.pr _, lendE rfl, Lend.sl _ _ _, tI⟩, Lend.of 4 rfl, Lend.of 4 rfl, tI⟩ rfl nds | exact std0 | exact pbD tabOk rfl rfl nds | exact pcW (r _ _) rfl rfl nd rfl nds | exact std1)) (by exact rfl) ?_
  | refine yqQ (a := 0) (b := 2) rfl (by decide +kernel) (by decide +kernel) rfl rfl rfl (fun k h1 h2 hg => by (have hk : k = 0 ∨ k = 1 ∨ k = 2 := (by omega)); (rcases hk with rfl | rfl | rfl) <;> (first | exact PRun.callL h6 rfl rfl nd ⟨Lend.of 4 rfl, Lend.agg ⟨Lend.pr _, Lend.pr _, lendE rfl, Lend.sl _ _ _, tI⟩, Lend.of 4 rfl, Lend.of 4 rfl, tI⟩ rfl nds | exact std0 | exact pbD tabOk rfl rfl nds | exact pcW (r _ _) rfl rfl nd rfl nds | exact std1)) (by exact rfl) ?_
  | refine yqQ (a := 1) (b := 2) rfl (by decide +kernel) (by decide +kernel) rfl rfl rfl (fun k h1 h2 hg => by (have hk : k = 1 ∨ k = 2 := (by omega)); (rcases hk with rfl | rfl) <;> (first | exact PRun.callL h6 rfl rfl nd ⟨Lend.of 4 rfl, Lend.agg ⟨Lend.pr _, Lend.pr _, lendE rfl, Lend.sl _ _ _, tI⟩, Lend.of 4 rfl, Lend.of 4 rfl, tI⟩ rfl nds | exact std0 | exact pbD tabOk rfl rfl nds | exact pcW (r _ _) rfl rfl nd rfl nds | exact std1)) (by exact rfl) ?_
  | refine yqQ (a := 2) (b := 2) rfl (by decide +kernel) (by decide +kernel) rfl rfl rfl (fun k h1 h2 hg => by (have hk : k = 2 := (by omega)); (rcases hk with rfl) <;> (first | exact PRun.callL h6 rfl rfl nd ⟨Lend.of 4 rfl, Lend.agg ⟨Lend.pr _, Lend.pr _, lendE rfl, Lend.sl _ _ _, tI⟩, Lend.of 4 rfl, Lend.of 4 rfl, tI⟩ rfl nds | exact std0 | exact pbD tabOk rfl rfl nds | exact pcW (r _ _) rfl rfl nd rfl nds | exact std1)) (by exact rfl) ?_)
 refine YQ.e (v := .any) (d := none) rfl rfl rfl ?_ ?_
 · intro env' he
   exact stW tabOk rfl rfl ((rdv_congr (he 16 (by decide +kernel))).trans rfl) (by rw [rdn_congr (he 16 (by decide +kernel))]; first | exact tI | exact rfl) rfl ((rdv_congr (he 81 (by decide +kernel))).trans rfl) (by rw [rdn_congr (he 81 (by decide +kernel))]; first | exact tI | exact rfl) rfl rfl rfl rfl rfl rfl rfl ⟨rfl, rfl⟩
 repeat' (first
  | refine yqQ (a := 0) (b := 0) rfl (by decide +kernel) (by decide +kernel) rfl rfl rfl (fun k h1 h2 hg => by (have hk : k = 0 := (by omega)); (rcases hk with rfl) <;> (first | exact PRun.callL h6 rfl rfl nd ⟨Lend.of 4 rfl, Lend.agg ⟨Lend.pr _, Lend.pr _, lendE rfl, Lend.sl _ _ _, tI⟩, Lend.of 4 rfl, Lend.of 4 rfl, tI⟩ rfl nds | exact std0 | exact pbD tabOk rfl rfl nds | exact pcW (r _ _) rfl rfl nd rfl nds | exact std1)) (by exact rfl) ?_
  | refine yqQ (a := 0) (b := 1) rfl (by decide +kernel) (by decide +kernel) rfl rfl rfl (fun k h1 h2 hg => by (have hk : k = 0 ∨ k = 1 := (by omega)); (rcases hk with rfl | rfl) <;> (first | exact PRun.callL h6 rfl rfl nd ⟨Lend.of 4 rfl, Lend.agg ⟨Lend.pr _, Lend.pr _, lendE rfl, Lend.sl _ _ _, tI⟩, Lend.of 4 rfl, Lend.of 4 rfl, tI⟩ rfl nds | exact std0 | exact pbD tabOk rfl rfl nds | exact pcW (r _ _) rfl rfl nd rfl nds | exact std1)) (by exact rfl) ?_
  | refine yqQ (a := 1) (b := 1) rfl (by decide +kernel) (by decide +kernel) rfl rfl rfl (fun k h1 h2 hg => by (have hk : k = 1 := (by omega)); (rcases hk with rfl) <;> (first | exact PRun.callL h6 rfl rfl nd ⟨Lend.of 4 rfl, Lend.agg ⟨Lend.pr _, Lend.pr _, lendE rfl, Lend.sl _ _ _, tI⟩, Lend.of 4 rfl, Lend.of 4 rfl, tI⟩ rfl nds | exact std0 | exact pbD tabOk rfl rfl nds | exact pcW (r _ _) rfl rfl nd rfl nds | exact std1)) (by exact rfl) ?_
  | refine yqQ (a := 0) (b := 2) rfl (by decide +kernel) (by decide +kernel) rfl rfl rfl (fun k h1 h2 hg => by (have hk : k = 0 ∨ k = 1 ∨ k = 2 := (by omega)); (rcases hk with rfl | rfl | rfl) <;> (first | exact PRun.callL h6 rfl rfl nd ⟨Lend.of 4 rfl, Lend.agg ⟨Lend.pr _, Lend.pr _, lendE rfl, Lend.sl _ _ _, tI⟩, Lend.of 4 rfl, Lend.of 4 rfl, tI⟩ rfl nds | exact std0 | exact pbD tabOk rfl rfl nds | exact pcW (r _ _) rfl rfl nd rfl nds | exact std1)) (by exact rfl) ?_
  | refine yqQ (a := 1) (b := 2) rfl (by decide +kernel) (by decide +kernel) rfl rfl rfl (fun k h1 h2 hg => by (have hk : k = 1 ∨ k = 2 := (by omega)); (rcases hk with rfl | rfl) <;> (first | exact PRun.callL h6 rfl rfl nd ⟨Lend.of 4 rfl, Lend.agg ⟨Lend.pr _, Lend.pr _, lendE rfl, Lend.sl _ _ _, tI⟩, Lend.of 4 rfl, Lend.of 4 rfl, tI⟩ rfl nds | exact std0 | exact pbD tabOk rfl rfl nds | exact pcW (r _ _) rfl rfl nd rfl nds | exact std1)) (by exact rfl) ?_
  | refine yqQ (a := 2) (b := 2) rfl (by decide +kernel) (by decide +kernel) rfl rfl rfl (fun k h1 h2 hg => by (have hk : k = 2 := (by omega)); (rcases hk with rfl) <;> (first | exact PRun.callL h6 rfl rfl nd ⟨Lend.of 4 rfl, Lend.agg ⟨Lend.pr _, Lend.pr _, lendE rfl, Lend.sl _ _ _, tI⟩, Lend.of 4 rfl, Lend.of 4 rfl, tI⟩ rfl nds | exact std0 | exact pbD tabOk rfl rfl nds | exact pcW (r _ _) rfl rfl nd rfl nds | exact std1)) (by exact rfl) ?_)
 refine YQ.nil (hK _ _ ?_)
 clear hK K'
 refine AWP.keep [(1, .ptr 7 0), (2, .ptr 8 0), (3, .ptr 9 0), (4, .ptr 10 0), (5, .ptr 11 0), (6, .int 0), (7, .ptr 12 0), (8, .b true), (9, .int 0), (10, .ptr 13 0), (11, .int 0), (12, .ptr 14 0), (13, .int 21), (14, .ptr 15 0), (15, .int 3), (16, .ptr 16 0), (17, .int 30)] ⟨rfl, rfl, rfl, rfl, rfl, rfl, rfl, rfl, rfl, rfl, rfl, rfl, rfl, rfl, rfl, rfl, rfl, tI⟩ ?_
 repeat refine sqW ?_
 refine rgK (fun K' hK => ?_)
 repeat' (first | refine aoQ rfl rfl rfl (fun hg => by first | exact std0 | exact pbD tabOk rfl rfl nds | exact pbS tabOk rfl rfl nds) (by exact rfl) ?_ | refine aoE (stW tabOk rfl rfl rfl tI rfl rfl tI rfl rfl rfl rfl rfl rfl rfl ?_))
 refine aoN (hK _ _ ?_)
 clear hK K'
 repeat refine sqW ?_
 refine rgK (fun K' hK => ?_)
 repeat' (first | refine aoQ rfl rfl rfl (fun hg => by first | exact PRun.callL h7 rfl rfl nd ⟨Lend.of 4 rfl, Lend.agg ⟨Lend.pr _, Lend.pr _, lendE rfl, Lend.sl _ _ _, tI⟩, Lend.of 4 rfl, Lend.of 4 rfl, tI⟩ rfl nds | exact std0) (by exact rfl) ?_ | refine aoE (stW tabOk rfl rfl rfl tI rfl rfl tI rfl rfl rfl rfl rfl rfl rfl ?_) | refine aoE (alW tabOk rfl rfl rfl rfl rfl rfl ?_))
 refine aoN (hK _ _ ?_)
 clear hK K'
 repeat refine sqW ?_
 refine rgK (fun K' hK => ?_)
 repeat' (first | refine aoQ rfl rfl rfl (fun hg => by first | exact std0 | exact PRun.indexA0 tabOk rfl rfl nd rfl nd rfl (by decide) rfl ⟨by decide, by decide⟩ | exact PRun.fieldE tabOk rfl rfl nd rfl rfl) (by exact rfl) ?_ | refine aoE (EStep.storeEO (l := 6) tabOk rfl rfl rfl tI rfl (by decide) rfl tI rfl rfl rfl rfl (by decide) rfl ?_))
 refine aoN (hK _ _ ?_)
 clear hK K'
 repeat refine sqW ?_
 refine rgK (fun K' hK => ?_)
 repeat' (first | refine aoQ rfl rfl rfl (fun hg => by first | exact PRun.callL h8 rfl rfl nd ⟨Lend.of 4 rfl, Lend.agg ⟨Lend.pr _, Lend.pr _, lendE2 rfl, Lend.sl _ _ _, tI⟩, Lend.of 4 rfl, Lend.of 4 rfl, tI⟩ rfl nds | exact std0) (by exact rfl) ?_ | refine aoE (stW tabOk rfl rfl rfl tI rfl rfl tI rfl rfl rfl rfl rfl rfl rfl ?_) | refine aoE (alW tabOk rfl rfl rfl rfl rfl rfl ?_))
 refine aoN (hK _ _ ?_)
 clear hK K'
 repeat' (first | refine aoQ rfl rfl rfl (fun hg => by exact std0) (by exact rfl) ?_ | refine sqW ?_ | refine rgK (fun K' hK => ?_) | (refine aoN (hK _ _ ?_); clear hK K') | refine rtW ?_ | refine dK2 (by decide +kernel) (by kernel_rfl) (by decide +kernel) rfl (fun K' hK => ?_) | (refine aqN (hK _ ?_); clear hK K') | refine aqQ rfl rfl (fun hg => by first | exact std0 | exact pbD tabOk rfl rfl nds | exact pcW (r _ _) rfl rfl nd rfl nds | exact PRun.eqN flMo rfl rfl nd rfl nd rfl | exact PRun.eqN flCl rfl rfl nd rfl nd rfl) (by exact rfl) ?_)
 all_goals exact ⟨.inr rfl, Ent.b (by decide +kernel)⟩
end Go.Proofs.YtdglbdfdkabjfaaGreatDoor.Pl
