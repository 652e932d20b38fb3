/- Contracts by content: the layers of marks; a mark of the program. No statement is proved here. -/
import Derived.Test.YtbneeinknlddaaaGreatP3
import Derived.Test.YtbneeinknlddaaaGreatP18
set_option linter.unusedVariables false
set_option linter.unusedSimpArgs false
namespace Go.Ab
section
variable {P : Program} {n : Nat} {ops : Array Oper} {o : Oper} {env : Env} {σ : Store} {k : Env → Store → Prop}
theorem EStep.insert {κ α : Type} [DecidableEq κ] {ek : κ → Value} {ev : α → AV} {t kt et : TypeId} {m x y : Operand} {l : Nat} {al : List (κ × α)} {key : κ} {v : α} {uk : AV} {s1 b1 : Nat} {z : List Z}
 (K : KeyLaw P kt ek) (hl : LOk P t ⟨.map kt et, s1, b1, z⟩) (ho : o.op = .insert t m x y) (hg : o.guard = none) (hdn : dstOk n o = true) (hm : Rd env m (.map l)) (hσ : σ[l]? = some (.map (encM ek ev al)))
 (hx : Rd env x uk) (hex : exactV uk = some (ek key)) (hy : Rd env y (ev v)) (hk : k (env.putO o.dst .any) (σ.set l (.map (encM ek ev (ins al key v))))) : EStep P n ops o k env σ := by
 have h := EStep.mapUpd (ops := ops) (o := { o with op := .mapUpdate t m x y }) (k := k) K hl rfl hg hdn hm hσ hx hex hy hk
 intro G a w hr
 have h1 := h G a w hr
 have e1 : Region.wanted { o with op := .mapUpdate t m x y } (yielded ops a.tmps) = Region.wanted o (yielded ops a.tmps) := rfl
 have e2 : execOp a.eval { o with op := .mapUpdate t m x y } = execOp a.eval o := by simp only [execOp, ho]
 rw [e1] at h1
 have e3 : Region.wanted o (yielded ops a.tmps) = true := by simp [Region.wanted, hg]
 rw [if_pos e3] at h1 ⊢
 unfold OWP at h1 ⊢
 rw [e2] at h1
 exact h1
end
end Go.Ab
namespace Go.Proofs.YtbneeinknlddaaaGreat
open Go.Ab Go.Jo
attribute [local irreducible] AWP AOps EStep AQ PStep PRun PCall TCall VCall DStep TDies AWD DCall
abbrev ekI (n : Int) : Value := .int .i64 n
def layF : Nat → AV
 | 0 => .agg [.prim .nilFunc, .prim .nilFunc]
 | 1 => .agg [.fn (.func 118) [] [], .fn (.func 119) [] []]
 | 2 => .agg [.fn (.func 120) [] [], .fn (.func 121) [] []]
 | 3 => .agg [.fn (.func 122) [] [], .fn (.func 123) [] []]
 | _ => .agg [.fn (.func 124) [] [], .fn (.func 125) [] []]
theorem lay2_spec (r : Rdr) : PCall Tryz.prog 120 [.agg (encRd r)] (.b (byOk 2 r)) := by
 have v := mrdr_spec ⟨r.part, r.desk, 1⟩
 refine PCall.body Tryz.func120 rfl rfl Tryz.ntmps120 rfl rfl ?_
 repeat' (first | refine aoQ rfl rfl rfl (fun hg => by first | exact std0 | exact pcW (v) rfl rfl nd rfl nds | exact pbD tabOk rfl rfl nds | exact std1) (by exact rfl) ?_ | refine sqW ?_ | refine rgK (fun K' hK => ?_) | (refine aoN (hK _ _ ?_); clear hK K') | refine aoE (bxW rfl rfl rfl rfl rfl tI rfl rfl ?_) | refine aoE (stW tabOk rfl rfl rfl tI rfl rfl tI rfl rfl rfl rfl rfl rfl rfl ?_) | refine aoE (alW tabOk rfl rfl rfl rfl rfl rfl ?_) | refine cdN rfl tI (fun hc => ?_) (fun hc => ?_) | refine blK ?_ | refine exW ?_ | refine skW ?_ | refine rtW ?_ | refine dK2 (by decide +kernel) (by kernel_rfl) (by decide +kernel) rfl (fun K' hK => ?_) | refine dL2 (by kernel_rfl) (by decide +kernel) rfl (fun K' hK => ?_) | (refine aqN (hK _ ?_); clear hK K') | refine aqN ?_ | refine aqQ rfl rfl (fun hg => by first | exact std0 | exact pcW (v) rfl rfl nd rfl nds | exact pbD tabOk rfl rfl nds | exact std1) (by exact rfl) ?_)
 refine ⟨.inr rfl, Ent.b ?_⟩
 simp [byOk, isRdr, inR]
 cases r.seat == 0 <;> simp
theorem lay4_spec (r : Rdr) : PCall Tryz.prog 122 [.agg (encRd r)] (.b (byOk 3 r)) := by
 refine PCall.body Tryz.func122 rfl rfl Tryz.ntmps122 rfl rfl ?_
 repeat' (first | refine aoQ rfl rfl rfl (fun hg => by first | exact std0 | exact pcW (mwithin_spec _ _ _) rfl rfl nd rfl nds | exact std1) (by exact rfl) ?_ | refine sqW ?_ | refine rgK (fun K' hK => ?_) | (refine aoN (hK _ _ ?_); clear hK K') | refine aoE (bxW rfl rfl rfl rfl rfl tI rfl rfl ?_) | refine aoE (stW tabOk rfl rfl rfl tI rfl rfl tI rfl rfl rfl rfl rfl rfl rfl ?_) | refine aoE (alW tabOk rfl rfl rfl rfl rfl rfl ?_) | refine cdN rfl tI (fun hc => ?_) (fun hc => ?_) | refine blK ?_ | refine exW ?_ | refine skW ?_ | refine rtW ?_ | refine dK2 (by decide +kernel) (by kernel_rfl) (by decide +kernel) rfl (fun K' hK => ?_) | refine dL2 (by kernel_rfl) (by decide +kernel) rfl (fun K' hK => ?_) | (refine aqN (hK _ ?_); clear hK K') | refine aqN ?_ | refine aqQ rfl rfl (fun hg => by first | exact std0 | exact pcW (mwithin_spec _ _ _) rfl rfl nd rfl nds | exact std1) (by exact rfl) ?_)
 refine ⟨.inr rfl, Ent.b ?_⟩
 simp [byOk]
 cases inR r.part 0 99 <;> simp
theorem lay6_spec (r : Rdr) : PCall Tryz.prog 124 [.agg (encRd r)] (.b (byOk 4 r)) := by
 refine PCall.body Tryz.func124 rfl rfl Tryz.ntmps124 rfl rfl ?_
 repeat' (first | refine aoQ rfl rfl rfl (fun hg => by first | exact std0 | exact pbD tabOk rfl rfl nds | exact PRun.eqN flR rfl rfl nd rfl nd rfl | exact std1) (by exact rfl) ?_ | refine sqW ?_ | refine rgK (fun K' hK => ?_) | (refine aoN (hK _ _ ?_); clear hK K') | refine aoE (bxW rfl rfl rfl rfl rfl tI rfl rfl ?_) | refine aoE (stW tabOk rfl rfl rfl tI rfl rfl tI rfl rfl rfl rfl rfl rfl rfl ?_) | refine aoE (alW tabOk rfl rfl rfl rfl rfl rfl ?_) | refine cdN rfl tI (fun hc => ?_) (fun hc => ?_) | refine blK ?_ | refine exW ?_ | refine skW ?_ | refine rtW ?_ | refine dK2 (by decide +kernel) (by kernel_rfl) (by decide +kernel) rfl (fun K' hK => ?_) | refine dL2 (by kernel_rfl) (by decide +kernel) rfl (fun K' hK => ?_) | (refine aqN (hK _ ?_); clear hK K') | refine aqN ?_ | refine aqQ rfl rfl (fun hg => by first | exact std0 | exact pbD tabOk rfl rfl nds | exact PRun.eqN flR rfl rfl nd rfl nd rfl | exact std1) (by exact rfl) ?_)
 refine ⟨.inr rfl, Ent.b ?_⟩
 simp [byOk, Bool.and_assoc]
theorem pureFn {M : Mem} {B : List GB} {f : Fn} {x : Value} (h : VRel M B (.fn f [] []) x) : VRel M [] (.fn f [] []) x := by
 cases h with
 | fn _ _ _ vf vc hvf hvc q1 q2 => exact .fn _ _ _ vf vc hvf hvc (fun i c h => by simp at h) (fun i c h => by simp at h)
theorem pureLay : PureE layF := fun a M B x h => by
 have two : ∀ (u v : AV), (∀ M B x, VRel M B u x → VRel M [] u x) → (∀ M B x, VRel M B v x → VRel M [] v x) → VRel M B (.agg [u, v]) x → VRel M [] (.agg [u, v]) x := fun u v hu hv h => by
  cases h with
  | agg _ c hl hr =>
    refine .agg _ c hl fun i w hi => ?_
    match i, hi with
    | 0, hi => have := hr 0 w hi; simp at hi; subst hi; exact hu _ _ _ this
    | 1, hi => have := hr 1 w hi; simp at hi; subst hi; exact hv _ _ _ this
    | i + 2, hi => simp at hi
 have hp : ∀ v M B x, VRel M B (.prim v) x → VRel M [] (.prim v) x := fun v M B x h => by rw [VRel.prim_eq h]; exact .prim _
 match a, h with
 | 0, h => exact two _ _ (hp _) (hp _) h
 | 1, h => exact two _ _ (fun _ _ _ => pureFn) (fun _ _ _ => pureFn) h
 | 2, h => exact two _ _ (fun _ _ _ => pureFn) (fun _ _ _ => pureFn) h
 | 3, h => exact two _ _ (fun _ _ _ => pureFn) (fun _ _ _ => pureFn) h
 | (_ + 4), h => exact two _ _ (fun _ _ _ => pureFn) (fun _ _ _ => pureFn) h
theorem layers_spec : PCall Tryz.prog 88 [] (.imap (Go.Ab.encM ekI layF [(1, 1), (2, 2), (3, 3), (4, 4)])) := by
 refine PCall.body Tryz.func88 rfl rfl Tryz.ntmps88 rfl rfl ?_
 repeat' (first | refine aoQ rfl rfl rfl (fun hg => by first | exact std0 | exact pbD tabOk rfl rfl nds | exact std1) (by exact rfl) ?_ | refine sqW ?_ | refine rgK (fun K' hK => ?_) | (refine aoN (hK _ _ ?_); clear hK K') | refine aoE (bxW rfl rfl rfl rfl rfl tI rfl rfl ?_) | refine aoE (stW tabOk rfl rfl rfl tI rfl rfl tI rfl rfl rfl rfl rfl rfl rfl ?_) | refine aoE (alW tabOk rfl rfl rfl rfl rfl rfl ?_) | refine aoE (EStep.makeMapW rfl rfl rfl rfl ?_) | refine aoE (EStep.insert (ek := ekI) (ev := layF) (al := []) (v := 1) (keyLaw_int (LOk.of (tabOk.get rfl))) (LOk.of (tabOk.get rfl)) rfl rfl rfl (Rd.w rfl tI) rfl (Rd.w rfl tI) rfl (Rd.w rfl tI) ?_) | refine aoE (EStep.insert (ek := ekI) (ev := layF) (v := 2) (keyLaw_int (LOk.of (tabOk.get rfl))) (LOk.of (tabOk.get rfl)) rfl rfl rfl (Rd.w rfl tI) rfl (Rd.w rfl tI) rfl (Rd.w rfl tI) ?_) | refine aoE (EStep.insert (ek := ekI) (ev := layF) (v := 3) (keyLaw_int (LOk.of (tabOk.get rfl))) (LOk.of (tabOk.get rfl)) rfl rfl rfl (Rd.w rfl tI) rfl (Rd.w rfl tI) rfl (Rd.w rfl tI) ?_) | refine aoE (EStep.insert (ek := ekI) (ev := layF) (v := 4) (keyLaw_int (LOk.of (tabOk.get rfl))) (LOk.of (tabOk.get rfl)) rfl rfl rfl (Rd.w rfl tI) rfl (Rd.w rfl tI) rfl (Rd.w rfl tI) ?_) | refine cdN rfl tI (fun hc => ?_) (fun hc => ?_) | refine blK ?_ | refine exW ?_ | refine skW ?_ | refine dK2 (by decide +kernel) (by kernel_rfl) (by decide +kernel) rfl (fun K' hK => ?_) | refine dL2 (by kernel_rfl) (by decide +kernel) rfl (fun K' hK => ?_) | (refine aqN (hK _ ?_); clear hK K') | refine aqN ?_ | refine aqQ rfl rfl (fun hg => by first | exact std0 | exact pbD tabOk rfl rfl nds | exact std1) (by exact rfl) ?_)
 refine AWP.freezeMap (ek := ekI) (ev := layF) (al := [(1, 1), (2, 2), (3, 3), (4, 4)]) (l := 0) rfl pureLay ?_
 refine rtW ⟨.inr rfl, ?_⟩
 exact fun _ _ h => h
end Go.Proofs.YtbneeinknlddaaaGreat
