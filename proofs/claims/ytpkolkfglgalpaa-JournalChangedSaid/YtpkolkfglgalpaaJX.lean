/- Contracts by content: the layers of marks; a mark of the program. No statement is proved here. -/
import Derived.Test.YtpkolkfglgalpaaJW
import Derived.Test.YtpkolkfglgalpaaM3
set_option linter.unusedVariables false
set_option linter.unusedSimpArgs false
namespace Go.Ab
section
variable {P : Program} {n : Nat} {ops : Array Oper} {o : Oper} {env : Env} {σ : Store} {k : Env → Store → Prop}
theorem EStep.insert {κ α : Type} [DecidableEq κ] {ek : κ → Value} {ev : α → AV} {t kt et : TypeId} {m x y : Operand} {l : Nat} {al : List (κ × α)} {key : κ} {v : α} {uk : AV} {s1 b1 : Nat} {z : List Z}
    (K : KeyLaw P kt ek) (hl : LOk P t ⟨.map kt et, s1, b1, z⟩) (ho : o.op = .insert t m x y) (hg : o.guard = none) (hdn : dstOk n o = true) (hm : Rd env m (.map l)) (hσ : σ[l]? = some (.map (encM ek ev al)))
    (hx : Rd env x uk) (hex : exactV uk = some (ek key)) (hy : Rd env y (ev v)) (hk : k (env.putO o.dst .any) (σ.set l (.map (encM ek ev (ins al key v))))) : EStep P n ops o k env σ := by
  have h := EStep.mapUpd (ops := ops) (o := { o with op := .mapUpdate t m x y }) (k := k) K hl rfl hg hdn hm hσ hx hex hy hk
  intro G a w hr
  have h1 := h G a w hr
  have e1 : Region.wanted { o with op := .mapUpdate t m x y } (yielded ops a.tmps) = Region.wanted o (yielded ops a.tmps) := rfl
  have e2 : execOp a.eval { o with op := .mapUpdate t m x y } = execOp a.eval o := by simp only [execOp, ho]
  rw [e1] at h1
  have e3 : Region.wanted o (yielded ops a.tmps) = true := by simp [Region.wanted, hg]
  rw [if_pos e3] at h1 ⊢
  unfold OWP at h1 ⊢
  rw [e2] at h1
  exact h1
end
end Go.Ab
namespace Go.Proofs.Ytpkolkfglgalpaa
open Go.Ab Go.Jo
attribute [local irreducible] AWP AOps EStep AQ PStep PRun PCall TCall VCall DStep TDies AWD DCall

abbrev ekI (n : Int) : Value := .int .i64 n
def layF : Nat → AV
  | 0 => .agg [.prim .nilFunc, .prim .nilFunc]
  | 1 => .agg [.fn (.func 79) [] [], .fn (.func 80) [] []]
  | 2 => .agg [.fn (.func 81) [] [], .fn (.func 82) [] []]
  | 3 => .agg [.fn (.func 83) [] [], .fn (.func 84) [] []]
  | _ => .agg [.fn (.func 85) [] [], .fn (.func 86) [] []]
theorem lay2_spec (r : Rdr) : PCall Try.prog 81 [.agg (encRd r)] (.b (byOk 2 r)) := by
  have v := mrdr_spec ⟨r.part, r.desk, 1⟩
  refine PCall.body Try.func81 rfl rfl Try.ntmps81 rfl rfl ?_
  repeat' (first
    | refine AOps.q rfl rfl rfl (fun hg => by first | exact std0 | exact PRun.callW (v) rfl rfl nd rfl nds | exact PRun.buildW tabOk rfl rfl nds | exact std1) (by exact rfl) ?_
    | refine AWP.seq ?_
    | refine AWP.regionK (fun K' hK => ?_)
    | (refine AOps.nil (hK _ _ ?_); clear hK K')
    | refine AOps.e (EStep.boxW rfl rfl rfl rfl rfl True.intro rfl rfl ?_)
    | refine AOps.e (EStep.storeW tabOk rfl rfl rfl True.intro rfl rfl True.intro rfl rfl rfl rfl rfl rfl rfl ?_)
    | refine AOps.e (EStep.allocW tabOk rfl rfl rfl rfl rfl rfl ?_)
    | (refine AWP.condW rfl True.intro (fun hc => ?_) (fun hc => ?_) <;> (first | (simp only [decide_eq_true_eq] at hc) | (simp only [decide_eq_false_iff_not, Int.not_lt, Int.not_le] at hc) | skip))
    | refine AWP.block ?_
    | refine AWP.exit ?_
    | refine AWP.skip ?_
    | refine AWP.ret ?_
    | refine AWP.drawK2 (by decide +kernel) (by kernel_rfl) (by decide +kernel) rfl (fun K' hK => ?_)
    | refine AWP.drawL2 (by kernel_rfl) (by decide +kernel) rfl (fun K' hK => ?_)
    | (refine AQ.nil (hK _ ?_); clear hK K')
    | refine AQ.nil ?_
    | refine AQ.q rfl rfl (fun hg => by first | exact std0 | exact PRun.callW (v) rfl rfl nd rfl nds | exact PRun.buildW tabOk rfl rfl nds | exact std1) (by exact rfl) ?_)
  refine ⟨.inr rfl, Ent.b ?_⟩
  simp [byOk, isRdr, inR]
  cases r.seat == 0 <;> simp
theorem lay4_spec (r : Rdr) : PCall Try.prog 83 [.agg (encRd r)] (.b (byOk 3 r)) := by
  refine PCall.body Try.func83 rfl rfl Try.ntmps83 rfl rfl ?_
  repeat' (first
    | refine AOps.q rfl rfl rfl (fun hg => by first | exact std0 | exact PRun.callW (mwithin_spec _ _ _) rfl rfl nd rfl nds | exact std1) (by exact rfl) ?_
    | refine AWP.seq ?_
    | refine AWP.regionK (fun K' hK => ?_)
    | (refine AOps.nil (hK _ _ ?_); clear hK K')
    | refine AOps.e (EStep.boxW rfl rfl rfl rfl rfl True.intro rfl rfl ?_)
    | refine AOps.e (EStep.storeW tabOk rfl rfl rfl True.intro rfl rfl True.intro rfl rfl rfl rfl rfl rfl rfl ?_)
    | refine AOps.e (EStep.allocW tabOk rfl rfl rfl rfl rfl rfl ?_)
    | (refine AWP.condW rfl True.intro (fun hc => ?_) (fun hc => ?_) <;> (first | (simp only [decide_eq_true_eq] at hc) | (simp only [decide_eq_false_iff_not, Int.not_lt, Int.not_le] at hc) | skip))
    | refine AWP.block ?_
    | refine AWP.exit ?_
    | refine AWP.skip ?_
    | refine AWP.ret ?_
    | refine AWP.drawK2 (by decide +kernel) (by kernel_rfl) (by decide +kernel) rfl (fun K' hK => ?_)
    | refine AWP.drawL2 (by kernel_rfl) (by decide +kernel) rfl (fun K' hK => ?_)
    | (refine AQ.nil (hK _ ?_); clear hK K')
    | refine AQ.nil ?_
    | refine AQ.q rfl rfl (fun hg => by first | exact std0 | exact PRun.callW (mwithin_spec _ _ _) rfl rfl nd rfl nds | exact std1) (by exact rfl) ?_)
  refine ⟨.inr rfl, Ent.b ?_⟩
  simp [byOk]
  cases inR r.part 0 99 <;> simp
theorem lay6_spec (r : Rdr) : PCall Try.prog 85 [.agg (encRd r)] (.b (byOk 4 r)) := by
  refine PCall.body Try.func85 rfl rfl Try.ntmps85 rfl rfl ?_
  repeat' (first
    | refine AOps.q rfl rfl rfl (fun hg => by first | exact std0 | exact PRun.buildW tabOk rfl rfl nds | exact PRun.eqN flR rfl rfl nd rfl nd rfl | exact std1) (by exact rfl) ?_
    | refine AWP.seq ?_
    | refine AWP.regionK (fun K' hK => ?_)
    | (refine AOps.nil (hK _ _ ?_); clear hK K')
    | refine AOps.e (EStep.boxW rfl rfl rfl rfl rfl True.intro rfl rfl ?_)
    | refine AOps.e (EStep.storeW tabOk rfl rfl rfl True.intro rfl rfl True.intro rfl rfl rfl rfl rfl rfl rfl ?_)
    | refine AOps.e (EStep.allocW tabOk rfl rfl rfl rfl rfl rfl ?_)
    | (refine AWP.condW rfl True.intro (fun hc => ?_) (fun hc => ?_) <;> (first | (simp only [decide_eq_true_eq] at hc) | (simp only [decide_eq_false_iff_not, Int.not_lt, Int.not_le] at hc) | skip))
    | refine AWP.block ?_
    | refine AWP.exit ?_
    | refine AWP.skip ?_
    | refine AWP.ret ?_
    | refine AWP.drawK2 (by decide +kernel) (by kernel_rfl) (by decide +kernel) rfl (fun K' hK => ?_)
    | refine AWP.drawL2 (by kernel_rfl) (by decide +kernel) rfl (fun K' hK => ?_)
    | (refine AQ.nil (hK _ ?_); clear hK K')
    | refine AQ.nil ?_
    | refine AQ.q rfl rfl (fun hg => by first | exact std0 | exact PRun.buildW tabOk rfl rfl nds | exact PRun.eqN flR rfl rfl nd rfl nd rfl | exact std1) (by exact rfl) ?_)
  refine ⟨.inr rfl, Ent.b ?_⟩
  simp [byOk, Bool.and_assoc]
theorem pureFn {M : Mem} {B : List GB} {f : Fn} {x : Value} (h : VRel M B (.fn f [] []) x) : VRel M [] (.fn f [] []) x := by
  cases h with
  | fn _ _ _ vf vc hvf hvc q1 q2 => exact .fn _ _ _ vf vc hvf hvc (fun i c h => by simp at h) (fun i c h => by simp at h)
theorem pureLay : PureE layF := fun a M B x h => by
  have two : ∀ (u v : AV), (∀ M B x, VRel M B u x → VRel M [] u x) → (∀ M B x, VRel M B v x → VRel M [] v x) → VRel M B (.agg [u, v]) x → VRel M [] (.agg [u, v]) x := fun u v hu hv h => by
    cases h with
    | agg _ c hl hr =>
      refine .agg _ c hl fun i w hi => ?_
      match i, hi with
      | 0, hi => have := hr 0 w hi; simp at hi; subst hi; exact hu _ _ _ this
      | 1, hi => have := hr 1 w hi; simp at hi; subst hi; exact hv _ _ _ this
      | i + 2, hi => simp at hi
  have hp : ∀ v M B x, VRel M B (.prim v) x → VRel M [] (.prim v) x := fun v M B x h => by rw [VRel.prim_eq h]; exact .prim _
  match a, h with
  | 0, h => exact two _ _ (hp _) (hp _) h
  | 1, h => exact two _ _ (fun _ _ _ => pureFn) (fun _ _ _ => pureFn) h
  | 2, h => exact two _ _ (fun _ _ _ => pureFn) (fun _ _ _ => pureFn) h
  | 3, h => exact two _ _ (fun _ _ _ => pureFn) (fun _ _ _ => pureFn) h
  | (_ + 4), h => exact two _ _ (fun _ _ _ => pureFn) (fun _ _ _ => pureFn) h
theorem layers_spec : PCall Try.prog 71 [] (.imap (Go.Ab.encM ekI layF [(1, 1), (2, 2), (3, 3), (4, 4)])) := by
  refine PCall.body Try.func71 rfl rfl Try.ntmps71 rfl rfl ?_
  repeat' (first
    | refine AOps.q rfl rfl rfl (fun hg => by first | exact std0 | exact PRun.buildW tabOk rfl rfl nds | exact std1) (by exact rfl) ?_
    | refine AWP.seq ?_
    | refine AWP.regionK (fun K' hK => ?_)
    | (refine AOps.nil (hK _ _ ?_); clear hK K')
    | refine AOps.e (EStep.boxW rfl rfl rfl rfl rfl True.intro rfl rfl ?_)
    | refine AOps.e (EStep.storeW tabOk rfl rfl rfl True.intro rfl rfl True.intro rfl rfl rfl rfl rfl rfl rfl ?_)
    | refine AOps.e (EStep.allocW tabOk rfl rfl rfl rfl rfl rfl ?_)
    | refine AOps.e (EStep.makeMapW rfl rfl rfl rfl ?_)
    | refine AOps.e (EStep.insert (ek := ekI) (ev := layF) (al := []) (v := 1) (keyLaw_int (LOk.of (tabOk.get rfl))) (LOk.of (tabOk.get rfl)) rfl rfl rfl (Rd.w rfl True.intro) rfl (Rd.w rfl True.intro) rfl (Rd.w rfl True.intro) ?_)
    | refine AOps.e (EStep.insert (ek := ekI) (ev := layF) (v := 2) (keyLaw_int (LOk.of (tabOk.get rfl))) (LOk.of (tabOk.get rfl)) rfl rfl rfl (Rd.w rfl True.intro) rfl (Rd.w rfl True.intro) rfl (Rd.w rfl True.intro) ?_)
    | refine AOps.e (EStep.insert (ek := ekI) (ev := layF) (v := 3) (keyLaw_int (LOk.of (tabOk.get rfl))) (LOk.of (tabOk.get rfl)) rfl rfl rfl (Rd.w rfl True.intro) rfl (Rd.w rfl True.intro) rfl (Rd.w rfl True.intro) ?_)
    | refine AOps.e (EStep.insert (ek := ekI) (ev := layF) (v := 4) (keyLaw_int (LOk.of (tabOk.get rfl))) (LOk.of (tabOk.get rfl)) rfl rfl rfl (Rd.w rfl True.intro) rfl (Rd.w rfl True.intro) rfl (Rd.w rfl True.intro) ?_)
    | (refine AWP.condW rfl True.intro (fun hc => ?_) (fun hc => ?_) <;> (first | (simp only [decide_eq_true_eq] at hc) | (simp only [decide_eq_false_iff_not, Int.not_lt, Int.not_le] at hc) | skip))
    | refine AWP.block ?_
    | refine AWP.exit ?_
    | refine AWP.skip ?_
    | refine AWP.drawK2 (by decide +kernel) (by kernel_rfl) (by decide +kernel) rfl (fun K' hK => ?_)
    | refine AWP.drawL2 (by kernel_rfl) (by decide +kernel) rfl (fun K' hK => ?_)
    | (refine AQ.nil (hK _ ?_); clear hK K')
    | refine AQ.nil ?_
    | refine AQ.q rfl rfl (fun hg => by first | exact std0 | exact PRun.buildW tabOk rfl rfl nds | exact std1) (by exact rfl) ?_)
  refine AWP.freezeMap (ek := ekI) (ev := layF) (al := [(1, 1), (2, 2), (3, 3), (4, 4)]) (l := 0) rfl pureLay ?_
  refine AWP.ret ⟨.inr rfl, ?_⟩
  exact fun _ _ h => h
end Go.Proofs.Ytpkolkfglgalpaa
