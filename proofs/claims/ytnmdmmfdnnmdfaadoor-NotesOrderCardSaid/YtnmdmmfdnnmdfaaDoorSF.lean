/- Contracts by content: the reference's order and sort of notes. No statement is proved here. -/
import Derived.Test.YtnmdmmfdnnmdfaaDoorSP
import Derived.Test.YtnmdmmfdnnmdfaaDoorM6
set_option linter.unusedVariables false
set_option linter.unusedSimpArgs false
namespace Go.Ab
/-- A nil slice in a slot, as a growing array of the call's own, ahead of an operation. -/
theorem EStep.ownNil {P : Program} {n : Nat} {ops : Array Oper} {o : Oper} {env : Env} {σ : Store} {k : Env → Store → Prop} (d sz : Nat) (hg : o.guard = none) (hd : env d = .nils)
    (hk : EStep P n ops o k (env.put d (.sl sz [] (.own σ.length))) (σ ++ [.own sz 0])) : EStep P n ops o k env σ := by
  refine EStep.plain hg fun G a w hr => ?_
  have hr' : ARel n { G with B := G.B ++ [.own none 0 0] } (env.put d (.sl sz [] (.own σ.length))) (σ ++ [.own sz 0]) a w := by
    refine ⟨hr.size, hr.defers, fun i => ?_, hr.st.ownNil sz⟩
    simp only [Env.put]
    split
    · rename_i e; subst e
      have := hr.vals i
      rw [hd] at this
      cases hx : a.tmps.getD i undef <;> rw [hx] at this <;> cases this
      exact .slz sz _ ⟨none, 0, 0, by simp [← hr.st.len], Nat.le_refl _, fun _ => ⟨rfl, rfl⟩⟩
    · exact (hr.vals i).mono (Mem.Le.refl _) (BLe.append _ _)
  have h := hk _ a w hr'
  rw [if_pos (by simp [Region.wanted, hg])] at h
  refine uponQ_mono ?_ h
  rintro a' w' ⟨e, s, G', h1, h2, h3⟩
  exact ⟨e, s, G', h1, Gh.Le.trans (G' := { G with B := G.B ++ [.own none 0 0] }) (.upB (BLe.append _ _)) h2, h3⟩
theorem EStep.appendNil {P : Program} {n : Nat} {ops : Array Oper} {o : Oper} {env : Env} {σ : Store} {k : Env → Store → Prop} {T : Tab} (hT : T.Ok P) {s0 : Nat} {x : Operand} {t tx e : TypeId} {d sz : Nat} {es2 : List (List AV)} {u : AV} {s1 b1 : Nat} {z : List Z} {le : LI}
    (ho : o.op = .call { callee := .builtin .append, args := #[.tmp s0, x], argTypes := #[t, tx] }) (hg : o.guard = none) (hd : o.dst = some d) (hdn : decide (d < n) = true) (hs : env s0 = .nils) (hx : rdv env x = some u) (nx : rdn env x) (hxs : x ≠ .tmp s0) (hsrc : AppSrc T tx sz u es2)
    (hl : LOk P t ⟨.slice e, s1, b1, z⟩) (he : LOk P e le) (hsz : le.size = sz) (hz0 : le.zero.length = le.size) (hbound : es2.length * le.bytes ≤ 140737488355328) (hb2 : es2.length ≤ 9223372036854775807)
    (hk : k ((env.put s0 (.sl sz [] (.own σ.length))).put d (.sl sz es2 (.own σ.length))) (σ ++ [.own sz es2.length])) : EStep P n ops o k env σ := by
  have hne : ∀ y : Operand, y ≠ .tmp s0 → envOp (env.put s0 (.sl sz [] (.own σ.length))) y = envOp env y := fun y hy => by
    cases y <;> simp only [envOp]
    rename_i i
    unfold Env.put
    rw [if_neg fun e => hy (by rw [e])]
  refine EStep.ownNil s0 sz hg hs (EStep.appendOwn hT (l := σ.length) (es := []) (es2 := es2) ho hg hd (of_decide_eq_true hdn) (Rd.w (by simp [rdv, envOp, Env.put, AV.wh]) (by simp [rdn, envOp, Env.put])) (by simp) (Rd.w (u := u) (by unfold rdv at hx ⊢; rw [hne x hxs]; exact hx) (by unfold rdn at nx ⊢; rw [hne x hxs]; exact nx)) hsrc hl he hsz hz0 (by simpa using hbound) (by simpa using hb2) ?_)
  simpa using hk
theorem AWP.nilNo {P : Program} {n : Nat} {c : Code} {K : Exit → Env → Store → Prop} {env : Env} {σ : Store} (d sz : Nat) (hd : env d = .nils) (hk : AWP P n c K (env.put d (.sl sz [] .no)) σ) : AWP P n c K env σ :=
  AWP.weaken (fun M B i x hx => by
    unfold Env.put
    by_cases hi : i = d
    · subst hi
      rw [hd] at hx
      rw [if_pos rfl]
      cases hx; exact .slz sz .no trivial
    · rw [if_neg hi]; exact hx) hk
/-- An operation behind a guard that is open. -/
theorem EStep.gd {P : Program} {n : Nat} {ops : Array Oper} {o : Oper} {k : Env → Store → Prop} {env : Env} {σ : Store} {g : GG} (hg : gOf ops env o = some g) (hh : g.holds) (h : EStep P n ops { o with guard := none } k env σ) : EStep P n ops o k env σ := by
  intro G a w hr
  have h' := h G a w hr
  rw [if_pos (by simp [Region.wanted])] at h'
  have hw : Region.wanted o (yielded ops a.tmps) = true := by
    unfold gOf at hg
    split at hg
    · rename_i hgd; simp [Region.wanted, hgd]
    · rename_i j want hgd
      split at hg
      · rename_i d hd
        have hz := hr.vals d
        have key : ∀ t, (t == want) = true → a.tmps.getD d undef = .bool t → Region.wanted o (yielded ops a.tmps) = true := fun t ht h1 => by
          have h2 : a.tmps[d]? = some (.bool t) := by
            cases h : a.tmps[d]? with
            | none => simp [h, undef] at h1
            | some y => simp [h] at h1; rw [h1]
          simp only [Region.wanted, hgd, yielded, hd, Option.bind_some, h2]
          cases t <;> cases want <;> first | rfl | cases ht
        split at hg
        · rename_i t he
          simp at hg; subst hg
          rw [he] at hz
          exact key t hh (VRel.prim_eq hz)
        · rename_i g' t he
          simp at hg; subst hg
          have hh' : g' = true ∧ (t == want) = true := by simpa using hh
          rw [he] at hz
          cases hz with
          | when _ _ _ h0 h1 => exact key t hh'.2 (VRel.prim_eq (h0 hh'.1))
        · simp at hg
      · simp at hg
  rw [if_pos hw]
  exact h'
end Go.Ab
