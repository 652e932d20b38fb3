/- Drawn regions with effects, in the walk's form. -/
import Derived.Test.YtjjlckhdgnoopaaAb18
namespace Go.Ab
section
variable {P : Program} {n : Nat} {ops : Array Oper} {S : Nat → Store} {m j : Nat} {eff : Oper → Bool} {o : Oper} {rest : List Oper} {K : Env → Nat → Prop} {env : Env}
theorem XQ.nil (h : K env j) : XQ P n ops S m eff K [] env j := h
theorem XQ.q {v v' : AV} {g : GG} {d : Nat} (hj : decide (j ≤ m) = true) (he : eff o = false) (hd : o.dst = some d) (hg : gOf ops env o = some g) (h : ∀ k, k ≤ m → g.holds → PRun P o env (S k) v) (hv : g.wrap v = v')
    (hk : XQ P n ops S m eff K rest (env.put d v') j) : XQ P n ops S m eff K (o :: rest) env j := by
  subst hv
  refine ⟨g.wrap v, j, .quiet (of_decide_eq_true hj) he fun k hk => PStep.g hg (h k hk), ?_⟩
  rw [hd]; exact hk
theorem XQ.e {v : AV} {d : Option Nat} (hj : decide (j < m) = true) (he : eff o = true) (hd : o.dst = d) (h : ∀ env', (∀ x ∈ o.looksAt ops, env' x = env x) → EStep P n ops o (fun e s => e = env'.putO o.dst v ∧ s = S (j + 1)) env' (S j))
    (hk : XQ P n ops S m eff K rest (env.putO d v) (j + 1)) : XQ P n ops S m eff K (o :: rest) env j := by
  subst hd
  exact ⟨v, j + 1, .eff (of_decide_eq_true hj) he h, hk⟩
end
end Go.Ab
