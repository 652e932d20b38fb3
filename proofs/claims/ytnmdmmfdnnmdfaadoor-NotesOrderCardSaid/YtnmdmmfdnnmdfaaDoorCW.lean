/- What the walks use at every step: side conditions, operations that need no contract. No statement is proved here. -/
import Derived.Test.YtnmdmmfdnnmdfaaDoorCT
import Derived.Test.YtnmdmmfdnnmdfaaDoorM5
set_option linter.unusedVariables false
set_option linter.unusedSimpArgs false
namespace Go.Proofs.YtnmdmmfdnnmdfaaDoor
open Go.Ab
theorem nd {p : Prop} (h : p := by first | exact True.intro | exact hg) : p := h
theorem nds {p : Prop} (h : p := by first | exact True.intro | exact ⟨True.intro, True.intro⟩ | exact ⟨True.intro, True.intro, True.intro⟩ | (repeat' (first | exact True.intro | exact hg | refine ⟨?_, ?_⟩))) : p := h
theorem sd {p : Prop} (h : p := by first | exact True.intro | exact ⟨True.intro, True.intro, True.intro⟩ | exact hg | exact ⟨True.intro, True.intro⟩ | exact ⟨hg, hg, True.intro⟩ | (repeat' (first | exact True.intro | exact hg | omega | decide | refine ⟨?_, ?_⟩ | (intro h; change (_ == _) = true; rw [h]; rfl) | (intro h; change (_ && (_ == _)) = true; rw [Bool.and_eq_true]; exact ⟨hg, by rw [h]; rfl⟩) | (exfalso; revert hg; simp; done) | (simp at hc; omega) | (exfalso; simp at hc; done) | (simp at hg; simp_all; done) | (simp at hg; simp_all; omega)))) : p := h
theorem std1 {o : Oper} {env : Env} {σ : Store} {v : AV} (h : PRun Tryd.prog o env σ v := by first
  | exact PRun.indexMW tabOk rfl rfl nd rfl nd rfl rfl (by omega)
  | exact PRun.lenM tabOk rfl rfl nd rfl
  | exact PRun.lenW tabOk rfl rfl nd rfl
  | exact PRun.binW rfl rfl nd rfl nd rfl
  | exact PRun.negWr rfl rfl nd
  | exact PRun.nilCheckP rfl rfl nd) : PRun Tryd.prog o env σ v := h
theorem std0 {o : Oper} {env : Env} {σ : Store} {v : AV} (h : PRun Tryd.prog o env σ v := by exact PRun.step tabOk rfl sd) : PRun Tryd.prog o env σ v := h
end Go.Proofs.YtnmdmmfdnnmdfaaDoor
