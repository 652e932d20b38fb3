/- Contracts by content: score.index at bars, parts and notes. No statement is proved here. -/
import Derived.Test.YtnmdmmfdnnmdfaaDoorCL
set_option linter.unusedVariables false
set_option linter.unusedSimpArgs false
namespace Go.Proofs.YtnmdmmfdnnmdfaaDoor
open Go.Ab
attribute [local irreducible] AWP AOps EStep AQ PStep PRun PCall TCall VCall

def idxR (i : Int) : Int × Bool := (max i 0, decide (i ≥ 0))
end Go.Proofs.YtnmdmmfdnnmdfaaDoor
