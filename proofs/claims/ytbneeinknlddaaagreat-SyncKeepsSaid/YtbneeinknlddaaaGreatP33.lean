/- A result that is told otherwise. No statement is proved here. -/
import Derived.Test.YtbneeinknlddaaaGreatP6
import Derived.Test.YtbneeinknlddaaaGreatP7
set_option linter.unusedVariables false
set_option linter.unusedSimpArgs false
namespace Go.Ab
theorem PRun.eq {P : Program} {o : Oper} {env : Env} {σ : Store} {v v' : AV} (h : PRun P o env σ v) (e : v = v') : PRun P o env σ v' := e ▸ h
end Go.Ab
