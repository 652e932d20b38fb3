/- Bounds of a 16-bit number that is handed in. -/
import Derived.Test.YtjjlckhdgnoopaaEdJ
namespace Go.Proofs.Ytjjlckhdgnoopaa
open Go.Ab
theorem u16_rd {n : Int} (h : (Lit.int .u16 n).wf = true) : 0 ≤ IntKind.i64.wrap n ∧ IntKind.i64.wrap n ≤ 65535 := by
  simp [Lit.wf, IntKind.min, IntKind.max, IntKind.signed, IntKind.bits] at h
  rw [wrap64_in (by omega)]
  omega
end Go.Proofs.Ytjjlckhdgnoopaa
