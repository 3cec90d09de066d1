/- Part of the proof of ClocksDeep (own work). -/
import Derived.Test.YtlonlfiaclacdaaGreatK2
set_option linter.all false
set_option maxRecDepth 100000
namespace Go.Vi
open Go.Proofs
theorem toks_kTp : saysT kTp (.lst (kLp.map PT.row)) = true := by kernel_rfl
end Go.Vi
