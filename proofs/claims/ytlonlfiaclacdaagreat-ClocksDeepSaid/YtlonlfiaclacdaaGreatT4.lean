/- Part of the proof of ClocksDeep (own work). -/
import Derived.Test.YtlonlfiaclacdaaGreatK2
set_option linter.all false
set_option maxRecDepth 100000
namespace Go.Vi
open Go.Proofs
theorem parse_kTp : saysP kTp (.lst (kLp.map PT.row)) (.lst ([kN eWh].map Node.row)) = true := by kernel_rfl
end Go.Vi
