/- Part of the proof of CauseOrders (own work, made small). -/
import Derived.Test.YtlonlfiaclacdaaGreatH2
set_option linter.all false
set_option maxRecDepth 100000
namespace Go.Vi
section
open Go.Proofs Go.Ab
def AJg:XT 68 24383281185112227250698723131550013760193049820118275174739390363015350881640863874902934862500404738924002699403070313551882669279674229943910125061709850493611886=some (0,0):=by kernel_rfl
end
end Go.Vi
