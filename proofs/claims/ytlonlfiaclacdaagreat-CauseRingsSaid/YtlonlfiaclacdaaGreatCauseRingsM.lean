/-
  CauseRings: what the law asks first, once
-/
import Derived.Test.YtlonlfiaclacdaaGreatK4
import Derived.KernelRfl
namespace Go.Proofs.YtlonlfiaclacdaaGreat.causeRings
theorem alive : Go.Ab.evalsH YtlonlfiaclacdaaGreatK.table (nat_lit 300) (nat_lit 12) [] = true := by kernel_rfl
noncomputable def memo : Go.Ab.Memo Tryz.prog := Go.Ab.Memo.addTrue YtlonlfiaclacdaaGreatK.table (Go.Ab.Memo.nil Tryz.prog) (nat_lit 12) (nat_lit 300) alive

end Go.Proofs.YtlonlfiaclacdaaGreat.causeRings
