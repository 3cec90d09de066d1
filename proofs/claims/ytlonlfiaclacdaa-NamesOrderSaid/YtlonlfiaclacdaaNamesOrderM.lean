/-
  NamesOrder: what the law asks first, once
-/
import Derived.Test.YtlonlfiaclacdaaK2
import Derived.KernelRfl
namespace Go.Proofs.Ytlonlfiaclacdaa.namesOrder
theorem alive : Go.Ab.evalsH YtlonlfiaclacdaaK.table (nat_lit 300) (nat_lit 8) [] = true := by kernel_rfl
noncomputable def memo : Go.Ab.Memo Try.prog := Go.Ab.Memo.addTrue YtlonlfiaclacdaaK.table (Go.Ab.Memo.nil Try.prog) (nat_lit 8) (nat_lit 300) alive

end Go.Proofs.Ytlonlfiaclacdaa.namesOrder
