/- Part of the proof of CauseChecks (own work, made small). -/
import Derived.Test.YtlonlfiaclacdaaGreatL2
set_option linter.all false
set_option maxRecDepth 100000
open Go renaming FuncId->B9
open List renaming append_nil->CG,length_cons->CE,nil_append->CC,set_cons_succ->Cb,set_cons_zero->Ca
namespace Go.Vi
section
open Go.Proofs
def ASV:wj ⟨#[110,111,100,101,32,102,40,41,32,114,101,116,117,114,110,115,32,40,120,58,32,105,56,41,32,118,97,114,32,121,58,32,105,56,59,32,108,101,116,32,120,32,61,32,48,105,56,32,45,62,32,112,114,101,32,121,59,32,121,32,61,32,120,59,32,116,101,108]⟩ (ZZ eQ 62 58)=true:=by kernel_rfl
end
end Go.Vi
