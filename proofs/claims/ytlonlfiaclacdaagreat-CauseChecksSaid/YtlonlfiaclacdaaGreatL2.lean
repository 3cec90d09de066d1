/- Part of the proof of CauseChecks (own work, made small). -/
import Derived.Test.YtlonlfiaclacdaaGreatE1
import Derived.Test.YtlonlfiaclacdaaGreatL1
import Derived.Test.YtlonlfiaclacdaaGreatProg
import Derived.KernelRfl
set_option linter.all false
set_option maxRecDepth 100000
open Go renaming FuncId->B9
open Go.Proofs.Tryz renaming prog->BZ
open Go.Vi.GO renaming GG->Ay
open List renaming append_nil->CG,length_cons->CE,nil_append->CC,set_cons_succ->Cb,set_cons_zero->Ca
open Nat renaming beq->Br
namespace Go.Vi
section
open Go.Proofs
def bX:BA:=⟨#[120]⟩
def bY:BA:=⟨#[121]⟩
def eV(x:BA)(a:Int):Gw:=.mk 2 0 x 0 0 0 0 [] a
def eK(n a:Int):Gw:=.mk 1 0 ⟨#[]⟩ 2 0 n 0 [] a
def ZZ(e:Gw)(a b:Int):GO:=⟨⟨#[102]⟩,[],[⟨bX,2,0,[],18⟩],[⟨bY,2,0,[],29⟩],[.mk [bX] e [] 40,.mk [bY] (eV bX a) [] b],0⟩
def eP:Gw:=.mk 4 3 ⟨#[]⟩ 0 0 0 0 [eV bY 44,eK 1 48] 44
def eQ:Gw:=.mk 7 0 ⟨#[]⟩ 0 0 0 0 [eK 0 44,.mk 6 0 ⟨#[]⟩ 0 0 0 0 [eV bY 55] 51] 44
noncomputable def wj(t:BA)(n:GO):Bool:=AEr BZ (Br 159) (Br 159) 200 60 19 [.Gh t] (.GV ([n].map Ay))
def ASW:wj ⟨#[110,111,100,101,32,102,40,41,32,114,101,116,117,114,110,115,32,40,120,58,32,105,56,41,32,118,97,114,32,121,58,32,105,56,59,32,108,101,116,32,120,32,61,32,121,32,43,32,49,105,56,59,32,121,32,61,32,120,59,32,116,101,108]⟩ (ZZ eP 57 53)=true:=by kernel_rfl
end
end Go.Vi
