/- Part of the proof of CauseOrders (own work, made small). -/
import Derived.Test.YtlonlfiaclacdaaGreatA2
import Derived.Test.YtlonlfiaclacdaaGreatProg
import Derived.KernelRfl
set_option linter.all false
set_option maxRecDepth 100000
open Go.Proofs.Tryz renaming prog->BW
namespace Go.Vi
section
open Go.Proofs Go.Ab
def vF(t:Tr Go.Ab.Obj)(n:Nat):Nat->Bool
 |0=>true
 |k+1=>(match t.get (n+k)with
  |none=>true
  |some _=>false)&&vF t n k
noncomputable def XT(l c:Nat):Option (Int×Int):=match(Yl BW 80 (.call 19 [.HK l c])).run st0 with
 | .ok (.tuple [.agg [.slice b v o n k],.bool true]) s1=>(match(Yl BW 80 (.call 14 [.agg [.slice b v o n k]])).run s1 with
  | .ok (.tuple [.int .i64 a,.int .i64 e]) s3=>bif vF s1.heap s1.next (s3.next- s1.next)then some (a,e)else none
  |_=>none)
 |_=>none
def AJh:XT 63 22176465049699097335814006447768653941408434569685012591015990259112849919250063558070168877540322398560568638280664315423248918477247552734512183275374=some (18,29):=by kernel_rfl
end
end Go.Vi
