/- Part of the proof of CauseChecks (own work, made small). -/
import Derived.Test.YtlonlfiaclacdaaGreatF4
set_option linter.all false
set_option maxRecDepth 100000
namespace Go.Vi
section
open Go.Proofs
def ql:([0,1,2,6]:LI).all (λkd=>Q3 12 kd)=true:=by kernel_rfl
def qm:([3,4,7,8]:LI).all (λkd=>Q3 12 kd)=true:=by kernel_rfl
def qn:([5]:LI).all (λkd=>Q3 12 kd)=true:=by kernel_rfl
def qo:([9]:LI).all (λkd=>Q3 12 kd)=true:=by kernel_rfl
def qp:([0,1,2,6]:LI).all (λkd=>Q3 13 kd)=true:=by kernel_rfl
def qq:([3,4,7,8]:LI).all (λkd=>Q3 13 kd)=true:=by kernel_rfl
def qs:([5]:LI).all (λkd=>Q3 13 kd)=true:=by kernel_rfl
def qt:([9]:LI).all (λkd=>Q3 13 kd)=true:=by kernel_rfl
end
end Go.Vi
