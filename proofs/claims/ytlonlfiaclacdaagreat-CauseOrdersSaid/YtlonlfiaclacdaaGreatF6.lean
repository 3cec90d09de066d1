/- Part of the proof of CauseOrders (own work, made small). -/
import Derived.Test.YtlonlfiaclacdaaGreatF4
set_option linter.all false
set_option maxRecDepth 100000
namespace Go.Vi
section
open Go.Proofs
def uS:([0,1,2,6]:LI).all (λkd=>Sg 12 kd)=true:=by kernel_rfl
def uT:([3,4,7,8]:LI).all (λkd=>Sg 12 kd)=true:=by kernel_rfl
def uU:([5]:LI).all (λkd=>Sg 12 kd)=true:=by kernel_rfl
def uV:([9]:LI).all (λkd=>Sg 12 kd)=true:=by kernel_rfl
def uW:([0,1,2,6]:LI).all (λkd=>Sg 13 kd)=true:=by kernel_rfl
def uX:([3,4,7,8]:LI).all (λkd=>Sg 13 kd)=true:=by kernel_rfl
def uY:([5]:LI).all (λkd=>Sg 13 kd)=true:=by kernel_rfl
def uZ:([9]:LI).all (λkd=>Sg 13 kd)=true:=by kernel_rfl
end
end Go.Vi
