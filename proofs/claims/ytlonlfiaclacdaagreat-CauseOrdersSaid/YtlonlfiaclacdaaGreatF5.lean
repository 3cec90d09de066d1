/- Part of the proof of CauseOrders (own work, made small). -/
import Derived.Test.YtlonlfiaclacdaaGreatF4
set_option linter.all false
set_option maxRecDepth 100000
namespace Go.Vi
section
open Go.Proofs
def xz:([0,1,2,6]:LI).all (λkd=>Sg 9 kd)=true:=by kernel_rfl
def x5:([3,4,7,8]:LI).all (λkd=>Sg 9 kd)=true:=by kernel_rfl
def x6:([5]:LI).all (λkd=>Sg 9 kd)=true:=by kernel_rfl
def x7:([9]:LI).all (λkd=>Sg 9 kd)=true:=by kernel_rfl
def uO:([0,1,2,6]:LI).all (λkd=>Sg 10 kd)=true:=by kernel_rfl
def uP:([3,4,7,8]:LI).all (λkd=>Sg 10 kd)=true:=by kernel_rfl
def uQ:([5]:LI).all (λkd=>Sg 10 kd)=true:=by kernel_rfl
def uR:([9]:LI).all (λkd=>Sg 10 kd)=true:=by kernel_rfl
end
end Go.Vi
