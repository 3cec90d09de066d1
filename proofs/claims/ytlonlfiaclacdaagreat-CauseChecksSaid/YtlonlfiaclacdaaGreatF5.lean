/- Part of the proof of CauseChecks (own work, made small). -/
import Derived.Test.YtlonlfiaclacdaaGreatF4
set_option linter.all false
set_option maxRecDepth 100000
namespace Go.Vi
section
open Go.Proofs
def uF:([0,1,2,6]:LI).all (λkd=>Q3 9 kd)=true:=by kernel_rfl
def uG:([3,4,7,8]:LI).all (λkd=>Q3 9 kd)=true:=by kernel_rfl
def uH:([5]:LI).all (λkd=>Q3 9 kd)=true:=by kernel_rfl
def uI:([9]:LI).all (λkd=>Q3 9 kd)=true:=by kernel_rfl
def qh:([0,1,2,6]:LI).all (λkd=>Q3 10 kd)=true:=by kernel_rfl
def qi:([3,4,7,8]:LI).all (λkd=>Q3 10 kd)=true:=by kernel_rfl
def qj:([5]:LI).all (λkd=>Q3 10 kd)=true:=by kernel_rfl
def qk:([9]:LI).all (λkd=>Q3 10 kd)=true:=by kernel_rfl
end
end Go.Vi
