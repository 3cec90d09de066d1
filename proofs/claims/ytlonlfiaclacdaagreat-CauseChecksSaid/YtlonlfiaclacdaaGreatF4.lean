/- Part of the proof of CauseChecks (own work, made small). -/
import Derived.Test.YtlonlfiaclacdaaGreatE2
import Derived.Test.YtlonlfiaclacdaaGreatL1
import Derived.Test.YtlonlfiaclacdaaGreatF2
set_option linter.all false
set_option maxRecDepth 100000
open Go renaming FuncId->B9,Program->Cf
open Go.Proofs.Tryz renaming prog->BZ
open Nat renaming beq->Br,eq_of_beq_eq_true->B5,le_refl->Bg
namespace Go.Vi
section
open Go Go.RowKit Go.Proofs
def AJ2(l:LI):LP:=l.map (.int .i64)
def AKg(i:Int)(h:0<=i)(w:World):Calls BZ 153 #[.int .i64 0,.int .i64 i] w λen w'=>en=.returned (.int .i64 0)/\w'=w:=by
 go_enter Tryz.func153,Tryz.ntmps153
 go_wp2
 go_ret
 exact⟨rfl,rfl⟩
def AKh(i:Int)(h:0<=i):PC BZ 153 [.int .i64 0,.int .i64 i] [] (.int .i64 0) []:=by
 intro K w Bs HP hK hC KO hA;cases hC;cases hA with
 |cons _ v _ l1 h1 h2=>
 cases h2 with
 |cons _ v2 _ l2 h3 h4=>
 cases h4;cases h1 with
 |data _ _ h1=>
 cases h3 with
 |data _ _ h3=>
 rw[Ok h1,Ok h3];refine(callsIn_wide.2 (AKg i h w)).mono ?_;rintro e w' ⟨rfl,rfl⟩;exact⟨K,_,rfl,⟨Yn.refl K,hK,λB ks hk _=>hk,.nil,Bg _,λ_ _ _=>rfl,rfl,rfl,λ_ _=>rfl,.one _ _ (.data _ _ (.int _ _))⟩⟩
def ANj(f:B9)(vs:LP):Option PV:=bif Br f 153 then(match vs with
 |[.int .i64 (.ofNat 0),.int .i64 (.ofNat _)]=>some (.int .i64 0)
 |_=>none)else none
def AII:ABp BZ ANj:=by
 intro f vs v h;unfold ANj at h;cases hf:Br f 153 with
 |false=>rw[hf]at h;cases h
 |true=>
  rw[hf]at h;simp only[cond_true]at h;split at h
  .cases h;rw[B5 hf];exact⟨AKh _ (Int.natCast_nonneg _),rfl,λ_=>rfl⟩
  .cases h
def mlB(f:B9):Nat:=bif Br f 126 then 2 else 0
noncomputable def ACg(P:Cf)(n:Nat)(f:B9)(l:LI):Option (LP):=AED P mlB ANj 70 n f (AJ2 l)
def kR{n:Nat}{f:B9}{l:LI}{r:LP}(h:ACg BZ n f l=some r)(hb:OB (.tuple r)=some (.tuple r):=by rfl):PC BZ f (AJ2 l) [] (.tuple r) []:=XI (AEE AII h) λr' _ hr=>by rw[hr];exact hb
noncomputable def unB(op kd:Int):Bool:=match ACg BZ 60 111 [op,kd,0]with
 |some [.int .i64 _,.bool _]=>true
 |_=>false
noncomputable def Q3(op kd:Int):Bool:=match ACg BZ 60 112 [op,kd,0,0]with
 |some [.int .i64 _,.int .i64 k,.bool _]=>decide (0<=k)&&decide (k<=9)
 |_=>false
end
section
open Go.Proofs
def ABC:([0,1,2,6]:LI).all (λkd=>unB 1 kd)=true:=by kernel_rfl
def ABD:([3,4,7,8]:LI).all (λkd=>unB 1 kd)=true:=by kernel_rfl
def ABE:([5]:LI).all (λkd=>unB 1 kd)=true:=by kernel_rfl
def ABF:([9]:LI).all (λkd=>unB 1 kd)=true:=by kernel_rfl
def AFE:([0,1,2,3,4,5,6,7,8,9]:LI).all (λkd=>unB 2 kd)=true:=by kernel_rfl
def uA:([0,1,2,6]:LI).all (λkd=>Q3 8 kd)=true:=by kernel_rfl
def uB:([3,4,7,8]:LI).all (λkd=>Q3 8 kd)=true:=by kernel_rfl
def uC:([5]:LI).all (λkd=>Q3 8 kd)=true:=by kernel_rfl
def uD:([9]:LI).all (λkd=>Q3 8 kd)=true:=by kernel_rfl
end
end Go.Vi
