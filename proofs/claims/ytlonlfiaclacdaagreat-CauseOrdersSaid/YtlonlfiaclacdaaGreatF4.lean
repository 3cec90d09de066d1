/- Part of the proof of CauseOrders (own work, made small). -/
import Derived.Test.YtlonlfiaclacdaaGreatF2
set_option linter.all false
set_option maxRecDepth 100000
open Go renaming FuncId->CE,Program->Cc,Value->Bc,lt_of_block->Dt
open Go.Proofs.Tryz renaming prog->BW
namespace Go.Vi
section
open Go.Proofs
def AQN:Go.Ab.AV->Option PV
 | .int k n=>some (.int k n)
 | .bool b=>some (.bool b)
 |_=>none
def wT:List Go.Ab.AV->Option (LP)
 |[]=>some []
 |a::l=>match AQN a with
  |some x=>match wT l with
   |some r=>some (x::r)
   |none=>none
  |none=>none
def AHA{m:Go.Ab.NO}{K:KK}{a:Go.Ab.AV}{x:PV}{v:Bc}(h:AQN a=some x)(hv:Go.Ab.VR m a v):R1 K x v:=by
 cases hv<;>simp[AQN]at h
 .subst h;exact .data _ _ (.int _ _)
 .subst h;exact .data _ _ (.bool _)
def qC{m:Go.Ab.NO}{K:KK}:∀{l:List Go.Ab.AV} {k:LP} {l':LV},wT l=some k->Go.Ab.JT m l l'->R1s K k l'
 |[],k,l',h,hv=>by simp[wT]at h;subst h;cases hv;exact .nil
 |a::l,k,l',h,hv=>by
  cases hv with
  |cons _ v _ l' h1 h2=>
   simp only[wT]at h;split at h
   .rename_i x hx;split at h
    .rename_i r hr;simp at h;subst h;exact .cons _ _ _ _ (AHA hx h1) (qC hr h2)
    .cases h
   .cases h
def AMk(l:LI):LP:=l.map (.int .i64)
def AGQ(l:LI):List Go.Ab.AV:=l.map (.int .i64)
def pt{K:KK}{Bs:LN}:∀{l:LI} {HW:LV},ARs K Bs (AMk l) HW->Go.Ab.JT (λ_ _=>none) (AGQ l) HW
 |[],HW,h=>by cases h;exact .nil
 |i::l,HW,h=>by
  cases h with
  |cons _ v _ l' h1 h2=>
   cases h1 with
   |data _ _ h3=>rw[Qr h3];exact .cons _ _ _ _ (.int _ _) (pt h2)
noncomputable def AA4(P:Cc)(n:Nat)(f:CE)(l:LI):Option (LP):=
 match(Go.Ab.Yl P n (.call f (AGQ l))).run Go.Ab.st0 with
 | .ok (.tuple r) _=>wT r
 |_=>none
def nR{P:Cc}{n:Nat}{f:CE}{l:LI}{r:LP}(h:AA4 P n f l=some r):PC P f (AMk l) [] (.tuple r) []:=by
 intro K w Bs HW hK hC L6 hA;cases hC;unfold AA4 at h;split at h
 .rename_i q s' he;have hr:Go.Ab.IQ (λ_ _=>none) Go.Ab.st0.heap.get w:=Go.Ab.IQ.empty w;have hf:Go.Ab.KF Go.Ab.st0 s':=λb _ _=>rfl;refine((Go.Ab.ef n).call f (AGQ l) Go.Ab.st0 _ s' he _ w HW hr (pt hA) hf).mono ?_;rintro e w' ⟨m',v',rfl,hx,_,hv⟩;have Km:∀B,B<w.heap.size->w'.heap[B]?=w.heap[B]?:=λB hB=>hx.Kv B hB Aeg;refine⟨K,v',rfl,⟨bB.refl _,λB ks hk=>?_,λB ks hk _=>hk,.nil,hx.size,λB hB _=>Km B hB,hx.os,hx.output,λa _=>hx.M4 a,?_⟩⟩
  .obtain⟨vs,ty,h2,h3⟩:=hK B ks hk;exact⟨vs,ty,(Km B (Dt h2)).trans h2,h3⟩
  .cases hv with
   |tuple _ l' hl=>exact .tuple _ _ (qC h hl)
 .cases h
noncomputable def unB(op kd:Int):Bool:=match AA4 BW 60 111 [op,kd,0]with
 |some [.int .i64 _,.bool _]=>true
 |_=>false
noncomputable def Sg(op kd:Int):Bool:=match AA4 BW 60 112 [op,kd,0,0]with
 |some [.int .i64 _,.int .i64 k,.bool _]=>decide (0<=k)&&decide (k<=9)
 |_=>false
end
section
open Go.Proofs
def AEF:([0,1,2,6]:LI).all (λkd=>unB 1 kd)=true:=by kernel_rfl
def AEG:([3,4,7,8]:LI).all (λkd=>unB 1 kd)=true:=by kernel_rfl
def AEH:([5]:LI).all (λkd=>unB 1 kd)=true:=by kernel_rfl
def AEI:([9]:LI).all (λkd=>unB 1 kd)=true:=by kernel_rfl
def AH0:([0,1,2,3,4,5,6,7,8,9]:LI).all (λkd=>unB 2 kd)=true:=by kernel_rfl
def xv:([0,1,2,6]:LI).all (λkd=>Sg 8 kd)=true:=by kernel_rfl
def xw:([3,4,7,8]:LI).all (λkd=>Sg 8 kd)=true:=by kernel_rfl
def xx:([5]:LI).all (λkd=>Sg 8 kd)=true:=by kernel_rfl
def xy:([9]:LI).all (λkd=>Sg 8 kd)=true:=by kernel_rfl
end
end Go.Vi
