/- Part of the proof of CauseChecks (own work, made small). -/
import Derived.Test.YtlonlfiaclacdaaGreatF3
import Derived.Test.YtlonlfiaclacdaaGreatF4
import Derived.Test.YtlonlfiaclacdaaGreatF5
import Derived.Test.YtlonlfiaclacdaaGreatF6
set_option linter.all false
set_option maxRecDepth 100000
open Bool renaming and_eq_true->Bo
open Go renaming FuncId->B9
open Go.Proofs.Tryz renaming prog->BZ
open Go.Vi.GO renaming GG->Ay,HS->BC
open List renaming all_eq_true->CY,append_nil->CG,length_cons->CE,nil_append->CC,set_cons_succ->Cb,set_cons_zero->Ca
namespace Go.Vi
section
open Go.Proofs
def uJ:([3,4,5,6]:LI).all (λop=>([0,1,2,3,4,5,6,7,8,9]:LI).all λkd=>Q3 op kd)=true:=by kernel_rfl
def uK:([7,11,14,15]:LI).all (λop=>([0,1,2,3,4,5,6,7,8,9]:LI).all λkd=>Q3 op kd)=true:=by kernel_rfl
def uL:([16,17,18,19]:LI).all (λop=>([0,1,2,3,4,5,6,7,8,9]:LI).all λkd=>Q3 op kd)=true:=by kernel_rfl
def yH{p:Int->Bool}(h:([0,1,2,3,4,5,6,7,8,9]:LI).all p=true){kd:Int}(h0:0<=kd/\kd<=9):p kd=true:=by refine CY.1 h kd ?_;have:kd=0\/kd=1\/kd=2\/kd=3\/kd=4\/kd=5\/kd=6\/kd=7\/kd=8\/kd=9:=AA;exact Aea
def dx{p:Int->Bool}(ha:([0,1,2,6]:LI).all p=true)(hb:([3,4,7,8]:LI).all p=true)(hc:([5]:LI).all p=true)(hd:([9]:LI).all p=true){kd:Int}(h0:0<=kd/\kd<=9):p kd=true:=by
 have:(kd=0\/kd=1\/kd=2\/kd=6)\/(kd=3\/kd=4\/kd=7\/kd=8)\/kd=5\/kd=9:=AA;rcases this with h|h|h|h
 .exact CY.1 ha kd AE
 .exact CY.1 hb kd AE
 .exact CY.1 hc kd AE
 .exact CY.1 hd kd AE
def ASm:zK:=by
 intro op kd mq vG
 have h1:unB op kd=true:=by
  rcases mq with rfl|rfl
  .exact dx ABC ABD ABE ABF vG
  .exact yH AFE vG
 unfold unB at h1;split at h1
 .rename_i r b he;exact⟨r,b,kR he⟩
 .cases h1
def AKf:l9:=by
 intro op kd mq vG
 have h1:Q3 op kd=true:=by
  have:op=8\/op=9\/op=10\/op=12\/op=13\/(op=3\/op=4\/op=5\/op=6)\/(op=7\/op=11\/op=14\/op=15)\/(op=16\/op=17\/op=18\/op=19):=AA;rcases this with rfl|rfl|rfl|rfl|rfl|h|h|h
  .exact dx uA uB uC uD vG
  .exact dx uF uG uH uI vG
  .exact dx qh qi qj qk vG
  .exact dx ql qm qn qo vG
  .exact dx qp qq qs qt vG
  .exact yH (CY.1 uJ op AE) vG
  .exact yH (CY.1 uK op AE) vG
  .exact yH (CY.1 uL op AE) vG
 unfold Q3 at h1;split at h1
 .rename_i r k b he;simp only[Bo,decide_eq_true_eq]at h1;exact⟨r,k,b,kR he,h1⟩
 .cases h1
end
attribute [local irreducible] H0 HR Gp Ht Gf Hu GJ GM Gc HK HC JI G6 Hs Hq Ho JZ Jd Ip JN JW G2 Gq Hb pQ I2 Ic Gn Gb Gs HA HZ H8 Int.instDecidableEq Int.decEq instBEqOfDecidableEq
section
open Go.Proofs
structure zJ (N:List GO):Prop where
 wf:∀n∈N,n.WF
 len:N.length<=60
 HS:BC N<=20000
def Vk(N:List GO):Prop:=∀(q:Nat) (h:q<N.length),O6 N q N[q]
def si(N:List GO)(ok:Bool):PV:=.tuple [.agg [.GV (N.map Ay)],.bool ok]
def AIM(t:BA)(ht:(t.size:Int)<=9223372036854775807):∃N ok,PC BZ 53 [.Gh t] [] (si N ok) []/\zJ N:=by
 obtain⟨N,a,e,IE,h1,h2,h3⟩:=AAn t ht
 have:PQ BZ 53 [.Gh t] [] (λr c=>c=[]/\∃N ok,r=si N ok/\zJ N):=by
  refine AK2 0 rfl _ ?_;unfold c53;refine zv ?_;refine AT5 ?_ ?_
  .refine zv ?_;exact GW AcK rfl rfl ⟨rfl,[],false,rfl,AD,AD,AL⟩
  .refine AZa IE ?_;simp only[Gx,Jl];refine zv ?_;exact GW AcK rfl rfl ⟨rfl,N,_,rfl,h1,h2,h3⟩
 obtain⟨r,c,hp,rfl,N,ok,rfl,hw⟩:=this;exact⟨N,ok,hp,hw⟩
def AD3(t:BA)(ht:(t.size:Int)<=9223372036854775807):∃N ok,PC BZ 34 [.Gh t] [] (si N ok) []/\zJ N/\(ok=true->Vk N):=by
 obtain⟨N,ok,IE,hw⟩:=AIM t ht;obtain⟨a,e,hpn,hn⟩:=vg hw.len hw.wf hw.HS
 have:PQ BZ 34 [.Gh t] [] (λr c=>c=[]/\∃N ok,r=si N ok/\zJ N/\(ok=true->Vk N)):=by
  refine AKu 0 rfl _ ?_;unfold c34;refine zv ?_;refine AZa IE ?_;simp only[Gx,si,Jl];refine zv ?_;cases ok
  .exact Aek
  .refine zv ?_;refine AZa hpn ?_;simp only[Gx,Jl];refine zv ?_;exact GW AcK rfl rfl ⟨rfl,N,_,rfl,hw,λh=>hn AE⟩
 exact Ae1
def AFC(t:BA)(ht:(t.size:Int)<=9223372036854775807):∃N ok,PC BZ 19 [.Gh t] [] (si N ok) []/\zJ N/\(ok=true->Vk N):=by
 obtain⟨N,ok,IE,hw,hn⟩:=AD3 t ht
 have:PQ BZ 19 [.Gh t] [] (λr c=>c=[]/\∃N ok,r=si N ok/\zJ N/\(ok=true->Vk N)):=by
  refine AKp 0 rfl _ ?_;unfold c19;refine zv ?_;refine AZa IE ?_;simp only[Gx,si,Jl];refine zv ?_;cases ok
  .exact Aek
  .obtain⟨a,e,hpt⟩:=wk ASm AKf hw.len hw.wf hw.HS (hn rfl);refine zv ?_;refine AZa hpt ?_;simp only[Gx,Jl];exact Aey
 exact Ae1
def AEf(t:BA)(ht:(t.size:Int)<=9223372036854775807):∃N ok,PC BZ 13 [.Gh t] [] (si N ok) []/\zJ N/\(ok=true->Vk N):=by
 obtain⟨N,ok,IE,hw,hn⟩:=AFC t ht
 have:PQ BZ 13 [.Gh t] [] (λr c=>c=[]/\∃N ok,r=si N ok/\zJ N/\(ok=true->Vk N)):=by
  refine AKl 0 rfl _ ?_;unfold c13;refine zv ?_;refine AZa IE ?_;simp only[Gx,si,Jl];refine zv ?_;cases ok
  .exact Aek
  .obtain⟨a,e,hpk⟩:=qz hw.len hw.wf hw.HS (hn rfl);obtain⟨a2,e2,hpf⟩:=u0 hw.len hw.wf;refine zv ?_;refine AZa hpk ?_;simp only[Gx,Jl];refine zv ?_;refine AZa hpf ?_;simp only[Gx,Jl];refine zv ?_;cases hb:(e==0)
   .exact Aey
   .exact Aey
 exact Ae1
end
end Go.Vi
