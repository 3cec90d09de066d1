/- Part of the proof of CauseOrders (own work, made small). -/
import Derived.Test.YtlonlfiaclacdaaGreatF3
import Derived.Test.YtlonlfiaclacdaaGreatF4
import Derived.Test.YtlonlfiaclacdaaGreatF5
import Derived.Test.YtlonlfiaclacdaaGreatF6
set_option linter.all false
set_option maxRecDepth 100000
open Bool renaming and_eq_true->Bk
open Go renaming FuncId->CE
open Go.Proofs.Tryz renaming prog->BW
open Go.Vi.G8 renaming Gy->A2,Il->A8
open List renaming all_eq_true->CV,append_nil->CL,length_cons->CG,nil_append->CX
namespace Go.Vi
section
open Go.Proofs
def x8:([3,4,5,6]:LI).all (λop=>([0,1,2,3,4,5,6,7,8,9]:LI).all λkd=>Sg op kd)=true:=by kernel_rfl
def x9:([7,11,14,15]:LI).all (λop=>([0,1,2,3,4,5,6,7,8,9]:LI).all λkd=>Sg op kd)=true:=by kernel_rfl
def yA:([16,17,18,19]:LI).all (λop=>([0,1,2,3,4,5,6,7,8,9]:LI).all λkd=>Sg op kd)=true:=by kernel_rfl
def ABd{p:Int->Bool}(h:([0,1,2,3,4,5,6,7,8,9]:LI).all p=true){kd:Int}(h0:0<=kd/\kd<=9):p kd=true:=by refine CV.1 h kd ?_;have:kd=0\/kd=1\/kd=2\/kd=3\/kd=4\/kd=5\/kd=6\/kd=7\/kd=8\/kd=9:=AA;exact Afx
def iL{p:Int->Bool}(ha:([0,1,2,6]:LI).all p=true)(hb:([3,4,7,8]:LI).all p=true)(hc:([5]:LI).all p=true)(hd:([9]:LI).all p=true){kd:Int}(h0:0<=kd/\kd<=9):p kd=true:=by
 have:(kd=0\/kd=1\/kd=2\/kd=6)\/(kd=3\/kd=4\/kd=7\/kd=8)\/kd=5\/kd=9:=AA;rcases this with h|h|h|h
 .exact CV.1 ha kd AE
 .exact CV.1 hb kd AE
 .exact CV.1 hc kd AE
 .exact CV.1 hd kd AE
def AU9:ACV:=by
 intro op kd pj y7
 have h1:unB op kd=true:=by
  rcases pj with rfl|rfl
  .exact iL AEF AEG AEH AEI y7
  .exact ABd AH0 y7
 unfold unB at h1;split at h1
 .rename_i r b he;exact⟨r,b,nR he⟩
 .cases h1
def ANO:ot:=by
 intro op kd pj y7
 have h1:Sg op kd=true:=by
  have:op=8\/op=9\/op=10\/op=12\/op=13\/(op=3\/op=4\/op=5\/op=6)\/(op=7\/op=11\/op=14\/op=15)\/(op=16\/op=17\/op=18\/op=19):=AA;rcases this with rfl|rfl|rfl|rfl|rfl|h|h|h
  .exact iL xv xw xx xy y7
  .exact iL xz x5 x6 x7 y7
  .exact iL uO uP uQ uR y7
  .exact iL uS uT uU uV y7
  .exact iL uW uX uY uZ y7
  .exact ABd (CV.1 x8 op AE) y7
  .exact ABd (CV.1 x9 op AE) y7
  .exact ABd (CV.1 yA op AE) y7
 unfold Sg at h1;split at h1
 .rename_i r k b he;simp only[Bk,decide_eq_true_eq]at h1;exact⟨r,k,b,nR he,h1⟩
 .cases h1
end
attribute [local irreducible] Iq IJ Hf Ij HS Ik G3 G4 HQ IA H7 KV Hx Ig Ie Iz LH LS Jq Kp LG Hw Hg IT pQ Jy JZ Hb HP He H2 IN I0 Int.instDecidableEq Int.decEq instBEqOfDecidableEq
section
open Go.Proofs
structure PWF (N:List G8):Prop where
 wf:∀n∈N,n.WF
 len:N.length<=60
 Il:A8 N<=20000
def kP(N:List G8):Prop:=∀(q:Nat) (h:q<N.length),Sq N q N[q]
def rdy(N:List G8)(ok:Bool):PV:=.tuple [.agg [.HC (N.map A2)],.bool ok]
def ALE(t:BA)(ht:(t.size:Int)<=9223372036854775807):∃N ok,PC BW 53 [.HK t] [] (rdy N ok) []/\PWF N:=by
 obtain⟨N,a,e,I5,h1,h2,h3⟩:=ADq t ht
 have:PQ BW 53 [.HK t] [] (λr c=>c=[]/\∃N ok,r=rdy N ok/\PWF N):=by
  refine ANc 0 rfl _ ?_;unfold c53;refine zv ?_;refine AWG ?_ ?_
  .refine zv ?_;exact HB AeT rfl rfl ⟨rfl,[],false,rfl,AD,AD,AS⟩
  .refine AbY I5 ?_;simp only[Hu,Lu];refine zv ?_;exact HB AeT rfl rfl ⟨rfl,N,_,rfl,h1,h2,h3⟩
 obtain⟨r,c,hp,rfl,N,ok,rfl,hw⟩:=this;exact⟨N,ok,hp,hw⟩
def AGn(t:BA)(ht:(t.size:Int)<=9223372036854775807):∃N ok,PC BW 34 [.HK t] [] (rdy N ok) []/\PWF N/\(ok=true->kP N):=by
 obtain⟨N,ok,I5,hw⟩:=ALE t ht;obtain⟨a,e,hpn,hn⟩:=za hw.len hw.wf hw.Il
 have:PQ BW 34 [.HK t] [] (λr c=>c=[]/\∃N ok,r=rdy N ok/\PWF N/\(ok=true->kP N)):=by
  refine ANW 0 rfl _ ?_;unfold c34;refine zv ?_;refine AbY I5 ?_;simp only[Hu,rdy,Lu];refine zv ?_;cases ok
  .exact Agr
  .refine zv ?_;refine AbY hpn ?_;simp only[Hu,Lu];refine zv ?_;exact HB AeT rfl rfl ⟨rfl,N,_,rfl,hw,λh=>hn AE⟩
 exact AhD
def AHz(t:BA)(ht:(t.size:Int)<=9223372036854775807):∃N ok,PC BW 19 [.HK t] [] (rdy N ok) []/\PWF N/\(ok=true->kP N):=by
 obtain⟨N,ok,I5,hw,hn⟩:=AGn t ht
 have:PQ BW 19 [.HK t] [] (λr c=>c=[]/\∃N ok,r=rdy N ok/\PWF N/\(ok=true->kP N)):=by
  refine ANS 0 rfl _ ?_;unfold c19;refine zv ?_;refine AbY I5 ?_;simp only[Hu,rdy,Lu];refine zv ?_;cases ok
  .exact Agr
  .obtain⟨a,e,hpt⟩:=AAY AU9 ANO hw.len hw.wf hw.Il (hn rfl);refine zv ?_;refine AbY hpt ?_;simp only[Hu,Lu];exact Ag9
 exact AhD
def AHW(t:BA)(ht:(t.size:Int)<=9223372036854775807):∃N ok,PC BW 13 [.HK t] [] (rdy N ok) []/\PWF N/\(ok=true->kP N):=by
 obtain⟨N,ok,I5,hw,hn⟩:=AHz t ht
 have:PQ BW 13 [.HK t] [] (λr c=>c=[]/\∃N ok,r=rdy N ok/\PWF N/\(ok=true->kP N)):=by
  refine ANQ 0 rfl _ ?_;unfold c13;refine zv ?_;refine AbY I5 ?_;simp only[Hu,rdy,Lu];refine zv ?_;cases ok
  .exact Agr
  .obtain⟨a,e,hpk⟩:=uj hw.len hw.wf hw.Il (hn rfl);obtain⟨a2,e2,hpf⟩:=yd hw.len hw.wf;refine zv ?_;refine AbY hpk ?_;simp only[Hu,Lu];refine zv ?_;refine AbY hpf ?_;simp only[Hu,Lu];refine zv ?_;cases hb:(e==0)
   .exact Ag9
   .exact Ag9
 exact AhD
end
end Go.Vi
