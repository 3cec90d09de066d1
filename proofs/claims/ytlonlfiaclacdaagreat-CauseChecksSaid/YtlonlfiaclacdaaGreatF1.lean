/- Part of the proof of CauseChecks (own work, made small). -/
import Derived.Test.YtlonlfiaclacdaaGreatE2
set_option linter.all false
set_option maxRecDepth 100000
open Bool renaming and_eq_false_iff->DS,and_eq_true->Bo,or_eq_false_iff->C6
open Go renaming FuncId->B9
open Go.ByteArray renaming toList_eq->C8
open Go.Proofs.Tryz renaming prog->BZ
open Go.Vi.Edge renaming GG->A9
open Go.Vi.GD renaming GG->A8,GX->BP,wt->BG,HS->Ax
open Go.Vi.GO renaming GG->Ay
open Go.Vi.Ge renaming name->Ao,GG->Am
open Go.Vi.Gj renaming GG->Aw
open Go.Vi.Gw renaming GK->BB
open Go.Vi.Item renaming GG->Aq,GX->BK,wt->BF,HS->As
open Go.Vi.St renaming G0->Av,Gg->Ar,HJ->A4
open List renaming all_cons->Co,append_assoc->B3,append_nil->CG,drop_eq_getElem_cons->Bt,drop_zero->CA,getElem?_eq_getElem->Bc,getElem?_eq_some_iff->Bp,getElem?_map->CV,getElem_map->Fo,getElem_mem->Bl,getElem_of_mem->B4,length_append->Bd,length_cons->CE,length_map->Bb,map_append->Bu,mem_append->Bf,mem_cons->Bm,mem_map->B8,mem_singleton->By,nil_append->CC,range->CS,set_cons_succ->Cb,set_cons_zero->Ca,take_append_drop->CX,take_length->DG,take_of_length_le->Cc,take_succ_eq_append_getElem->Cm
open Nat renaming zero_add->CZ
namespace Go.Vi
attribute [local irreducible] H0 HR Gp Ht Gf Hu GJ GM Gc HK HC JI G6 Hs Hq Ho JZ Jd Ip JN JW G2 Gq Hb pQ I2 Ic Gn Gb Gs HA HZ H8 Int.instDecidableEq Int.decEq instBEqOfDecidableEq
section
open Go.Proofs
def Kv(S:List BA)(w:BA):Bool:=S.any λx=>x.toList==w.toList
def OV{S:List BA}{w:BA}:Kv S w=true<->∃x∈S,x.toList=w.toList:=by simp[Kv,List.any_eq_true]
def Lc{S:List BA}{i:Int}(h0:0<=i)(h:i<S.length):(S.map GC)[i.toNat]?=some [.Gh (S[i.toNat]' AA)]:=AgH
def Rp{N:List GO}{i:Int}(h0:0<=i)(h:i<N.length):(N.map Ay)[i.toNat]?=some ((N[i.toNat]' AA).GG):=AgH
def KP(f:Int):Bool:=f==13||f==14||f==18||f==19
def Ly(S:List BA)(w:BA)(hS:S.length<=1000000000):PC BZ 85 [.GV (S.map GC),.Gh w] [] (.bool (Kv S w)) []:=by
 have loop:∀c:Nat,∃k,∀(i:Int) (s:St),0<=i->i<=S.length->S.length-i<=c->(∀j:Nat,(h:j<S.length)->j<i->S[j].toList≠w.toList)->Gv s (CS 0)=some []->
   xP 0 0 (λr c=>c=[]/\r=.bool (Kv S w)) k (.GV (S.map GC)) (.Gh w) (I i) s:=by
  intro c
  induction c with
  |zero=>
   refine⟨1,λi s h0 h1 hc Pt hs=>?_⟩;show iW _ _ _ _ _ _ _ _;unfold iW;refine zv ?_;refine GF (λh=>Zq (Ot h) AB) λ_=>?_;exact AeC
  |succ c ih=>
   obtain⟨k,ih⟩:=ih;refine⟨k+1,λi s h0 h1 hc Pt hs=>?_⟩;show iW _ _ _ _ _ _ _ _;unfold iW;refine zv ?_;refine GF (λh=>?_) λh=>?_
   .have G7:i<S.length:=by have:=Ot h;simpa using this
    have hw:=AZi i;refine pQ_v Acx ?_;refine GF (λh2=>?_) λh2=>?_
    .refine GW rfl rfl hs ⟨rfl,?_⟩;have:Kv S w=true:=OV.2 ⟨_,Bl _,by simpa using h2⟩;rw[this]
    .refine zv ?_;refine ih _ _ AA AA AA (λj hj hji=>?_) hs;by_cases hj2:j<i
     .exact Pt j hj hj2
     .exact AhU
   .have hge:¬i<S.length:=by have:=Zy h;simpa using this
    exact AeC
 have:PQ BZ 85 [.GV (S.map GC),.Gh w] [] (λr c=>c=[]/\r=.bool (Kv S w)):=by
  refine ALL 0 rfl _ _ ?_;unfold c85;obtain⟨k,hk⟩:=loop S.length;exact⟨k,hk 0 _ AA AA AA (λj hj h=>by omega) rfl⟩
 exact Adh
def Xz(f:Int):PC BZ 117 [I f] [] (.bool (KP f)) []:=by
 have:PQ BZ 117 [I f] [] (λr c=>c=[]/\r=.bool (KP f)):=by
  refine AF6 0 rfl _ ?_;unfold APB;refine zv ?_;cases h1:(f==13)
  case true=>
   refine zv ?_;exact GW rfl rfl rfl ⟨rfl,by simp[KP,h1]⟩
  refine zv ?_;cases h2:(f==14)
  case true=>
   refine zv ?_;exact GW rfl rfl rfl ⟨rfl,by simp[KP,h2]⟩
  refine zv ?_;cases h3:(f==18)
  case true=>
   refine zv ?_;exact GW rfl rfl rfl ⟨rfl,by simp[KP,h3]⟩
  refine zv ?_;exact GW rfl rfl rfl ⟨rfl,by simp[KP,h1,h2,h3]⟩
 exact Adh
end
section
open Go.Proofs
def O5(N:List GO)(w:BA)(a r:Int):Prop:=(0<=r/\r<a/\∃n,N[r.toNat]?=some n/\n.name.toList=w.toList)\/(r= -1/\∀(j:Nat) (n:GO),N[j]?=some n->(j:Int)<a->n.name.toList≠w.toList)
def ck(N:List GO)(e a:Int):LP:=[.GV (N.map Ay),I e,I a]
def pZ(N:List GO)(hN:N.length<=60)(w:BA)(a:Int):∃r,PC BZ 84 [.agg [.GV (N.map Ay)],.Gh w,I a] [] (I r) []/\O5 N w a r:=by
 have loop:∀c:Nat,∃k,∀(i:Int) (hp:HO),0<=i->i<=N.length->N.length-i<=c->(∀(j:Nat) (n:GO),N[j]?=some n->(j:Int)<i->n.name.toList≠w.toList)->
   qy 0 0 (λr c=>c=[]/\∃r':Int,r=I r'/\O5 N w a r') k (.Gh w) (I a) (.GN 0 0) (I i) (Qx [.box [.GV (N.map Ay)]] hp 1):=by
  intro c
  induction c with
  |zero=>
   refine⟨1,λi hp h0 h1 hc Pt=>?_⟩;show iV _ _ _ _ _ _ _ _ _;unfold iV;refine zv ?_;cases h:decide (i<a)<;>refine zv ?_
   .exact Afq
   .refine GF (λh2=>Zq (Ot h2) AB) λ_=>?_;exact Afp
  |succ c ih=>
   obtain⟨k,ih⟩:=ih;refine⟨k+1,λi hp h0 h1 hc Pt=>?_⟩;show iV _ _ _ _ _ _ _ _ _;unfold iV;refine zv ?_;cases h:decide (i<a)<;>refine zv ?_
   .exact Afq
   .refine GF (λh2=>?_) λh2=>?_
    .have G7:i<N.length:=by have:=Ot h2;simpa using this
     have hw:=AZi i;have lQ:N[i.toNat]?=some (N[i.toNat]' AA):=Bc AA;refine zv ?_;refine pQ_v (Gk h0 (Rp h0 G7) rfl) ?_;refine GF (λh3=>?_) λh3=>?_
     .refine zv ?_;refine GW rfl rfl rfl ⟨rfl,i,rfl,.inl ⟨h0,Ot h,_,lQ,by simpa using h3⟩⟩
     .refine zv ?_;refine ih _ hp AA AA AA λj n hj hji=>?_;by_cases hj2:(j:Int)<i
      .exact Pt j n hj hj2
      .have:j=i.toNat:=AA;subst this;rw[lQ]at hj;cases hj;simpa using h3
    .have hge:¬i<N.length:=by have:=Zy h2;simpa using this
     exact Afp
 have:PQ BZ 84 [.agg [.GV (N.map Ay)],.Gh w,I a] [] (λr c=>c=[]/\∃r':Int,r=I r'/\O5 N w a r'):=by
  refine ALK 0 rfl _ _ _ ?_;unfold c84;refine zv ?_;obtain⟨k,hk⟩:=loop N.length;refine⟨k,?_⟩;exact Rf (qy 0 0 _ k _ _ _ _) rfl rfl λJs=>hk 0 Js AA AA AA (λj n _ h=>by omega)
 exact AhG
def CF(N:List GO)(f:Nat)(args:LP)(e a:Int)(Q:PV->Int->Int->Prop):Prop:=PQ BZ f (.GN 0 0::args) [ck N e a] λr c=>∃e' a',c=[ck N e' a']/\Q r e' a'
section
variable{N:List GO} {e a:Int} {s:St} {k:F1} {kl:KL} {args vs:LP} {f:Nat} {Q:PV->Int->Int->Prop}
def CF.call(h:CF N f args e a Q)(h1:JA vs 0=some (.GN 0 0::args,[0]))(h3:Gv s [0]=some [ck N e a])
  (hk:∀r e' a',Q r e' a'->k (JF r (s.set 0 (.box (ck N e' a')))).1 (JF r (s.set 0 (.box (ck N e' a')))).2):Gn BZ f vs s k:=by
 obtain⟨r,c,IE,e',a',rfl,hq⟩:=h;exact GI IE h1 rfl h3 rfl (hk r e' a' hq)
def CF.pc(h:CF N f args e a Q):∃r e' a',PC BZ f (.GN 0 0::args) [ck N e a] r [ck N e' a']/\Q r e' a':=by obtain⟨r,c,IE,e',a',rfl,hq⟩:=h;exact⟨r,e',a',IE,hq⟩
def Ik(x y:Int)(hy:y≠0):CF N 68 [I x,I y] e a (λr e' a'=>r=.tuple []/\e'≠0/\(e≠0->e'=e/\a'=a)):=by
 refine AK9 0 rfl _ _ _ ?_;unfold c68;refine zv ?_;refine GF (λh=>?_) λh=>?_
 .refine zv ?_;refine GW rfl rfl rfl ⟨_,_,rfl,rfl,hy,λKk=>Zq AE Kk⟩
 .refine GW rfl rfl rfl ⟨_,_,rfl,rfl,by simpa using h,λ_=>⟨rfl,rfl⟩⟩
def Oi{x y:Int}(hy:y≠0)(h3:Gv s [0]=some [ck N e a])(hk:∀e' a',e'≠0->k (.tuple []) (s.set 0 (.box (ck N e' a')))):Gn BZ 68 [.GN 0 0,I x,I y] s k:=(Ik x y hy).call rfl h3 λr e' a' h=>by obtain⟨rfl,h,_⟩:=h;exact hk e' a' h
end
end
section
open Go.Proofs
inductive OM (N:List GO) (S:List ByteArray) (nd:Int):Gw->Prop
 |mk (f s:Int) (nm:ByteArray) (tk tl i m:Int) (GP:List Gw) (GY:Int):(f=2\/f=9\/f=10->Kv S nm=true)->(KP f=true->∃r,0<=r/\O5 N nm nd r)->(f=14\/f=15\/f=18->0<GP.length)->(∀k∈GP,OM N S nd k)->OM N S nd (.mk f s nm tk tl i m GP GY)
def OM.K5{N:List GO}{S:List BA}{nd:Int}{f s tk tl i m GY:Int}{nm:BA}{GP:List Gw}(h:OM N S nd (.mk f s nm tk tl i m GP GY)):(f=2\/f=9\/f=10->Kv S nm=true)/\(KP f=true->∃r,0<=r/\O5 N nm nd r)/\(f=14\/f=15\/f=18->0<GP.length)/\(∀k∈GP,OM N S nd k):=by cases h with|mk _ _ _ _ _ _ _ _ _ h1 h2 h3 h4=>exact⟨h1,h2,h3,h4⟩
def KX{x:Gw}{vs us:LP}{bs:LN}(h:JA vs 1=some (us,bs)):JA (.GN 0 0:: .agg x.GG::vs) 0=some (.GN 0 0:: .agg x.GG::us,0::bs):=by simp[JA,PV.lI,x.JC,h]
section
variable{P:Program} {b:Bool} {bx o:Nat} {GG:LP} {x c:Int} {s:St} {R:F1} {N:List GO} {e a:Int}
def eG(h:s.heap bx=some (.box GG))(hx:GG[o]?=some (I x))(hk:R (.bool (b||(x==c))) s):
  Ic (.bool b) false (λk=>I2 (Ho o (.GN bx 0)) s k) (λv8 s9 _ _=>Ic (.bool b) false (λk=>I2 (GJ v8) s9 k) (λv10 s11 _ _=>Ic (.bool b) false (λk=>I2 (HC P .eql 3 v10 (I c)) s11 k) (λv12 s13 _ _=>pQ (Gp (.bool b) (.bool true) v12) s13 R) s11) s9) s:=by
 cases b
 .refine KS Hj ?_;refine AYn (GH h Aa0) ?_;exact hk
 .refine zv ?_;exact hk
def IU(h:s.heap 0=some (.box (ck N e a)))(hk:R (.bool (b&&(e==0))) s):
  Ic (.bool b) true (λk=>k (.GN 0 0) s [] []) (λAOC AEp _ _=>Ic (.bool b) true (λk=>I2 (HK AOC) AEp k) (λAFH wP _ _=>Ic (.bool b) true (λk=>I2 (Ho 1 AFH) wP k) (λAFI wQ _ _=>Ic (.bool b) true (λk=>I2 (GJ AFI) wQ k) (λAFJ wR _ _=>Ic (.bool b) true (λk=>I2 (HC P .eql 3 AFJ (I 0)) wR k)
   (λAOD ANt _ _=>pQ (Gp (.bool b) AOD (.bool false)) ANt R) wR) wQ) wP) AEp) s:=by
 exact AeP
def xE{GK:LLP}(h:s.heap bx=some (.box GG))(hx:GG[o]?=some (.GV GK))(hk:R (.bool (b&&decide ((GK.length:Int)<c))) s):
  Ic (.bool b) true (λk=>I2 (Ho o (.GN bx 0)) s k) (λAOA AIV _ _=>Ic (.bool b) true (λk=>I2 (GJ AOA) AIV k) (λASo AEo _ _=>Ic (.bool b) true (λk=>I2 (Gq ASo) AEo k) (λAIm AIW _ _=>Ic (.bool b) true (λk=>I2 (HC P .lss 3 AIm (I c)) AIW k)
   (λAOB ANr _ _=>pQ (Gp (.bool b) AOB (.bool false)) ANr R) AIW) AEo) AIV) s:=by
 cases b
 .refine zv ?_;exact hk
 .refine LZ Hj ?_;refine AYo (GH h Aa0) ?_;exact hk
def AFp{d:Bool}(hk:R (.bool (b&& !d)) s):
  Ic (.bool b) true (λk=>k (.bool d) s [] []) (λv34 s35 _ _=>Ic (.bool b) true (λk=>I2 (JI .not v34) s35 k) (λv36 s37 _ _=>pQ (Gp (.bool b) v36 (.bool false)) s37 R) s35) s:=by
 exact AeP
end
def Ql{l:List Gw}{i:Int}(h0:0<=i)(h:i<l.length):(BB l)[i.toNat]?=some ((l[i.toNat]' AA).GG):=by rw[Gw.Iu,CV,Bc AA];rfl
section
variable{N:List GO} {S:List BA} {nd:Int}
def sG(hN:N.length<=60)(hS:S.length<=1000000000){x:Gw}(hw:x.WF):∀(e a:Int),CF N 109 [.agg x.GG,.GV (S.map GC),I nd] e a λr e' a'=>r=.tuple []/\(e'=0->e=0/\OM N S nd x):=by
 induction hw with
 |mk f s1 nm tk tl i m GP GY Qz hf hs td ht hk ih=>
 intro e a;have fQ:GP.length<=100000:=Qz.2.2.2.2;obtain⟨rn,hrn,Ox⟩:=pZ N hN nm nd
 have loop:∀c:Nat,∀(e a:Int) (j:Int),0<=j->j<=GP.length->GP.length-j<=c->∀{Q:PV->Int->Int->Prop},(∀e' a',(e'=0->e=0/\∀(q:Nat) (h:q<GP.length),j<=q->OM N S nd GP[q])->Q (.tuple []) e' a')->∃k,∀(hp:HO),Rx 0 1 (λr c=>∃e' a',c=[ck N e' a']/\Q r e' a') k
   (.GN 0 0) (.GV (S.map GC)) (I nd) (.GN 1 0) (I j) (Qx [.box (ck N e a),.box [I f,I s1,.Gh nm,I tk,I tl,I i,I m,.GV (BB GP),I GY]] hp 2):=by
  have jr:(BB GP).length=GP.length:=by rw[Gw.Iu,Bb]
  intro c
  induction c with
  |zero=>
   intro e a j h0 h1 hc Q hQ;refine⟨1,λhp=>?_⟩;show QC _ _ _ _ _ _ _ _ _ _;unfold QC;refine zv ?_;refine IU rfl ?_;refine AT7 (λh=>?_) ?_
   .simp only[Bo,decide_eq_true_eq,jr]at h;omega
   .exact AgP
  |succ c Xy=>
   intro e a j h0 h1 hc Q hQ;by_cases Iz:j<GP.length/\e=0
   .obtain⟨G7,he⟩:=Iz;have hw:=AZi j;obtain⟨r,e1,a1,IE,rfl,h1⟩:=(ih (GP[j.toNat]' AA) (Bl _) e a).pc
    obtain⟨k,Jm⟩:=Xy e1 a1 (IntKind.i64.wrap (j+1)) AA AA AA (Q:=Q) λe' a' h2=>hQ e' a' λlP=>by
     obtain⟨g1,g2⟩:=h2 lP;obtain⟨g3,g4⟩:=h1 g1;refine⟨g3,λq hq hjq=>?_⟩;by_cases hqj:(q:Int)=j
     .have:q=j.toNat:=AA;subst this;exact g4
     .exact g2 q hq AA
    refine⟨k+1,λhp=>?_⟩;show QC _ _ _ _ _ _ _ _ _ _;unfold QC;refine zv ?_;refine IU rfl ?_;refine AT6 ?_ λh=>?_
    .refine zv ?_;refine Fy Abf ?_;refine Fy AcT ?_;refine ATj IE (KX rfl) rfl rfl rfl ?_;exact VE (Rx 0 1 _ k _ _ _ _ _) rfl rfl rfl λJs=>Jm Js
    .simp only[DS,decide_eq_false_iff_not,jr]at h;simp[he]at h;omega
   .refine⟨1,λhp=>?_⟩;show QC _ _ _ _ _ _ _ _ _ _;unfold QC;refine zv ?_;refine IU rfl ?_;refine AT7 (λh=>?_) ?_
    .simp only[Bo,decide_eq_true_eq,jr,beq_iff_eq]at h;exact Zq h Iz
    .exact AgE
 refine AF3 0 rfl _ _ _ _ ?_;unfold AO8;simp only[Gw.GG];refine zv ?_;refine eG (GG:=[I f,I s1,.Gh nm,I tk,I tl,I i,I m,.GV (BB GP),I GY]) rfl rfl ?_;refine eG (GG:=[I f,I s1,.Gh nm,I tk,I tl,I i,I m,.GV (BB GP),I GY]) rfl rfl ?_;refine zv ?_;refine AZb (Ly S nm hS) ?_;refine AFp ?_;refine GF (λh=>?_) λh1=>?_
 .exact Adj
 refine zv ?_;refine AWd (Xz f) ?_
 have Tq:f=2\/f=9\/f=10->Kv S nm=true:=λTl=>by
  cases hh:Kv S nm
  .rw[hh]at h1;simp only[DS,C6,beq_eq_false_iff_ne]at h1;simp at h1;omega
  .rfl
 cases hc:KP f
 .have Tk:KP f=true->∃r,0<=r/\O5 N nm nd r:=λh=>by rw[hc]at h;cases h
  exact AdW
 .refine zv ?_;refine AWe hrn ?_;cases hd:decide (rn<0)
  .have Tk:KP f=true->∃r,0<=r/\O5 N nm nd r:=λh=>⟨rn,by have:=Zy hd;omega,Ox⟩
   exact AdW
  .refine zv ?_;refine⟨by kernel_rfl,?_⟩;exact Adj
end
end
section
open Go.Proofs
def Gj.r9(t:Gj):t.GG[9]?=some (.Gh t.to):=by simp[Aw,t.cond.GX]
def Gj.wF(t:Gj):t.GG[11]?=some (I t.GY):=by simp[Aw,t.cond.GX]
def Gj.cut(t:Gj):TF 9 t.GG 0=some (.agg t.cond.GG):=by have:=t.cond.GX;simp only[TF,t.GX,CA];rw[Ps AA];simp only[Aw];rw[List.take_append_of_le_length AA,Cc AA]
def SM{l:List Gj}{i:Int}(h0:0<=i)(h:i<l.length):(l.map Aw)[i.toNat]?=some ((l[i.toNat]' AA).GG):=AgH
def Io{l:List Ge}{i:Int}(h0:0<=i)(h:i<l.length):(l.map Am)[i.toNat]?=some ((l[i.toNat]' AA).GG):=AgH
def cS{x:Gw}{vs us:LP}{bs:LN}(h:JA vs 0=some (us,bs)):JA (.agg x.GG::vs) 0=some (.agg x.GG::us,bs):=by simp[JA,PV.lI,x.JC,h]
def AIH{b:Bool}{bx o:Nat}{GG:LP}{x:Int}{s:St}{R:F1}(h:s.heap bx=some (.box GG))(hx:GG[o]?=some (I x))(hk:R (.bool (b||KP x)) s):
  Ic (.bool b) false (λk=>I2 (Ho o (.GN bx 0)) s k) (λv8 s9 _ _=>Ic (.bool b) false (λk=>I2 (GJ v8) s9 k) (λv10 s11 _ _=>Ic (.bool b) false (λk=>Gb BZ 117 [v10] s11 k) (λv12 s13 _ _=>pQ (Gp (.bool b) (.bool true) v12) s13 R) s11) s9) s:=by
 cases b
 .refine KS Hj ?_;refine KS (GH h Aa0) ?_;refine z8 ?_;refine AWe (Xz x) ?_;exact hk
 .refine zv ?_;exact hk
def ANP{x:Gw}(hw:x.WF):∃b,PC BZ 151 [.agg x.GG] [] (.bool b) []:=by
 induction hw with
 |mk f s1 nm tk tl i m GP GY Qz hf hs td ht hk ih=>
 have fQ:GP.length<=100000:=Qz.2.2.2.2;have jr:(BB GP).length=GP.length:=by rw[Gw.Iu,Bb]
 have loop:∀c:Nat,∀(j:Int),0<=j->j<=GP.length->GP.length-j<=c->∃k,∀(hp:HO),Xc 0 0 (λr c=>c=[]/\∃b,r=.bool b) k (.GN 0 0) (I j)
   (Qx [.box [I f,I s1,.Gh nm,I tk,I tl,I i,I m,.GV (BB GP),I GY]] hp 1):=by
  intro c
  induction c with
  |zero=>
   intro j h0 h1 hc;exact AeU
  |succ c Xy=>
   intro j h0 h1 hc;by_cases G7:j<GP.length
   .have hw:=AZi j;obtain⟨b,hb⟩:=ih (GP[j.toNat]' AA) (Bl _);obtain⟨k,Jm⟩:=Xy (IntKind.i64.wrap (j+1)) AA AA AA;refine⟨k+1,λhp=>?_⟩;show R2 _ _ _ _ _ _ _;unfold R2;refine zv ?_;refine AT6 ?_ λh=>?_
    .refine zv ?_;refine Fy Abf ?_;refine Fy AcT ?_;refine ATj hb (cS rfl) rfl rfl rfl ?_;refine AT5 ?_ ?_
     .refine GW rfl rfl rfl ⟨rfl,_,rfl⟩
     .refine zv ?_;exact AhT
    .have:=Zy h;omega
   .exact AeU
 have:PQ BZ 151 [.agg (Gw.mk f s1 nm tk tl i m GP GY).GG] [] (λr c=>c=[]/\∃b,r=.bool b):=by
  refine AGP 0 rfl _ ?_;unfold APU;simp only[Gw.GG];refine zv ?_;refine eG (GG:=[I f,I s1,.Gh nm,I tk,I tl,I i,I m,.GV (BB GP),I GY]) rfl rfl ?_;refine eG (GG:=[I f,I s1,.Gh nm,I tk,I tl,I i,I m,.GV (BB GP),I GY]) rfl rfl ?_;refine eG (GG:=[I f,I s1,.Gh nm,I tk,I tl,I i,I m,.GV (BB GP),I GY]) rfl rfl ?_;refine AIH (GG:=[I f,I s1,.Gh nm,I tk,I tl,I i,I m,.GV (BB GP),I GY]) rfl rfl ?_;refine AT5 ?_ ?_
  .refine GW rfl rfl rfl ⟨rfl,_,rfl⟩
  .obtain⟨k,Jm⟩:=loop GP.length 0 AA AA AA;refine⟨k,?_⟩;exact AhT
 exact Af8
def XU(l:List Ge)(hl:l.length<=100000):PC BZ 69 [.GV (l.map Am)] [] (.HL 1 ((l.map Ao).map GC)) []:=by
 have loop:∀c:Nat,∃k,∀(j:Int) (d:List BA) (eo:Nat) (hp:HO) (o0:Obj),0<=j->j<=l.length->l.length-j<=c->d=(l.take j.toNat).map Ao->(d.map GC=[]\/eo=1)->
   mI 1 0 (λr c=>c=[]/\r=.HL 1 ((l.map Ao).map GC)) k (.GV (l.map Am)) (.HL 1 (d.map GC)) (I j) (Qx [o0,.HE (d.map GC).length eo] hp 2):=by
  intro c
  induction c with
  |zero=>
   refine⟨1,λj d eo hp o0 h0 h1 hc hd Uo=>?_⟩;show iN _ _ _ _ _ _ _ _;unfold iN;refine zv ?_;refine AT7 (λh=>?_) ?_
   .have:=Ot h;rw[Bb]at this;omega
   .exact Aex
  |succ c ih=>
   obtain⟨k,ih⟩:=ih;refine⟨k+1,λj d eo hp o0 h0 h1 hc hd Uo=>?_⟩;show iN _ _ _ _ _ _ _ _;unfold iN;refine zv ?_;refine GF (λh=>?_) λh=>?_
   .have G7:j<l.length:=by have:=Ot h;rw[Bb]at this;omega
    have hw:=AZi j;have hdl:d.length<=j.toNat:=by rw[hd];simp;omega
    have Gl:d.map GC++[[.Gh (l[j.toNat]' AA).name]]=(d++[(l[j.toNat]' AA).name]).map GC:=by rw[Bu];rfl
    refine pQ_v AcU ?_;refine pQ_v (Jp rfl rfl (G4 AB AA) (HQ Gz) rfl (Uo.imp (λh=>by rw[h];rfl) λh=>h.symm)) ?_;rw[Gl];refine VE (mI 1 0 _ k _ _ _) (o0:=o0) rfl (by rw[<- Gl,Bd];rfl) rfl λJs=>ih _ _ 1 Js o0 AA AA AA ?_ (.inr rfl);rw[hw,hd,show(j+1).toNat=j.toNat+1 by omega,Cm AA,Bu];rfl
   .have hge:¬j<l.length:=by have:=Zy h;rw[Bb]at this;omega
    exact Aex
 have:PQ BZ 69 [.GV (l.map Am)] [] (λr c=>c=[]/\r=.HL 1 ((l.map Ao).map GC)):=by
  refine ALA 1 rfl _ ?_;unfold c69;refine zv ?_;obtain⟨k,hk⟩:=loop l.length;refine⟨k,?_⟩;exact VE (mI 1 0 _ k _ _ _) rfl rfl rfl λJs=>hk 0 [] 0 Js _ AA AA AA AD (.inl rfl)
 exact Adh
section
variable{N:List GO} {S T:List BA} {nd:Int}
def tO(hN:N.length<=60)(hS:S.length<=1000000000)(hT:T.length<=1000000000){l:List Gj}(hw:NN.WF l)(e a:Int):CF N 124 [.GV (l.map Aw),.GV (T.map GC),.GV (S.map GC),I nd] e a λr e' a'=>r=.tuple []/\(e'=0->e=0/\∀t∈l,OM N S nd t.cond):=by
 have Xx:=hw.len
 have loop:∀c:Nat,∀(e a:Int) (j:Int),0<=j->j<=l.length->l.length-j<=c->∀{Q:PV->Int->Int->Prop},(∀e' a',(e'=0->e=0/\∀(q:Nat) (h:q<l.length),j<=q->OM N S nd l[q].cond)->Q (.tuple []) e' a')->∃k,∀(hp:HO),UF 0 1 (λr c=>∃e' a',c=[ck N e' a']/\Q r e' a') k
   (.GN 0 0) (.GV (l.map Aw)) (.GV (T.map GC)) (.GV (S.map GC)) (I nd) (I j) (Qx [.box (ck N e a)] hp 1):=by
  intro c
  induction c with
  |zero=>
   intro e a j h0 h1 hc Q hQ;refine⟨1,λhp=>?_⟩;show PD _ _ _ _ _ _ _ _ _ _ _;unfold PD;refine zv ?_;refine IU rfl ?_;refine AT7 (λh=>?_) ?_
   .exact AhX
   .exact AgP
  |succ c Xy=>
   intro e a j h0 h1 hc Q hQ;by_cases Iz:j<l.length/\e=0
   .obtain⟨G7,he⟩:=Iz;have SY:=AZi j;have Gl:=SM h0 G7;generalize hg:l[j.toNat]' AA=t at Gl;have htm:t∈l:=by rw[<- hg];exact Bl _
    obtain⟨r,e1,a1,IE,rfl,h1'⟩:=(sG (nd:=nd) hN hS (hw.all t htm) e a).pc;obtain⟨b,hb⟩:=ANP (hw.all t htm)
    have key:∀(e2 a2:Int),(e2=0->e1=0)->∃k,∀(hp:HO),UF 0 1 (λr c=>∃e' a',c=[ck N e' a']/\Q r e' a') k (.GN 0 0) (.GV (l.map Aw)) (.GV (T.map GC)) (.GV (S.map GC)) (I nd) (I (IntKind.i64.wrap (j+1))) (Qx [.box (ck N e2 a2)] hp 1):=λe2 a2 h12=>
     Xy e2 a2 (IntKind.i64.wrap (j+1)) AA AA AA λe' a' h2=>hQ e' a' λlP=>by
      obtain⟨g1,g2⟩:=h2 lP;obtain⟨g3,g4⟩:=h1' (h12 g1);refine⟨g3,λq hq hjq=>?_⟩;by_cases hqj:(q:Int)=j
      .have:q=j.toNat:=AA;subst this;rw[hg];exact g4
      .exact g2 q hq AA
    cases hh:Kv T t.to with
    |false=>
     refine⟨1,λhp=>?_⟩;show PD _ _ _ _ _ _ _ _ _ _ _;unfold PD;refine zv ?_;refine IU rfl ?_;refine AT6 ?_ λh=>?_
     .refine pQ_v AbZ ?_;refine Fy (Hg t.r9) ?_;refine AZa (Ly T t.to hT) ?_;rw[hh];refine zv ?_;refine pQ_v AbZ ?_;refine Fy (Hg t.wF) ?_;refine Oi AA rfl λe' a' he=>?_;refine GW rfl rfl rfl ⟨_,_,rfl,hQ _ _ λh=>Zq h he⟩
     .simp[he]at h;omega
    |true=>
     cases b with
     |false=>
      obtain⟨k,Jm⟩:=key e1 a1 id;refine⟨k+1,λhp=>?_⟩;show PD _ _ _ _ _ _ _ _ _ _ _;unfold PD;refine zv ?_;refine IU rfl ?_;refine AT6 ?_ λh=>?_
      .refine pQ_v AbZ ?_;refine Fy (Hg t.r9) ?_;refine AZa (Ly T t.to hT) ?_;rw[hh];refine zv ?_;refine pQ_v AbZ ?_;refine Fy (MB t.cut) ?_;refine GI IE (KX rfl) rfl rfl rfl ?_;refine pQ_v AbZ ?_;refine Fy (MB t.cut) ?_;refine ATj hb (cS rfl) rfl rfl rfl ?_;exact AfN
      .simp[he]at h;omega
     |true=>
      obtain⟨r,e2,a2,I4,rfl,YI,_⟩:=(Ik (N:=N) (e:=e1) (a:=a1) t.GY 26 AA).pc;obtain⟨k,Jm⟩:=key e2 a2 λh=>Zq h YI;refine⟨k+1,λhp=>?_⟩;show PD _ _ _ _ _ _ _ _ _ _ _;unfold PD;refine zv ?_;refine IU rfl ?_;refine AT6 ?_ λh=>?_
      .refine pQ_v AbZ ?_;refine Fy (Hg t.r9) ?_;refine AZa (Ly T t.to hT) ?_;rw[hh];refine zv ?_;refine pQ_v AbZ ?_;refine Fy (MB t.cut) ?_;refine GI IE (KX rfl) rfl rfl rfl ?_;refine pQ_v AbZ ?_;refine Fy (MB t.cut) ?_;refine ATj hb (cS rfl) rfl rfl rfl ?_;refine pQ_v AbZ ?_;refine Fy (Hg t.wF) ?_;refine AZa I4 ?_;unfold fb;refine zv ?_;exact AfN
      .simp[he]at h;omega
   .refine⟨1,λhp=>?_⟩;show PD _ _ _ _ _ _ _ _ _ _ _;unfold PD;refine zv ?_;refine IU rfl ?_;refine AT7 (λh=>?_) ?_
    .exact Aga
    .exact AgE
 obtain⟨k,Jm⟩:=loop l.length e a 0 AA AA AA (Q:=λr e' a'=>r=.tuple []/\(e'=0->e=0/\∀t∈l,OM N S nd t.cond)) λe' a' h=>⟨rfl,λlP=>by
  obtain⟨g1,g2⟩:=h lP;refine⟨g1,λt ht=>?_⟩;obtain⟨q,hq,rfl⟩:=B4 ht;exact g2 q hq AA⟩
 refine AGD 0 rfl _ _ _ _ _ ?_;unfold API;refine⟨k,?_⟩;exact AfN
end
end
section
open Go.Proofs
mutual
def Item.Y0 (n:ByteArray):Item->Prop
 | .mk GL _ GB _=>(GB=[]/\n∈GL)\/GD.Mc n GB
def Item.Mc (n:ByteArray):List Item->Prop
 |[]=>False
 |x::r=>x.Y0 n\/Item.Mc n r
def GD.Y0 (n:ByteArray):GD->Prop
 | .mk _ _ _ GA GQ _=>n∉GA.map Ao/\Item.Mc n GQ
def GD.Mc (n:ByteArray):List GD->Prop
 |[]=>False
 |x::r=>x.Y0 n\/GD.Mc n r
end
def Item.Rj{n:BA}{x:Item}:∀{l:List Item},x∈l->x.Y0 n->Item.Mc n l
 |y::r,h,hd=>by
  simp only[Item.Mc];rcases Bm.1 h with rfl|h
  .exact .inl hd
  .exact .inr (Item.Rj h hd)
def GD.Rj{n:BA}{x:GD}:∀{l:List GD},x∈l->x.Y0 n->GD.Mc n l
 |y::r,h,hd=>by
  simp only[GD.Mc];rcases Bm.1 h with rfl|h
  .exact .inl hd
  .exact .inr (GD.Rj h hd)
mutual
inductive NI (N:List GO) (nd:Int):List ByteArray->List ByteArray->Item->Prop
 |eq (S M:List ByteArray) (GL:List ByteArray) (e:Gw) (GY:Int):(∀n∈GL,Kv M n=true)->OM N S nd e->NI N nd S M (.mk GL e [] GY)
 |AKe (S M:List ByteArray) (GL:List ByteArray) (e:Gw) (st:GD) (GB:List GD) (GY:Int):(∀s∈st::GB,NS N nd S M s)->NI N nd S M (.mk GL e (st::GB) GY)
inductive NS (N:List GO) (nd:Int):List ByteArray->List ByteArray->GD->Prop
 |mk (S M:List ByteArray) (nm:ByteArray) (JB Jg:List Gj) (GA:List Ge) (GQ:List Item) (GY:Int):(∀t∈JB,OM N S nd t.cond)->(∀i∈GQ,NI N nd (S++GA.map Ao) (M++GA.map Ao) i)->
  (∀t∈Jg,OM N (S++GA.map Ao) nd t.cond)->(∀(q:Nat) (h:q<GA.length),Kv (S++(GA.map Ao).take q) GA[q].name=false)->(∀v∈GA,Item.Mc v.name GQ)->NS N nd S M (.mk nm JB Jg GA GQ GY)
end
def Tw{l:List Item}{i:Int}(h0:0<=i)(h:i<l.length):(l.map Aq)[i.toNat]?=some ((l[i.toNat]' AA).GG):=AgH
def Oo{l:List GD}{i:Int}(h0:0<=i)(h:i<l.length):(l.map A8)[i.toNat]?=some ((l[i.toNat]' AA).GG):=AgH
structure xA (N:List GO) (e a:Int) (d:List ByteArray) (b eo:Nat) (s:St):Prop where
 h0:s.heap 0=some (.box (ck N e a))
 hb:s.heap b=some (.HE (d.map GC).length eo)
 ho:d.map GC=[]\/eo=1
 n0:b≠0
 lt:b<s.next
structure RB (N:List GO) (e a:Int) (d:List ByteArray) (b eo bx:Nat) (GG:List PV) (s:St):Prop where
 i:xA N e a d b eo s
 hx:s.heap bx=some (.box GG)
 x0:bx≠0
 xb:bx≠b
 xlt:bx<s.next
attribute [local irreducible] mM UU dA UR US Sr UT
section
variable{N:List GO} {S M:List BA} {nd:Int}
def AFr{d:List BA}(hd:d.length<=90000){s:St}{e a:Int}{bx:Nat}{GG:LP}{b eo:Nat}(h:RB N e a d b eo bx GG s){i:Int}{nms:List BA}(Gl:GG[0]?=some (.GV (nms.map GC)))(h0:0<=i)(hi:i<nms.length)
  {w10:PV->PV->PV->PV->PV->PV->F1}{ASq:PV->PV->PV->PV->PV->PV->PV->PV->F1}{Q:PV->LLP->Prop}{v2 v3 v4 v5 v7:PV}(hw:nms.length<=100000)
  (hk:∀b' s',RB N e a (d++[nms[i.toNat]' AA]) b' 1 bx GG s'->ASq (.GN 0 0) v2 v3 v4 v5 (.HL b' ((d++[nms[i.toNat]' AA]).map GC)) v7 (.GN bx 0) (I (i+1)) s'):
  Sr 1 1 Q w10 ASq (.GN 0 0) v2 v3 v4 v5 (.HL b (d.map GC)) v7 (.GN bx 0) (I i) s:=by
 have hx:=h.hx;have G7:=h.xlt;have SY:=AZi i;have Ls:=h.i.h0;unfold Sr;refine AZc AdA ?_;refine GR (GH zh Gl) ?_;refine AZc (Gk h0 (Lc h0 hi) rfl) ?_;refine AZc (Jp rfl rfl (G4 AB AA) (HQ Gz) zh (.inr rfl)) ?_;have hb:=h.i.lt;have rN:=h.i.n0;have Tt:=h.x0;have hxb:=h.xb;refine⟨?_,?_⟩
 .simp only[G1,HI,dN,M5,OY,CC,CG];simp[Hl,IA,Iy];refine⟨λ_=>by omega,by kernel_rfl,λ_=>by omega⟩
 refine zv ?_;rw[SY];have L7:(d++[nms[i.toNat]' AA]).map GC=d.map GC++[[.Gh (nms[i.toNat]' AA)]]:=by rw[Bu];rfl
 rw[<- L7];refine hk s.next _ ⟨⟨zh,?_,.inr rfl,AA,by simp[G1,HI]⟩,zh,Tt,AA,by simp only[G1,HI];omega⟩;exact AhR
def nc(N:List GO)(Q:PV->LLP->Prop)(v2 v3 v4 v5:PV)(j:Int)(e a:Int)(d:List BA):Prop:=∃K,∀(b eo:Nat) (s:St),xA N e a d b eo s->Mz 1 1 Q K (.GN 0 0) v2 v3 v4 v5 (.HL b (d.map GC)) (I (j+1)) s
def xA.box{e a e' a':Int}{d:List BA}{b eo:Nat}{s:St}(h:xA N e a d b eo s):xA N e' a' d b eo (s.set 0 (.box (ck N e' a'))):=
 have h0:=h.n0
 ⟨A4,(Ar h0).trans h.hb,h.ho,h.n0,h.lt⟩
def RB.box{e a e' a':Int}{d:List BA}{b eo bx:Nat}{GG:LP}{s:St}(h:RB N e a d b eo bx GG s):RB N e' a' d b eo bx GG (s.set 0 (.box (ck N e' a'))):=
 have h0:=h.x0
 ⟨h.i.box,(Ar h0).trans h.hx,h.x0,h.xb,h.xlt⟩
def rJ(hN:N.length<=60)(hS:S.length<=1000000000){x:Gw}(hx:x.WF){GG:LP}(pE:TF 9 GG 1=some (.agg x.GG)){Q:PV->LLP->Prop}{v2 v4:PV}{j:Int}(hj0:0<=j)(hj:j<=100000){e a:Int}{d:List BA}{P0:Prop}
  (ID:∀e2 a2,(e2=0->e=0/\OM N S nd x)->nc N Q v2 (.GV (S.map GC)) v4 (I nd) j e2 a2 d):∃K,∀(b eo bx:Nat) (s:St),RB N e a d b eo bx GG s->
   US 1 1 Q (Mz 1 1 Q K) (.GN 0 0) v2 (.GV (S.map GC)) v4 (I nd) (.HL b (d.map GC)) (I j) (.GN bx 0) s:=by
 have SY:=AZi j;obtain⟨r,e1,a1,IE,rfl,h1⟩:=(sG (nd:=nd) hN hS hx e a).pc;by_cases he:e=0
 .obtain⟨K,hK⟩:=ID e1 a1 h1;refine⟨K,λb eo bx s h=>?_⟩;have Ls:=h.i.h0;have dt:=h.hx;have Tt:=h.x0;unfold US;refine zv ?_;refine AT6 ?_ (λh9=>Zq he AI);refine zv ?_;refine Fy (M7 zh pE) ?_;refine GI IE (KX rfl) rfl AbQ rfl ?_;unfold UU;refine zv ?_;rw[SY];exact hK b eo _ h.i.box
 .obtain⟨K,hK⟩:=ID e a λh=>Zq h he;refine⟨K,λb eo bx s h=>?_⟩;have Ls:=h.i.h0;unfold US;refine zv ?_;refine GF (λh9=>Zq AI he) λ_=>?_;unfold UU;refine zv ?_;rw[SY];exact hK b eo _ h.i
def z5(hN:N.length<=60)(hS:S.length<=1000000000)(hM:M.length<=1000000000){x:Gw}(hx:x.WF){GL:List BA}(Pr:GL.length<=100000){GY:Int}{GG:LP}(pE:TF 9 GG 1=some (.agg x.GG))(yC:GG[0]?=some (.GV (GL.map GC)))(AHX:GG[11]?=some (I GY)){Q:PV->LLP->Prop}{v2:PV}{j:Int}(hj0:0<=j)(hj:j<=100000){e0:Int}{dl:Nat}(hdl:dl<=80000){Pn:BA->Prop}(hPn:∀n∈GL,Pn n)
  (ID:∀e2 a2 (d2:List BA),(d2.length<=dl/\∀n∈d2,Pn n)->(e2=0->e0=0/\(∀n∈GL,Kv M n=true)/\OM N S nd x)->nc N Q v2 (.GV (S.map GC)) (.GV (M.map GC)) (I nd) j e2 a2 d2):
  ∀(c:Nat) (i e a:Int) (d:List BA),0<=i->i<=GL.length->GL.length-i<=c->(d.length:Int)+(GL.length-i)<=dl->(∀n∈d,Pn n)->(e=0->e0=0/\∀(q:Nat) (h:q<GL.length),(q:Int)<i->Kv M GL[q]=true)->
   ∃K k,∀(b eo bx:Nat) (s:St),RB N e a d b eo bx GG s->Ss 1 1 Q (Mz 1 1 Q K) k (.GN 0 0) v2 (.GV (S.map GC)) (.GV (M.map GC)) (I nd) (.HL b (d.map GC)) (I j) (.GN bx 0) (I i) s:=by
 intro c
 induction c with
 |zero=>
  intro i e a d h0 h1 hc hd hdP Jk
  obtain⟨K,hK⟩:=rJ (P0:=True) (v4:=.GV (M.map GC)) (j:=j) (Q:=Q) (v2:=v2) (nd:=nd) (a:=a) hN hS hx pE hj0 hj (d:=d) (e:=e) λe2 a2 h2=>ID e2 a2 d ⟨AA,hdP⟩ λh3=>⟨(Jk (h2 h3).1).1,λn hn=>by
   obtain⟨q,hq,rfl⟩:=B4 hn;exact(Jk (h2 h3).1).2 q hq AA,(h2 h3).2⟩
  refine⟨K,1,λb eo bx s h=>?_⟩;have Ls:=h.i.h0;have dt:=h.hx;have Tt:=h.x0;show R5 _ _ _ _ _ _ _ _ _ _ _ _ _ _ _;unfold R5;refine zv ?_;refine pQ_v (GH zh yC) ?_;refine IU zh ?_;refine GF (λh9=>?_) λ_=>hK b eo bx _ h;exact Afw
 |succ c ih=>
  intro i e a d h0 h1 hc hd hdP Jk;by_cases Iz:i<GL.length/\e=0
  .obtain⟨G7,he⟩:=Iz;have rV:=Jk he
   have ASl:∃e1 a1,(Kv M (GL[i.toNat]' AA)=true/\e1=e/\a1=a\/Kv M (GL[i.toNat]' AA)=false/\e1≠0/\PC BZ 68 [.GN 0 0,I GY,I 21] [ck N e a] (.tuple []) [ck N e1 a1]):=by
    cases hh:Kv M (GL[i.toNat]' AA)with
    |true=>exact⟨e,a,.inl ⟨rfl,rfl,rfl⟩⟩
    |false=>
     obtain⟨r,e1,a1,IE,rfl,h2,_⟩:=(Ik (N:=N) (e:=e) (a:=a) GY 21 AA).pc;exact⟨e1,a1,.inr ⟨rfl,h2,IE⟩⟩
   obtain⟨e1,a1,hA⟩:=ASl
   have AE2:∃e2 a2,(Kv d (GL[i.toNat]' AA)=false/\e2=e1/\a2=a1\/Kv d (GL[i.toNat]' AA)=true/\e2≠0/\PC BZ 68 [.GN 0 0,I GY,I 20] [ck N e1 a1] (.tuple []) [ck N e2 a2]):=by
    cases hh:Kv d (GL[i.toNat]' AA)with
    |false=>exact⟨e1,a1,.inl ⟨rfl,rfl,rfl⟩⟩
    |true=>
     obtain⟨r,e2,a2,IE,rfl,h2,_⟩:=(Ik (N:=N) (e:=e1) (a:=a1) GY 20 AA).pc;exact⟨e2,a2,.inr ⟨rfl,h2,IE⟩⟩
   obtain⟨e2,a2,hB⟩:=AE2
   obtain⟨K,k,hK⟩:=ih (i+1) e2 a2 (d++[GL[i.toNat]' AA]) AA AA AA AB (λn hn=>by
    rcases Bf.1 hn with hn|hn
    .exact hdP n hn
    .rw[By.1 hn];exact hPn _ (Bl _)) (λh=>by
    rcases hB with⟨_,h2,_⟩|⟨_,h2,_⟩
    .rcases hA with⟨h3,h4,_⟩|⟨_,h4,_⟩
     .refine⟨rV.1,λq hq hqi=>?_⟩;by_cases YM:(q:Int)<i
      .exact rV.2 q hq YM
      .have:q=i.toNat:=AA;subst this;exact h3
     .exact Zq (h2▸h) h4
    .exact Zq h h2)
   have j3:∀(b eo bx:Nat) (s:St),RB N e2 a2 d b eo bx GG s->Sr 1 1 Q (Mz 1 1 Q K) (Ss 1 1 Q (Mz 1 1 Q K) k) (.GN 0 0) v2 (.GV (S.map GC)) (.GV (M.map GC)) (I nd) (.HL b (d.map GC)) (I j) (.GN bx 0) (I i) s:=λb eo bx s h=>
    AFr AA h yC h0 G7 Pr λb' s' h'=>hK b' 1 bx s' h'
   have mid:∀(b eo bx:Nat) (s:St),RB N e1 a1 d b eo bx GG s->UT 1 1 Q (Mz 1 1 Q K) (Ss 1 1 Q (Mz 1 1 Q K) k) (.GN 0 0) v2 (.GV (S.map GC)) (.GV (M.map GC)) (I nd) (.HL b (d.map GC)) (I j) (.GN bx 0) (I i) s:=by
    intro b eo bx s h;have dt:=h.hx;have Ls:=h.i.h0;have Tt:=h.x0;unfold UT;refine zv ?_;refine Fy (GH zh yC) ?_;refine pQ_v Acx ?_;refine GI (Ly d _ AA) rfl rfl rfl rfl ?_;rcases hB with⟨Lz,rfl,rfl⟩|⟨Lz,L0,ma⟩
    .rw[Lz];refine zv ?_;exact j3 b eo bx _ h
    .rw[Lz];refine zv ?_;refine Fy (GH zh AHX) ?_;refine GI ma rfl rfl AbQ rfl ?_;exact j3 b eo bx _ h.box
   refine⟨K,k+1,λb eo bx s h=>?_⟩;have Ls:=h.i.h0;have dt:=h.hx;have Tt:=h.x0;show R5 _ _ _ _ _ _ _ _ _ _ _ _ _ _ _;unfold R5;refine zv ?_;refine pQ_v (GH zh yC) ?_;refine IU zh ?_;refine AT6 ?_ λh9=>?_
   .refine zv ?_;refine Fy (GH zh yC) ?_;refine pQ_v Acx ?_;refine AZa (Ly M _ hM) ?_;rcases hA with⟨MI,rfl,rfl⟩|⟨MI,Lt,SR⟩
    .rw[MI];refine zv ?_;exact mid b eo bx _ h
    .rw[MI];refine zv ?_;refine Fy (GH zh AHX) ?_;refine GI SR rfl rfl AbQ rfl ?_;exact mid b eo bx _ h.box
   .exact AhC
  .obtain⟨K,hK⟩:=rJ (P0:=True) (v4:=.GV (M.map GC)) (j:=j) (Q:=Q) (v2:=v2) (nd:=nd) (a:=a) hN hS hx pE hj0 hj (d:=d) (e:=e) λe2 a2 h2=>ID e2 a2 d ⟨AA,hdP⟩ λh3=>⟨(Jk (h2 h3).1).1,λn hn=>by
    obtain⟨q,hq,rfl⟩:=B4 hn;exact(Jk (h2 h3).1).2 q hq (by have:=(h2 h3).1;by_cases hi:i<GL.length;exact Zq ⟨hi,this⟩ Iz;omega),(h2 h3).2⟩
   refine⟨K,1,λb eo bx s h=>?_⟩;have Ls:=h.i.h0;have dt:=h.hx;have Tt:=h.x0;show R5 _ _ _ _ _ _ _ _ _ _ _ _ _ _ _;unfold R5;refine zv ?_;refine pQ_v (GH zh yC) ?_;refine IU zh ?_;refine GF (λh9=>?_) λ_=>hK b eo bx _ h;exact AdV
end
end
section
open Go.Proofs
def Item.r0(x:Item):x.GG[0]?=some (.GV (x.GL.map GC)):=by rw[Item.IC];rfl
def Item.Vj(x:Item):x.GG[10]?=some (.GV (x.GB.map A8)):=by rw[Item.IC];simp[x.e.GX]
def Item.wF(x:Item):x.GG[11]?=some (I x.GY):=by rw[Item.IC];simp[x.e.GX]
def Item.cut(x:Item):TF 9 x.GG 1=some (.agg x.e.GG):=by have:=x.e.GX;simp only[TF,x.GX];rw[Ps AA,Item.IC];simp[this]
def Item.Vb(x:Item):x.GG.all PV.IT=true:=by rw[Item.IC,Gw.IC];rfl
def zO{x:Item}{vs us:LP}{bs:LN}(h:JA vs 1=some (us,bs)):JA (.GN 0 0:: .agg x.GG::vs) 0=some (.GN 0 0:: .agg x.GG::us,0::bs):=by simp[JA,PV.lI,x.JC,h]
def Oh{l:List Item}{q:Nat}(h:q<l.length):l[q].wt+As (l.drop (q+1))=As (l.drop q):=by rw[Bt h];simp[As]
attribute [local irreducible] mM UU dA UR US Sr UT
section
variable{N:List GO} {S M:List BA} {nd:Int}
def ABb(N:List GO)(nd:Int)(S M:List BA)(x:Item):Prop:=∀e a,CF N 108 [.agg x.GG,.GV (S.map GC),.GV (M.map GC),I nd] e a λr e' a'=>∃d:List BA,r=.HL 1 (d.map GC)/\d.length<=x.wt/\(∀n∈d,x.Y0 n)/\(e'=0->e=0/\NI N nd S M x)
def gm{Q:PV->LLP->Prop}{v2 v3 v4 v5:PV}{j:Int}(hj0:0<=j)(hj:j<=100000){e a:Int}{d dn:List BA}(hdl:d.length+dn.length<=80000){K:Nat}
  (hK:∀(b eo:Nat) (s:St),xA N e a (d++dn) b eo s->Mz 1 1 Q K (.GN 0 0) v2 v3 v4 v5 (.HL b ((d++dn).map GC)) (I (j+1)) s){b eo bx bd:Nat}{GG:LP}{s:St}(h:RB N e a d b eo bx GG s):
  dA 1 1 Q (Mz 1 1 Q K) (.GN 0 0) v2 v3 v4 v5 (.HL b (d.map GC)) (I j) (.HL bd (dn.map GC)) s:=by
 have SY:=AZi j;have Ls:=h.i.h0;have G7:=h.i.lt;have tc:=h.i.n0;unfold dA;refine Fy AdA ?_;refine pQ_v AbY ?_;unfold UU;refine zv ?_;rw[SY,<- Bu];refine hK s.next 1 _ ⟨zh,?_,.inr rfl,AA,by simp[G1,HI]⟩;rw[Bu,Bd];exact zh
def qg{Q:PV->LLP->Prop}{v2 v3 v4 v5:PV}{j:Int}(hj0:0<=j)(hj:j<=100000){GY:Int}{GG:LP}(AHX:GG[11]?=some (I GY)){e0:Int}{d dn:List BA}(hdl:d.length+dn.length<=80000)
  (ID:∀e2 a2,(e2=0->e0=0)->nc N Q v2 v3 v4 v5 j e2 a2 (d++dn)):
  ∀(c:Nat) (i e a:Int),0<=i->i<=dn.length->dn.length-i<=c->(e=0->e0=0)->
   ∃K k,∀(b eo bx bd:Nat) (s:St),RB N e a d b eo bx GG s->iX 1 1 Q (Mz 1 1 Q K) k (.GN 0 0) v2 v3 v4 v5 (.HL b (d.map GC)) (I j) (.GN bx 0) (.HL bd (dn.map GC)) (I i) s:=by
 intro c
 induction c with
 |zero=>
  intro i e a h0 h1 hc Jk;obtain⟨K,hK⟩:=ID e a Jk;refine⟨K,1,λb eo bx bd s h=>?_⟩;have Ls:=h.i.h0;show UW _ _ _ _ _ _ _ _ _ _ _ _ _ _ _ _;unfold UW;refine zv ?_;refine IU zh ?_;refine GF (λh9=>?_) λ_=>gm hj0 hj hdl hK h;exact Afw
 |succ c ih=>
  intro i e a h0 h1 hc Jk;by_cases Iz:i<dn.length/\e=0
  .obtain⟨G7,he⟩:=Iz;have SY:=AZi i
   have AE2:∃e2 a2,(Kv d (dn[i.toNat]' AA)=false/\e2=e/\a2=a\/Kv d (dn[i.toNat]' AA)=true/\e2≠0/\PC BZ 68 [.GN 0 0,I GY,I 20] [ck N e a] (.tuple []) [ck N e2 a2]):=by
    cases hh:Kv d (dn[i.toNat]' AA)with
    |false=>exact⟨e,a,.inl ⟨rfl,rfl,rfl⟩⟩
    |true=>
     obtain⟨r,e2,a2,IE,rfl,h2,_⟩:=(Ik (N:=N) (e:=e) (a:=a) GY 20 AA).pc;exact⟨e2,a2,.inr ⟨rfl,h2,IE⟩⟩
   obtain⟨e2,a2,hB⟩:=AE2
   obtain⟨K,k,hK⟩:=ih (i+1) e2 a2 AA AA AA (λh=>by
    rcases hB with⟨_,h2,_⟩|⟨_,h2,_⟩
    .exact Jk he
    .exact Zq h h2)
   refine⟨K,k+1,λb eo bx bd s h=>?_⟩;have Ls:=h.i.h0;have dt:=h.hx;have Tt:=h.x0;show UW _ _ _ _ _ _ _ _ _ _ _ _ _ _ _ _;unfold UW;refine zv ?_;refine IU zh ?_;refine AT6 ?_ λh9=>?_
   .refine pQ_v Ab9 ?_;refine GI (Ly d _ AA) rfl rfl rfl rfl ?_;rcases hB with⟨Lz,rfl,rfl⟩|⟨Lz,L0,ma⟩
    .rw[Lz];refine zv ?_;unfold UR;refine zv ?_;rw[SY];exact hK b eo bx bd _ h
    .rw[Lz];refine zv ?_;refine Fy (GH zh AHX) ?_;refine GI ma rfl rfl AbQ rfl ?_;unfold UR;refine zv ?_;rw[SY];exact hK b eo bx bd _ h.box
   .exact AhC
  .obtain⟨K,hK⟩:=ID e a Jk;refine⟨K,1,λb eo bx bd s h=>?_⟩;have Ls:=h.i.h0;show UW _ _ _ _ _ _ _ _ _ _ _ _ _ _ _ _;unfold UW;refine zv ?_;refine IU zh ?_;refine GF (λh9=>?_) λ_=>gm hj0 hj hdl hK h;exact AdV
def AAS(hN:N.length<=60)(hS:S.length<=1000000000)(hM:M.length<=1000000000){l:List Item}(Xx:l.length<=100000)(hw:∀x∈l,x.WF)(AC4:∀x∈l,x.GB≠[]->ABb N nd S M x){W:Nat}(hW:W<=80000){e0:Int}{Q:PV->LLP->Prop}
  (hQ:∀e' a' (d:List BA),d.length<=W->(∀n∈d,Item.Mc n l)->(e'=0->e0=0/\∀x∈l,NI N nd S M x)->Q (.HL 1 (d.map GC)) [ck N e' a']):
  ∀(c:Nat) (j e a:Int) (d:List BA),0<=j->j<=l.length->l.length-j<=c->d.length+As (l.drop j.toNat)<=W->(∀n∈d,Item.Mc n l)->(e=0->e0=0/\∀(q:Nat) (h:q<l.length),(q:Int)<j->NI N nd S M l[q])->
   ∃K,∀(b eo:Nat) (s:St),xA N e a d b eo s->Mz 1 1 Q K (.GN 0 0) (.GV (l.map Aq)) (.GV (S.map GC)) (.GV (M.map GC)) (I nd) (.HL b (d.map GC)) (I j) s:=by
 intro c
 induction c with
 |zero=>
  intro j e a d h0 h1 hc hd hdP Jk;refine⟨1,λb eo s h=>?_⟩;have Ls:=h.h0;show UX _ _ _ _ _ _ _ _ _ _ _ _;unfold UX;refine zv ?_;refine IU zh ?_;refine AT7 (λh9=>?_) ?_
  .exact Afw
  .unfold mM;refine zv ?_;refine GW rfl (Ij h.hb h.ho Gz) AbQ (hQ _ _ _ AA hdP λhe=>⟨(Jk he).1,λx hx=>?_⟩);exact AhL
 |succ c ih=>
  intro j e a d h0 h1 hc hd hdP Jk;by_cases Iz:j<l.length/\e=0
  case neg=>
   refine⟨1,λb eo s h=>?_⟩;have Ls:=h.h0;show UX _ _ _ _ _ _ _ _ _ _ _ _;unfold UX;refine zv ?_;refine IU zh ?_;refine AT7 (λh9=>?_) ?_
   .exact AdV
   .unfold mM;refine zv ?_;refine GW rfl (Ij h.hb h.ho Gz) AbQ (hQ _ _ _ AA hdP λhe=>⟨(Jk he).1,λx hx=>?_⟩);obtain⟨q,hq,rfl⟩:=B4 hx;exact(Jk he).2 q hq (by by_cases hj:j<l.length;exact Zq ⟨hj,he⟩ Iz;omega)
  case pos=>
   obtain⟨G7,he⟩:=Iz;have rV:=Jk he;have Gl:=Tw h0 G7;have Pv:=Oh (l:=l) (q:=j.toNat) AA;generalize hg:l[j.toNat]' AA=x at Gl Pv;have hxm:x∈l:=by rw[<- hg];exact Bl _
   have vR:=hw x hxm
   have ID:∀e2 a2 (d2:List BA),(d2.length<=d.length+x.wt/\∀n∈d2,Item.Mc n l)->(e2=0->NI N nd S M x)->nc N Q (.GV (l.map Aq)) (.GV (S.map GC)) (.GV (M.map GC)) (I nd) j e2 a2 d2:=λe2 a2 d2 tY h2=>
    ih (j+1) e2 a2 d2 AA AA AA (by rw[show(j+1).toNat=j.toNat+1 by omega];have:=tY.1;omega) tY.2 λYI=>⟨rV.1,λq hq hqj=>by
     by_cases YM:(q:Int)<j
     .exact rV.2 q hq YM
     .have:q=j.toNat:=AA;subst this;rw[hg];exact h2 YI⟩
   cases I0:x.GB with
   |nil=>
    obtain⟨GL,ex,GB,GY⟩:=x;simp only[Item.GB]at I0;subst I0;cases vR with|mk _ _ _ _ hn hex _ _=>
    have lF:(Item.mk GL ex [] GY).wt=GL.length+ex.wt:=by simp[BF,Ax]
    obtain⟨K,k,hK⟩:=z5 (nd:=nd) (Q:=Q) (v2:=.GV (l.map Aq)) (j:=j) (e0:=e) (dl:=d.length+GL.length) hN hS hM hex hn (Item.cut (.mk GL ex [] GY)) (Item.r0 _) (Item.wF _) h0 AA AA (Pn:=λn=>Item.Mc n l) (λn hn=>Item.Rj hxm (by simp only[Item.Y0];exact .inl ⟨trivial,hn⟩))
     (λe2 a2 d2 h2 h3=>ID e2 a2 d2 ⟨by have:=h2.1;omega,h2.2⟩ λh4=> .eq _ _ _ _ _ (h3 h4).2.1 (h3 h4).2.2) GL.length 0 e a d AA AA AA AD hdP (λh=>⟨h,λq hq hq0=>by omega⟩)
    refine⟨K+1,λb eo s h=>?_⟩;have Ls:=h.h0;have AMY:=h.lt;have tc:=h.n0;have fN:=h.hb;show UX _ _ _ _ _ _ _ _ _ _ _ _;unfold UX;refine zv ?_;refine IU zh ?_;refine AT6 ?_ λh9=>?_
    case refine_2=>
     exact AhC
    refine Fy Acy ?_;refine pQ_v (IB (BK _)) ?_;refine pQ_v Abx ?_;refine pQ_v (GH zh (Item.Vj _)) ?_;refine⟨k,hK b eo s.next _ ⟨⟨zh,zh,h.ho,tc,by simp only[G1,HI];omega⟩,zh,AA,AA,by simp[G1,HI]⟩⟩
   |cons st GB=>
    obtain⟨r,e1,a1,IE,dn,rfl,hdn,AUv,h1'⟩:=(AC4 x hxm (by rw[I0];simp) e a).pc
    obtain⟨K,k,hK⟩:=qg (N:=N) (Q:=Q) (v2:=.GV (l.map Aq)) (v3:=.GV (S.map GC)) (v4:=.GV (M.map GC)) (v5:=I nd) (j:=j) (e0:=e1) (d:=d) (dn:=dn) h0 AA (Item.wF x) AA
     (λe2 a2 h2=>ID e2 a2 (d++dn) ⟨by simp;omega,λn hn=>(Bf.1 hn).elim (hdP n) λh=>Item.Rj hxm (AUv n h)⟩ λh3=>(h1' (h2 h3)).2) dn.length 0 e1 a1 AA AA AA id
    refine⟨K+1,λb eo s h=>?_⟩;have Ls:=h.h0;have AMY:=h.lt;have tc:=h.n0;have fN:=h.hb;show UX _ _ _ _ _ _ _ _ _ _ _ _;unfold UX;refine zv ?_;refine IU zh ?_;refine AT6 ?_ λh9=>?_
    case refine_2=>
     exact AhC
    refine Fy Acy ?_;refine pQ_v (IB (BK _)) ?_;refine pQ_v Abx ?_;refine pQ_v (GH zh (Item.Vj _)) ?_;rw[I0];refine AT6 ?_ (λh9=>by have:=Zy h9;simp at this);refine zv ?_;refine Fy (Hm zh (BK _)) ?_;refine ATj IE (zO rfl) rfl AbQ rfl ?_;refine⟨k,hK b eo s.next _ _ ⟨⟨zh,zh,h.ho,tc,by simp only[G1,HI,KB,MQ];omega⟩,zh,AA,AA,by simp only[G1,HI,KB,MQ];omega⟩⟩
def yJ(hN:N.length<=60)(hS:S.length<=1000000000)(hM:M.length<=1000000000){l:List Item}(Xx:l.length<=100000)(hw:∀x∈l,x.WF)(hW:As l<=80000)(AC4:∀x∈l,x.GB≠[]->ABb N nd S M x)(e a:Int):
  CF N 86 [.GV (l.map Aq),.GV (S.map GC),.GV (M.map GC),I nd] e a λr e' a'=>∃d:List BA,r=.HL 1 (d.map GC)/\d.length<=As l/\(∀n∈d,Item.Mc n l)/\(e'=0->e=0/\∀x∈l,NI N nd S M x):=by
 obtain⟨K,hK⟩:=AAS (nd:=nd) (W:=As l) (e0:=e) (Q:=λr c=>∃e' a',c=[ck N e' a']/\∃d:List BA,r=.HL 1 (d.map GC)/\d.length<=As l/\(∀n∈d,Item.Mc n l)/\(e'=0->e=0/\∀x∈l,NI N nd S M x)) hN hS hM Xx hw AC4 hW
  (λe' a' d h1 h3 h2=>⟨e',a',rfl,d,rfl,h1,h3,h2⟩) l.length 0 e a [] AA AA AA AD AcV (λh=>⟨h,λq hq hq0=>by omega⟩)
 refine ALM 1 rfl _ _ _ _ _ ?_;unfold c86;refine zv ?_;exact⟨K,hK _ 0 _ ⟨zh,zh,.inl rfl,AA,by simp[G1,IG]⟩⟩
end
end
section
open Go.Proofs
def AEq(f o:List BA):Bool:=(f.length==o.length)&&o.all λx=>Kv f x
def bp(f o:List BA)(Pj i:Int):Int:=if !(AEq f o)&&decide (Pj<0)then i else Pj
attribute [local irreducible] PA QG Ob OP NT NR NU NQ MX UE
section
variable{N:List GO} {S M:List BA} {nd:Int} {Q:PV->LLP->Prop} {v2 v3 v4 v6:PV}
def RA(N:List GO)(Q:PV->LLP->Prop)(v2 v3 v4 v6:PV)(GG:LP)(i:Int)(e a:Int)(f:List BA)(Pj:Int):Prop:=∃K,∀(b eo bx:Nat) (s:St),RB N e a f b eo bx GG s->Ji 1 1 Q K (.GN 0 0) v2 v3 v4 (.GN bx 0) v6 (.HL b (f.map GC)) (I Pj) (I i) s
def nU{GG:LP}{i:Int}(hi:0<=i)(Ml:i<=100000){e a:Int}{f o:List BA}(hf:f.length<=90000)(ho:o.length<=90000){Pj:Int}{K:Nat}(hK:∀(b eo bx:Nat) (s:St),RB N e a f b eo bx GG s->Ji 1 1 Q K (.GN 0 0) v2 v3 v4 (.GN bx 0) v6 (.HL b (f.map GC)) (I (bp f o Pj i)) (I (i+1)) s):
  ∀c:Nat,∃k,∀(j:Int) (b eo bx bo:Nat) (s:St),0<=j->j<=o.length->o.length-j<=c->RB N e a f b eo bx GG s->
   Z0 1 1 Q (Ji 1 1 Q K) k (.GN 0 0) v2 v3 v4 (.GN bx 0) v6 (.HL b (f.map GC)) (I Pj) (I i) (.HL bo (o.map GC)) (.bool ((f.length==o.length)&&(o.take j.toNat).all λx=>Kv f x)) (I j) s:=by
 have SY:=AZi i
 have fin:∀(b eo bx:Nat) (s:St),RB N e a f b eo bx GG s->OP 1 1 Q (Ji 1 1 Q K) (.GN 0 0) v2 v3 v4 (.GN bx 0) v6 (.HL b (f.map GC)) (I Pj) (I i) (.bool (AEq f o)) s:=by
  intro b eo bx s h;have h9:=hK b eo bx s h;unfold OP;cases hs:AEq f o
  .refine zv ?_;cases hd:decide (Pj<0)
   .exact Af4
   .exact Af4
  .refine zv ?_;unfold Ob;refine zv ?_;rw[SY];simp only[bp,hs]at h9;exact h9
 intro c
 induction c with
 |zero=>
  refine⟨1,λj b eo bx bo s h0 h1 hc h=>?_⟩;have hj:j.toNat=o.length:=AA;show TX _ _ _ _ _ _ _ _ _ _ _ _ _ _ _ _ _ _;unfold TX;refine zv ?_;refine AT7 (λh9=>?_) ?_
  .exact Adb
  .exact Aha
 |succ c ih=>
  obtain⟨k,ih⟩:=ih;refine⟨k+1,λj b eo bx bo s h0 h1 hc h=>?_⟩;show TX _ _ _ _ _ _ _ _ _ _ _ _ _ _ _ _ _ _;unfold TX;refine zv ?_;refine GF (λh9=>?_) λh9=>?_
  .have G7:j<o.length:=by have:=Ot h9;rw[Bb]at this;omega
   have OH:=AZi j;have Wy:=ih (j+1) b eo bx bo s AA AA AA h;rw[show(j+1).toNat=j.toNat+1 by omega,Cm (show j.toNat<o.length by omega),List.all_append,<- Bool.and_assoc]at Wy;simp only[Co,List.all_nil,Bool.and_true]at Wy;cases hs:(f.length==o.length)&&(o.take j.toNat).all λx=>Kv f x
   .rw[hs]at Wy;refine zv ?_;rw[OH];exact Wy
   .rw[hs]at Wy;refine zv ?_;refine AYo Ab9 ?_;refine ASI (Ly f _ AA) rfl rfl rfl rfl ?_;rw[OH];exact Wy
  .have hge:¬j<o.length:=by have:=Zy h9;rw[Bb]at this;omega
   have hj:j.toNat=o.length:=AA;exact Aha
def yI(f o:List BA):(((f.map GC).length:Int)==((o.map GC).length:Int))=(f.length==o.length):=by rw[Bb,Bb,Bool.eq_iff_iff,beq_iff_eq,beq_iff_eq];omega
def nF{GG:LP}{i:Int}(hi:0<=i)(Ml:i<=100000){e a:Int}{f o:List BA}(hf:f.length<=90000)(ho:o.length<=90000){Pj:Int}(ID:∀f' Pd,(f'=f\/f'=o)->(Pd=Pj\/Pd=i)->RA N Q v2 v3 v4 v6 GG (i+1) e a f' Pd):
  ∃K,∀(b eo bx bo z0:Nat) (s:St),RB N e a f b eo bx GG s->xA N e a o bo z0 s->bx≠bo->
   NR 1 1 Q (Ji 1 1 Q K) (.GN 0 0) v2 v3 v4 (.GN bx 0) v6 (.HL b (f.map GC)) (I Pj) (I i) (.HL bo (o.map GC)) s:=by
 have ARL:∀f',bp f' o Pj i=Pj\/bp f' o Pj i=i:=λf'=>by unfold bp;split<;>simp
 by_cases h0:i=0
 .obtain⟨K,hK⟩:=ID o (bp o o Pj i) (.inr rfl) (ARL o);obtain⟨k,hk⟩:=nU (v2:=v2) (v3:=v3) (v4:=v4) (v6:=v6) (Q:=Q) hi Ml ho ho hK o.length;refine⟨K,λb eo bx bo z0 s h mj fN=>?_⟩;unfold NR;refine zv ?_;refine AT6 ?_ (λh9=>Zq h0 AI);refine zv ?_;unfold NT;refine zv ?_;refine⟨k,?_⟩;rw[yI];have h8:=hk 0 bo z0 bx bo s AA AA AA ⟨mj,h.hx,h.x0,fN,h.xlt⟩;simpa using h8
 .obtain⟨K,hK⟩:=ID f (bp f o Pj i) (.inl rfl) (ARL f);obtain⟨k,hk⟩:=nU (v2:=v2) (v3:=v3) (v4:=v4) (v6:=v6) (Q:=Q) hi Ml hf ho hK o.length;refine⟨K,λb eo bx bo z0 s h mj fN=>?_⟩;unfold NR;refine zv ?_;refine GF (λh9=>Zq AI h0) λ_=>?_;unfold NT;refine zv ?_;refine⟨k,?_⟩;rw[yI];have h8:=hk 0 b eo bx bo s AA AA AA h;simpa using h8
def vq{GG:LP}{i:Int}(hi:0<=i)(Ml:i<=100000){e a:Int}{f d ow:List BA}(hf:f.length<=90000)(hd:d.length<=80000)(how:ow.length<=1000000000){Pj:Int}
  (ID:∀f' Pd,(f'=f\/(f'.length<=d.length/\∀n∈f',n∈d/\Kv ow n=false))->(Pd=Pj\/Pd=i)->RA N Q v2 v3 v4 v6 GG (i+1) e a f' Pd):
  ∀(c:Nat) (j:Int) (o:List BA),0<=j->j<=d.length->d.length-j<=c->(o.length:Int)<=j->(∀n∈o,n∈d/\Kv ow n=false)->∃K k,∀(b eo bx bo z0 bd bw:Nat) (s:St),RB N e a f b eo bx GG s->xA N e a o bo z0 s->bx≠bo->b≠bo->
   Vw 1 1 Q (Ji 1 1 Q K) k (.GN 0 0) v2 v3 v4 (.GN bx 0) v6 (.HL b (f.map GC)) (I Pj) (I i) (.HL bw (ow.map GC)) (.HL bd (d.map GC)) (.HL bo (o.map GC)) (I j) s:=by
 intro c
 induction c with
 |zero=>
  intro j o h0 h1 hc ho hoP;exact Ahi
 |succ c ih=>
  intro j o h0 h1 hc ho hoP;by_cases G7:j<d.length
  case neg=>
   exact Ahi
  have OH:=AZi j;cases hh:Kv ow (d[j.toNat]' AA)with
  |true=>
   obtain⟨K,k,hK⟩:=ih (j+1) o AA AA AA AA hoP;refine⟨K,k+1,λb eo bx bo z0 bd bw s h mj fN L0=>?_⟩;show Np _ _ _ _ _ _ _ _ _ _ _ _ _ _ _ _ _ _ _;unfold Np;refine zv ?_;refine AT6 ?_ λh9=>?_
   .refine pQ_v Ab9 ?_;refine AZa (Ly ow _ how) ?_;rw[hh];refine zv ?_;unfold NU;refine zv ?_;rw[OH];exact hK b eo bx bo z0 bd bw _ h mj fN L0
   .exact Adu
  |false=>
   obtain⟨K,k,hK⟩:=ih (j+1) (o++[d[j.toNat]' AA]) AA AA AA AB (λn hn=>by
    rcases Bf.1 hn with hn|hn
    .exact hoP n hn
    .rw[By.1 hn];exact⟨Bl _,hh⟩)
   have L7:(o++[d[j.toNat]' AA]).map GC=o.map GC++[[.Gh (d[j.toNat]' AA)]]:=by rw[Bu];rfl
   refine⟨K,k+1,λb eo bx bo z0 bd bw s h mj fN L0=>?_⟩;have mn:=mj.hb;have AVc:=mj.n0;have AVe:=mj.lt;have Ls:=h.i.h0;have rN:=h.i.n0;have hbh:=h.i.hb;have dt:=h.hx;show Np _ _ _ _ _ _ _ _ _ _ _ _ _ _ _ _ _ _ _;unfold Np;refine zv ?_;refine AT6 ?_ λh9=>?_
   .refine pQ_v Ab9 ?_;refine AZa (Ly ow _ how) ?_;rw[hh];refine zv ?_;refine pQ_v Ab9 ?_;refine pQ_v (Jp rfl rfl (G4 AB AA) (HQ Gz) zh (mj.ho.imp (λh=>by rw[h];rfl) λh=>h.symm)) ?_;unfold NU;refine zv ?_;rw[OH,<- L7];refine hK b eo bx bo 1 bd bw _ ⟨⟨zh,zh,h.i.ho,rN,h.i.lt⟩,zh,h.x0,h.xb,h.xlt⟩ ⟨zh,?_,.inr rfl,AVc,AVe⟩ fN L0;exact AhR
   .exact Adu
end
end
section
open Go.Proofs
structure ni (N:List GO) (e a:Int) (f:List ByteArray) (b eo bx:Nat) (GG:List PV) (bs:Nat) (Pl:List PV) (s:St):Prop where
 i:RB N e a f b eo bx GG s
 hs:s.heap bs=some (.box Pl)
 s0:bs≠0
 sb:bs≠b
 sx:bs≠bx
 slt:bs<s.next
section
variable{N:List GO} {e a e' a':Int} {f:List BA} {b eo bx:Nat} {GG:LP} {bs:Nat} {Pl:LP} {s:St}
def xA.new(h:xA N e a f b eo s)(h0:0<s.next)(o:Obj):xA N e a f b eo (s.new o):=
 have G7:=h.lt
 ⟨(Av rfl AA).trans h.h0,(Av rfl AA).trans h.hb,h.ho,h.n0,by rw[G1];omega⟩
def RB.new(h:RB N e a f b eo bx GG s)(o:Obj):RB N e a f b eo bx GG (s.new o):=
 have G7:=h.xlt
 ⟨h.i.new AA o,(Av rfl AA).trans h.hx,h.x0,h.xb,by rw[G1];omega⟩
def ni.oth(h:ni N e a f b eo bx GG bs Pl s){k:Nat}(hk:k≠0)(hb:b≠k)(hx:bx≠k)(hs:bs≠k)(o:Obj):ni N e a f b eo bx GG bs Pl (s.set k o):=⟨⟨⟨(Ar AA).trans h.i.i.h0,(Ar hb).trans h.i.i.hb,h.i.i.ho,h.i.i.n0,h.i.i.lt⟩,(Ar hx).trans h.i.hx,h.i.x0,h.i.xb,h.i.xlt⟩,(Ar hs).trans h.hs,h.s0,h.sb,h.sx,h.slt⟩
end
attribute [local irreducible] PA QG Ob OP NT NR NU NQ MX UE
section
variable{N:List GO} {S M:List BA} {nd:Int} {Q:PV->LLP->Prop} {v2 v3:PV}
def ABH(hN:N.length<=60){T S' ow d f:List BA}(hT:T.length<=1000000000)(hS':S'.length<=1000000000){Jg:List Gj}(hw:NN.WF Jg){GG Pl:LP}(ju:Pl[2]?=some (.GV (Jg.map Aw)))
  {i:Int}(hi:0<=i)(Ml:i<=100000){e a:Int}(hf:f.length<=90000)(hd:d.length<=80000)(how:ow.length<=1000000000){Pj:Int}{uM:Nat}
  (ZF:∀e' a',e'≠0->Q (.HL 1 []) [ck N e' a'])
  (ID:∀e' a' f' Pd,e'=0->e=0->(∀t∈Jg,OM N S' nd t.cond)->(f'=f\/(f'.length<=d.length/\∀n∈f',n∈d/\Kv ow n=false))->(Pd=Pj\/Pd=i)->RA N Q v2 v3 (I nd) (.HL uM (T.map GC)) GG (i+1) e' a' f' Pd):
  ∃K,∀(b eo bx bs bi bw bd:Nat) (s:St),ni N e a f b eo bx GG bs Pl s->
   NQ 1 1 Q (Ji 1 1 Q K) (.GN 0 0) v2 v3 (I nd) (.GN bx 0) (.HL uM (T.map GC)) (.HL b (f.map GC)) (I Pj) (I i) (.GN bs 0) (.HL bi (S'.map GC)) (.HL bw (ow.map GC)) (.HL bd (d.map GC)) s:=by
 obtain⟨r,e1,a1,IE,rfl,h1⟩:=(tO (nd:=nd) hN hS' hT hw e a).pc;by_cases Nl:e1=0
 .obtain⟨g1,g2⟩:=h1 Nl;obtain⟨K,k,hK⟩:=vq (v2:=v2) (v3:=v3) (v4:=I nd) (v6:=.HL uM (T.map GC)) (Q:=Q) (N:=N) (GG:=GG) (e:=e1) (a:=a1) (Pj:=Pj) hi Ml hf hd how (λf' Pd h2 h3=>ID e1 a1 f' Pd Nl g1 g2 h2 h3) d.length 0 [] AA AA AA AD AcV;refine⟨K,λb eo bx bs bi bw bd s h=>?_⟩;have lE:=h.hs;have Ls:=h.i.i.h0;have gK:=h.s0;have La:=h.slt;have hbl:=h.i.i.lt;have rj:=h.i.xlt;unfold NQ;refine zv ?_;refine Fy (GH zh ju) ?_;refine ATj IE rfl rfl AbQ rfl ?_;refine GF (λh9=>Zq Nl AI) λ_=>?_;refine zv ?_;refine⟨k,hK b eo bx s.next 0 bd bw _ (h.i.box.new _) ⟨zh,zh,.inl rfl,AA,by simp only[G1,HI,Gx,MQ];omega⟩ AA AA⟩
 .refine⟨0,λb eo bx bs bi bw bd s h=>?_⟩;have lE:=h.hs;have Ls:=h.i.i.h0;have gK:=h.s0;have La:=h.slt;unfold NQ;refine zv ?_;refine Fy (GH zh ju) ?_;exact Ae4
def pW(hN:N.length<=60){T S' ow d f:List BA}(hT:T.length<=1000000000)(hS':S'.length<=1000000000){Jg:List Gj}(hw:NN.WF Jg){GA:List Ge}(Xx:GA.length<=100000){GG Pl:LP}(ju:Pl[2]?=some (.GV (Jg.map Aw)))(eu:Pl[3]?=some (.GV (GA.map Am)))
  {i:Int}(hi:0<=i)(Ml:i<=100000){e a:Int}(hf:f.length<=90000)(hd:d.length<=80000)(how:ow.length<=1000000000){Pj:Int}{uM:Nat}
  (ZF:∀e' a',e'≠0->Q (.HL 1 []) [ck N e' a'])
  (ID:(∀v∈GA,Kv d v.name=true)->∀e' a' f' Pd,e'=0->e=0->(∀t∈Jg,OM N S' nd t.cond)->(f'=f\/(f'.length<=d.length/\∀n∈f',n∈d/\Kv ow n=false))->(Pd=Pj\/Pd=i)->RA N Q v2 v3 (I nd) (.HL uM (T.map GC)) GG (i+1) e' a' f' Pd):
  ∀(c:Nat) (j:Int),0<=j->j<=GA.length->GA.length-j<=c->(∀(q:Nat) (h:q<GA.length),(q:Int)<j->Kv d GA[q].name=true)->∃K k,∀(b eo bx bs bi bw bd:Nat) (s:St),ni N e a f b eo bx GG bs Pl s->
   aA 1 1 Q (Ji 1 1 Q K) k (.GN 0 0) v2 v3 (I nd) (.GN bx 0) (.HL uM (T.map GC)) (.HL b (f.map GC)) (I Pj) (I i) (.GN bs 0) (.HL bi (S'.map GC)) (.HL bw (ow.map GC)) (.HL bd (d.map GC)) (I j) s:=by
 have ZL:=λJO=>ABH (v2:=v2) (v3:=v3) (Q:=Q) (a:=a) hN hT hS' hw ju hi Ml hf hd how ZF (ID JO);intro c
 induction c with
 |zero=>
  intro j h0 h1 hc JO;exact Ahk
 |succ c ih=>
  intro j h0 h1 hc JO;by_cases G7:j<GA.length
  case neg=>
   exact Ahk
  have OH:=AZi j;cases hh:Kv d (GA[j.toNat]' AA).name with
  |true=>
   obtain⟨K,k,hK⟩:=ih (j+1) AA AA AA (λq hq hqj=>by
    by_cases YM:(q:Int)<j
    .exact JO q hq YM
    .have:q=j.toNat:=AA;subst this;exact hh)
   refine⟨K,k+1,λb eo bx bs bi bw bd s h=>?_⟩;have lE:=h.hs;have Ls:=h.i.i.h0;have gK:=h.s0;have La:=h.slt;show Nq _ _ _ _ _ _ _ _ _ _ _ _ _ _ _ _ _ _ _ _;unfold Nq;refine zv ?_;refine pQ_v (GH zh eu) ?_;refine AT6 ?_ λh9=>?_
   .refine zv ?_;refine Fy (GH zh eu) ?_;refine pQ_v AcU ?_;refine GI (Ly d _ AA) rfl rfl rfl rfl ?_;rw[hh];refine zv ?_;rw[OH];exact hK b eo bx bs bi bw bd _ h
   .exact Adu
  |false=>
   obtain⟨r,e2,a2,I4,rfl,YI,_⟩:=(Ik (N:=N) (e:=e) (a:=a) (GA[j.toNat]' AA).GY 24 AA).pc;refine⟨0,1,λb eo bx bs bi bw bd s h=>?_⟩;have lE:=h.hs;have Ls:=h.i.i.h0;have gK:=h.s0;have La:=h.slt;show Nq _ _ _ _ _ _ _ _ _ _ _ _ _ _ _ _ _ _ _ _;unfold Nq;refine zv ?_;refine pQ_v (GH zh eu) ?_;refine AT6 ?_ λh9=>?_
   .refine zv ?_;refine Fy (GH zh eu) ?_;refine pQ_v AcU ?_;refine GI (Ly d _ AA) rfl rfl rfl rfl ?_;rw[hh];refine zv ?_;refine Fy (GH zh eu) ?_;refine pQ_v AcU ?_;refine ATj I4 rfl rfl AbQ rfl ?_;refine GW rfl rfl AbQ (ZF _ _ YI)
   .exact Adu
end
end
section
open Go.Proofs
def xB(N:List GO)(nd:Int)(S M:List BA)(l:List Item):Prop:=∀e a,CF N 86 [.GV (l.map Aq),.GV (S.map GC),.GV (M.map GC),I nd] e a λr e' a'=>∃d:List BA,r=.HL 1 (d.map GC)/\d.length<=As l/\(∀n∈d,Item.Mc n l)/\(e'=0->e=0/\∀x∈l,NI N nd S M x)
def Wr{S:List BA}{w:BA}(h:Kv S w=true):w∈S:=by
 obtain⟨x,hx,he⟩:=OV.1 h
 have:x=w:=by
  have:=congrArg List.toArray he;cases x;cases w;simp_all [C8]
 rw[<- this];exact hx
def AHD{S:List BA}{w:BA}(h:Kv S w=false):w∉S:=λhm=>by rw[OV.2 ⟨w,hm,rfl⟩]at h;cases h
attribute [local irreducible] PA QG Ob OP NT NR NU NQ MX UE
section
variable{N:List GO} {S M T:List BA} {nd:Int} {Q:PV->LLP->Prop}
def wW(hN:N.length<=60)(hS:S.length<=900000000)(hM:M.length<=70000)(hT:T.length<=1000000000){nm:BA}{JB Jg:List Gj}{GA:List Ge}{GQ:List Item}{GY:Int}(hw:(GD.mk nm JB Jg GA GQ GY).WF)(hwl:GA.length<=20000)(Pv:As GQ<=80000)
  (Tp:xB N nd (S++GA.map Ao) (M++GA.map Ao) GQ){GG:LP}{i:Int}(hi:0<=i)(Ml:i<=100000){e a:Int}{f:List BA}(hf:f.length<=90000){Pj:Int}{uM:Nat}
  (ZF:∀e' a',e'≠0->Q (.HL 1 []) [ck N e' a'])
  (ID:∀e' a' f' Pd,e'=0->e=0->(∀t∈JB,OM N S nd t.cond)->(∀x∈GQ,NI N nd (S++GA.map Ao) (M++GA.map Ao) x)->(∀t∈Jg,OM N (S++GA.map Ao) nd t.cond)->(∀v∈GA,Item.Mc v.name GQ)->(f'=f\/(f'.length<=As GQ/\∀n∈f',(GD.mk nm JB Jg GA GQ GY).Y0 n))->(Pd=Pj\/Pd=i)->
   RA N Q (.GV (S.map GC)) (.GV (M.map GC)) (I nd) (.HL uM (T.map GC)) GG (i+1) e' a' f' Pd):
  ∃K,∀(b eo bx bs bi:Nat) (s:St),ni N e a f b eo bx GG bs (GD.mk nm JB Jg GA GQ GY).GG s->
   MX 1 1 Q (Ji 1 1 Q K) (.GN 0 0) (.GV (S.map GC)) (.GV (M.map GC)) (I nd) (.GN bx 0) (.HL uM (T.map GC)) (.HL b (f.map GC)) (I Pj) (I i) (.GN bs 0) (.HL bi ((S++GA.map Ao).map GC)) s:=by
 cases hw with|mk _ _ _ _ _ _ SY S3 hw3 hw4 hw5=>
 obtain⟨r,e1,a1,IE,rfl,h1⟩:=(tO (nd:=nd) hN (S:=S) AA hT SY e a).pc;rw[Rg];by_cases Nl:e1=0
 case neg=>
  refine⟨0,λb eo bx bs bi s h=>?_⟩;have lE:=h.hs;have Ls:=h.i.i.h0;have gK:=h.s0;have La:=h.slt;unfold MX;refine zv ?_;exact Ae4
 obtain⟨g1,g2⟩:=h1 Nl;obtain⟨r,e2,a2,I4,d,rfl,hd,hdP,h2⟩:=(Tp e1 a1).pc;have Ww:=XU GA AA;have AMb:M.map GC++(GA.map Ao).map GC=(M++GA.map Ao).map GC:=by rw[Bu]
 by_cases YI:e2=0
 case neg=>
  refine⟨0,λb eo bx bs bi s h=>?_⟩;have lE:=h.hs;have Ls:=h.i.i.h0;have gK:=h.s0;have La:=h.slt;unfold MX;refine zv ?_;refine ATj IE rfl rfl AbQ rfl ?_;refine GF (λh9=>Zq Nl AI) λ_=>?_;refine zv ?_;refine AZb Ww ?_;refine GR Aby ?_;refine GR AbY ?_;rw[AMb];refine ASI I4 rfl rfl AbQ rfl ?_;refine⟨?_,?_⟩
  .exact Aer
  refine zv ?_;refine AT6 ?_ (λh9=>Zq AI YI);refine zv ?_;refine GW rfl rfl AbQ (ZF _ _ YI)
 case pos=>
  obtain⟨q1,q2⟩:=h2 YI
  obtain⟨K,k,hK⟩:=pW (v2:=.GV (S.map GC)) (v3:=.GV (M.map GC)) (Q:=Q) (S':=S++GA.map Ao) (ow:=GA.map Ao) (d:=d) (f:=f) (Pj:=Pj) (uM:=uM) (Pl:=[.Gh nm,.GV (JB.map Aw),.GV (Jg.map Aw),.GV (GA.map Am),.GV (GQ.map Aq),I GY]) (GG:=GG) (e:=e2) (a:=a2) hN hT AB S3 AA rfl rfl hi Ml hf AA AB ZF
   (λJO e' a' f' Pd h3 h4 h5 h6 h7=>ID e' a' f' Pd h3 g1 g2 q2 h5 (λv hv=>hdP _ (Wr (JO v hv))) (h6.imp id λh=>⟨by have:=h.1;omega,λn hn=>by simp only[GD.Y0];exact⟨AHD (h.2 n hn).2,hdP n (h.2 n hn).1⟩⟩) h7) GA.length 0 AA AA AA (λq hq hq0=>by omega)
  refine⟨K,λb eo bx bs bi s h=>?_⟩;have lE:=h.hs;have Ls:=h.i.i.h0;have gK:=h.s0;have La:=h.slt;unfold MX;refine zv ?_;refine ATj IE rfl rfl AbQ rfl ?_;refine GF (λh9=>Zq Nl AI) λ_=>?_;refine zv ?_;refine AZb Ww ?_;refine GR Aby ?_;refine GR AbY ?_;rw[AMb];refine ASI I4 rfl rfl AbQ rfl ?_;refine⟨?_,?_⟩
  .exact Aer
  refine zv ?_;refine GF (λh9=>Zq YI AI) λ_=>?_;have hbl:=h.i.i.lt;have rj:=h.i.xlt;refine⟨k,hK b eo bx bs bi _ _ _ ?_⟩;have hbh:=h.i.i.hb;have rN:=h.i.i.n0;have dt:=h.i.hx;have Tt:=h.i.x0;exact⟨⟨⟨zh,zh,h.i.i.ho,rN,by simp only[G1,HI,Gx,KB,MQ,Jl];omega⟩,zh,Tt,h.i.xb,by simp only[G1,HI,Gx,KB,MQ,Jl];omega⟩,zh,gK,h.sb,h.sx,by simp only[G1,HI,Gx,KB,MQ,Jl];omega⟩
end
end
section
open Go.Proofs
def AC1{S:List BA}{l:List Ge}{q:Nat}(h:q<l.length):S++(l.map Ao).take q++[l[q].name]=S++(l.map Ao).take (q+1):=by rw[Cm AE,B3];simp
def GD.Vb(x:GD):x.GG.all PV.IT=true:=by rw[GD.IC];rfl
def VF{l:List GD}{q:Nat}(h:q<l.length):l[q].wt<=Ax l:=by
 have h1:l=l.take q++l[q]::l.drop (q+1):=by
  rw[<- Bt h,CX]
 have h2:Ax l=Ax (l.take q++l[q]::l.drop (q+1)):=congrArg _ h1;rw[GD.HY]at h2;simp only[Ax]at h2;omega
attribute [local irreducible] PA QG Ob OP NT NR NU NQ MX UE
section
variable{N:List GO} {S M T:List BA} {nd:Int} {Q:PV->LLP->Prop} {v3 v4 v6:PV}
def ADu{GA:List Ge}(Xx:GA.length<=20000)(hS:S.length<=70000){GG Pl:LP}(eu:Pl[3]?=some (.GV (GA.map Am))){i:Int}{e a:Int}{f:List BA}{Pj:Int}
  (ZF:∀e' a',e'≠0->Q (.HL 1 []) [ck N e' a'])
  (ZL:(∀(q:Nat) (h:q<GA.length),Kv (S++(GA.map Ao).take q) GA[q].name=false)->∃K,∀(b eo bx bs bi:Nat) (s:St),ni N e a f b eo bx GG bs Pl s->
   MX 1 1 Q (Ji 1 1 Q K) (.GN 0 0) (.GV (S.map GC)) v3 v4 (.GN bx 0) v6 (.HL b (f.map GC)) (I Pj) (I i) (.GN bs 0) (.HL bi ((S++GA.map Ao).map GC)) s):
  ∀(c:Nat) (j:Int),0<=j->j<=GA.length->GA.length-j<=c->(∀(q:Nat) (h:q<GA.length),(q:Int)<j->Kv (S++(GA.map Ao).take q) GA[q].name=false)->∃K k,∀(b eo bx bs bi eoi:Nat) (s:St),ni N e a f b eo bx GG bs Pl s->xA N e a (S++(GA.map Ao).take j.toNat) bi eoi s->b≠bi->bx≠bi->bs≠bi->
   Vx 1 1 Q (Ji 1 1 Q K) k (.GN 0 0) (.GV (S.map GC)) v3 v4 (.GN bx 0) v6 (.HL b (f.map GC)) (I Pj) (I i) (.GN bs 0) (.HL bi ((S++(GA.map Ao).take j.toNat).map GC)) (I j) s:=by
 have done:∀(j:Int),0<=j->j=GA.length->(∀(q:Nat) (h:q<GA.length),(q:Int)<j->Kv (S++(GA.map Ao).take q) GA[q].name=false)->∃K k,∀(b eo bx bs bi eoi:Nat) (s:St),ni N e a f b eo bx GG bs Pl s->xA N e a (S++(GA.map Ao).take j.toNat) bi eoi s->b≠bi->bx≠bi->bs≠bi->
   Vx 1 1 Q (Ji 1 1 Q K) k (.GN 0 0) (.GV (S.map GC)) v3 v4 (.GN bx 0) v6 (.HL b (f.map GC)) (I Pj) (I i) (.GN bs 0) (.HL bi ((S++(GA.map Ao).take j.toNat).map GC)) (I j) s:=by
  intro j h0 hj hd;obtain⟨K,hK⟩:=ZL λq h=>hd q h AA;refine⟨K,1,λb eo bx bs bi eoi s h hi fN hxb Ur=>?_⟩;have lE:=h.hs;have Ls:=h.i.i.h0;have gK:=h.s0;have ht:(GA.map Ao).take j.toNat=GA.map Ao:=Cc (by rw[Bb];omega);show QA _ _ _ _ _ _ _ _ _ _ _ _ _ _ _ _ _ _;unfold QA;refine zv ?_;refine pQ_v (GH zh eu) ?_;refine AT7 (λh9=>?_) ?_
  .exact Adb
  .rw[ht];exact hK b eo bx bs bi _ h
 intro c
 induction c with
 |zero=>exactλj h0 h1 hc hd=>done j h0 AA hd
 |succ c ih=>
  intro j h0 h1 hc hd;by_cases G7:j<GA.length
  case neg=>exact done j h0 AA hd
  have OH:=AZi j;have HM:(S++(GA.map Ao).take j.toNat).length<=90000:=by simp;omega
  cases hh:Kv (S++(GA.map Ao).take j.toNat) (GA[j.toNat]' AA).name with
  |true=>
   obtain⟨r,e2,a2,I4,rfl,YI,_⟩:=(Ik (N:=N) (e:=e) (a:=a) (GA[j.toNat]' AA).GY 20 AA).pc;refine⟨0,1,λb eo bx bs bi eoi s h hi fN hxb Ur=>?_⟩;have lE:=h.hs;have Ls:=h.i.i.h0;have gK:=h.s0;have La:=h.slt;show QA _ _ _ _ _ _ _ _ _ _ _ _ _ _ _ _ _ _;unfold QA;refine zv ?_;refine pQ_v (GH zh eu) ?_;refine AT6 ?_ λh9=>?_
   .refine zv ?_;refine Fy (GH zh eu) ?_;refine pQ_v (Gk h0 (Io h0 G7) rfl) ?_;refine GI (Ly _ _ AA) rfl rfl rfl rfl ?_;rw[hh];refine zv ?_;refine Fy (GH zh eu) ?_;refine pQ_v (Gk h0 (Io h0 G7) rfl) ?_;exact Afr
   .exact Adu
  |false=>
   obtain⟨K,k,hK⟩:=ih (j+1) AA AA AA (λq hq hqj=>by
    by_cases YM:(q:Int)<j
    .exact hd q hq YM
    .have:q=j.toNat:=AA;subst this;exact hh)
   have pJ:S++(GA.map Ao).take (j+1).toNat=S++(GA.map Ao).take j.toNat++[(GA[j.toNat]' AA).name]:=by
    rw[AC1 AA,show(j+1).toNat=j.toNat+1 by omega]
   have L7:(S++(GA.map Ao).take j.toNat++[(GA[j.toNat]' AA).name]).map GC=(S++(GA.map Ao).take j.toNat).map GC++[[.Gh (GA[j.toNat]' AA).name]]:=by rw[Bu];rfl
   rw[pJ]at hK;refine⟨K,k+1,λb eo bx bs bi eoi s h hi fN hxb Ur=>?_⟩;have lE:=h.hs;have Ls:=h.i.i.h0;have gK:=h.s0;have La:=h.slt;have cL:=hi.hb;have cK:=hi.n0;have hbh:=h.i.i.hb;have dt:=h.i.hx;show QA _ _ _ _ _ _ _ _ _ _ _ _ _ _ _ _ _ _;unfold QA;refine zv ?_;refine pQ_v (GH zh eu) ?_;refine AT6 ?_ λh9=>?_
   .refine zv ?_;refine Fy (GH zh eu) ?_;refine pQ_v (Gk h0 (Io h0 G7) rfl) ?_;refine GI (Ly _ _ AA) rfl rfl rfl rfl ?_;rw[hh];refine zv ?_;refine Fy (GH zh eu) ?_;refine pQ_v (Gk h0 (Io h0 G7) rfl) ?_;refine pQ_v (Jp rfl rfl (G4 (by rw[Bb];show _+1<=_;omega) AA) (HQ Gz) zh (hi.ho.imp (λh=>by rw[h];rfl) λh=>h.symm)) ?_;rw[OH,<- L7];refine hK b eo bx bs bi 1 _ (h.oth cK fN hxb Ur _) ⟨zh,?_,.inr rfl,cK,hi.lt⟩ fN hxb Ur;exact AhR
   .exact Adu
end
end
section
open Go.Proofs
attribute [local irreducible] PA QG Ob OP NT NR NU NQ MX UE
section
variable{N:List GO} {S M T:List BA} {nd:Int} {Q:PV->LLP->Prop}
def ABy{x:Item}{e a Pj:Int}(ho:Pj<x.GB.length){f:List BA}(hQ:∀e' a',(e'=0->e=0)->Q (.HL 1 (f.map GC)) [ck N e' a']){b eo bx:Nat}{s:St}(h:RB N e a f b eo bx x.GG s):
  QG 1 1 Q (.GN 0 0) (.GN bx 0) (.HL b (f.map GC)) (I Pj) s:=by
 have Ls:=h.i.h0;have dt:=h.hx;have Tt:=h.x0;have rN:=h.i.n0;have hbh:=h.i.hb;unfold QG;refine zv ?_;refine IU zh ?_;refine AT7 (λh9=>?_) ?_
 .simp only[Bo,decide_eq_true_eq,beq_iff_eq]at h9;refine zv ?_;refine Fy Acl ?_;refine pQ_v (Gk h9.1 (Oo AA ho) (BP _)) ?_;refine Fy (Hg (by rw[GD.IC];rfl)) ?_;obtain⟨r,e2,a2,I4,rfl,YI,_⟩:=(Ik (N:=N) (e:=e) (a:=a) (x.GB[Pj.toNat]' AA).GY 25 AA).pc;refine GI I4 rfl rfl AbQ rfl ?_;unfold PA;refine zv ?_;refine GW rfl (Ij zh h.i.ho Gz) AbQ (hQ _ _ λh=>Zq h YI)
 .unfold PA;refine zv ?_;refine GW rfl (Ij zh h.i.ho Gz) AbQ (hQ _ _ id)
def tF(hN:N.length<=60)(hS:S.length<=70000)(hM:M.length<=70000)(hT:T.length<=1000000000){x:Item}(La:x.GB.length<=100000)(hw:∀s∈x.GB,s.WF)(Pv:Ax x.GB<=20000)(Tp:∀s∈x.GB,xB N nd (S++s.GA.map Ao) (M++s.GA.map Ao) s.GQ){uM:Nat}{e0:Int}
  (hQ:∀e' a' (f:List BA),f.length<=Ax x.GB->(∀n∈f,GD.Mc n x.GB)->(e'=0->e0=0/\∀s∈x.GB,NS N nd S M s)->Q (.HL 1 (f.map GC)) [ck N e' a']):
  ∀(c:Nat) (i e a:Int) (f:List BA) (Pj:Int),0<=i->i<=x.GB.length->x.GB.length-i<=c->f.length<=Ax x.GB->(∀n∈f,GD.Mc n x.GB)->Pj<x.GB.length->(e=0->e0=0/\∀(q:Nat) (h:q<x.GB.length),(q:Int)<i->NS N nd S M x.GB[q])->
   RA N Q (.GV (S.map GC)) (.GV (M.map GC)) (I nd) (.HL uM (T.map GC)) x.GG i e a f Pj:=by
 have done:∀(i e a:Int) (f:List BA) (Pj:Int),0<=i->i<=x.GB.length->¬(i<x.GB.length/\e=0)->f.length<=Ax x.GB->(∀n∈f,GD.Mc n x.GB)->Pj<x.GB.length->(e=0->e0=0/\∀(q:Nat) (h:q<x.GB.length),(q:Int)<i->NS N nd S M x.GB[q])->
   RA N Q (.GV (S.map GC)) (.GV (M.map GC)) (I nd) (.HL uM (T.map GC)) x.GG i e a f Pj:=by
  intro i e a f Pj h0 h1 Iz hf hfP ho Jk;refine⟨1,λb eo bx s h=>?_⟩;have Ls:=h.i.h0;have dt:=h.hx;have Tt:=h.x0;show Vz _ _ _ _ _ _ _ _ _ _ _ _ _ _;unfold Vz;refine zv ?_;refine pQ_v Acl ?_;refine IU zh ?_;refine AT7 (λh9=>?_) ?_
  .exact AdV
  .refine ABy ho (λe' a' he=>hQ e' a' f hf hfP λh2=>⟨(Jk (he h2)).1,λs hs=>?_⟩) h;obtain⟨q,hq,rfl⟩:=B4 hs;exact(Jk (he h2)).2 q hq (by by_cases hi:i<x.GB.length;exact Zq ⟨hi,he h2⟩ Iz;omega)
 intro c
 induction c with
 |zero=>exactλi e a f Pj h0 h1 hc hf hfP ho Jk=>done i e a f Pj h0 h1 AA hf hfP ho Jk
 |succ c ih=>
  intro i e a f Pj h0 h1 hc hf hfP ho Jk;by_cases Iz:i<x.GB.length/\e=0
  case neg=>exact done i e a f Pj h0 h1 Iz hf hfP ho Jk
  obtain⟨G7,he⟩:=Iz;have rV:=Jk he;have Gl:=Oo h0 G7;have Jr:x.GB[i.toNat]' AA∈x.GB:=Bl _;have ADY:=VF (l:=x.GB) (q:=i.toNat) AA;generalize hg:x.GB[i.toNat]' AA=st at Gl Jr ADY;obtain⟨nm,JB,Jg,GA,GQ,GY⟩:=st;simp only[BG]at ADY;have lF:=hw _ Jr
  obtain⟨K,k,hK⟩:=ADu (N:=N) (Q:=Q) (S:=S) (v3:=.GV (M.map GC)) (v4:=I nd) (v6:=.HL uM (T.map GC)) (GA:=GA) (GG:=x.GG) (Pl:=(GD.mk nm JB Jg GA GQ GY).GG) (i:=i) (e:=e) (a:=a) (f:=f) (Pj:=Pj) AA AA (by rw[Rg];rfl)
   Abz
   (λAQo=>wW hN AA AA hT lF AA AA (Tp _ Jr) h0 AA AA Abz
    λe' a' f' Pd h2 h3 h4 h5 h6 h9 h7 h8=>ih (i+1) e' a' f' Pd AA AA AA (by rcases h7 with rfl|⟨h7,_⟩<;>omega) (by
     rcases h7 with rfl|⟨_,h7⟩
     .exact hfP
     .exactλn hn=>GD.Rj Jr (h7 n hn)) AA λ_=>⟨rV.1,λq hq hqi=>by
     by_cases YM:(q:Int)<i
     .exact rV.2 q hq YM
     .have:q=i.toNat:=AA;subst this;rw[hg];exact .mk _ _ _ _ _ _ _ _ h4 h5 h6 AQo h9⟩) GA.length 0 AA AA AA (λq hq hq0=>by omega)
  refine⟨K+1,λb eo bx s h=>?_⟩;have Ls:=h.i.h0;have dt:=h.hx;have Tt:=h.x0;have hbh:=h.i.hb;have rN:=h.i.n0;have hbl:=h.i.lt;have rj:=h.xlt;show Vz _ _ _ _ _ _ _ _ _ _ _ _ _ _;unfold Vz;refine zv ?_;refine pQ_v Acl ?_;refine IU zh ?_;refine AT6 ?_ λh9=>?_
  .refine zv ?_;refine Fy Acl ?_;refine Fy (Gk h0 Gl (BP _)) ?_;refine pQ_v AdF ?_;refine pQ_v Aby ?_;have h8:=hK b eo bx s.next (s.next+1) 1;simp only[Int.toNat_zero,List.take_zero,CG]at h8;refine⟨k,h8 _ ⟨⟨⟨zh,zh,h.i.ho,rN,by simp only[G1,HI];omega⟩,zh,Tt,h.xb,by simp only[G1,HI];omega⟩,zh,AA,AA,AA,by simp only[G1,HI];omega⟩ ⟨zh,zh,.inr rfl,AA,by simp only[G1,HI];omega⟩ AA AA AA⟩
  .exact AhC
end
end
section
open Go.Proofs
attribute [local irreducible] PA QG Ob OP NT NR NU NQ MX UE
section
variable{N:List GO} {S M:List BA} {nd:Int}
def tD(hN:N.length<=60){x:Item}(La:x.GB.length<=50000){Q:PV->LLP->Prop}{v2 v3 v4:PV}{e a:Int}(ZF:∀e' a',e'≠0->Q (.HL 1 []) [ck N e' a'])
  (ID:∀(t:List BA) (b:Nat),t.length<=50000->RA N Q v2 v3 v4 (.HL b (t.map GC)) x.GG 0 e a [] (-1)):
  ∀(c:Nat) (i:Int) (t:List BA),0<=i->i<=x.GB.length->x.GB.length-i<=c->(t.length:Int)<=i->∃k,∀(eo:Nat) (s:St),RB N e a t 3 eo 1 x.GG s->
   Vy 1 1 Q k (.GN 0 0) v2 v3 v4 (.GN 1 0) (.HL 3 (t.map GC)) (I i) s:=by
 have done:∀(i:Int) (t:List BA),0<=i->i=x.GB.length->(t.length:Int)<=i->∃k,∀(eo:Nat) (s:St),RB N e a t 3 eo 1 x.GG s->
   Vy 1 1 Q k (.GN 0 0) v2 v3 v4 (.GN 1 0) (.HL 3 (t.map GC)) (I i) s:=by
  intro i t h0 hi ht;obtain⟨K,hK⟩:=ID t 3 AA;refine⟨1,λeo s h=>?_⟩;have Ls:=h.i.h0;have dt:=h.hx;have rj:=h.xlt;show QB _ _ _ _ _ _ _ _ _ _ _ _;unfold QB;refine zv ?_;refine pQ_v (GH zh (Item.Vj x)) ?_;refine AT7 (λh9=>?_) ?_
  .exact Adb
  .unfold UE;refine zv ?_;refine⟨K,hK s.next 0 1 _ ⟨⟨zh,zh,.inl rfl,AA,by simp only[G1];omega⟩,zh,AA,AA,by simp only[G1];omega⟩⟩
 intro c
 induction c with
 |zero=>exactλi t h0 h1 hc ht=>done i t h0 AA ht
 |succ c ih=>
  intro i t h0 h1 hc ht;by_cases G7:i<x.GB.length
  case neg=>exact done i t h0 AA ht
  have OH:=AZi i;have Gl:=Oo h0 G7;generalize hg:x.GB[i.toNat]' AA=st at Gl;have yC:st.GG[0]?=some (.Gh st.name):=by rw[GD.IC];rfl
  have mr:st.GG[5]?=some (I st.GY):=by rw[GD.IC];rfl
  cases hh:Kv t st.name with
  |true=>
   obtain⟨r,e2,a2,I4,rfl,YI,_⟩:=(Ik (N:=N) (e:=e) (a:=a) st.GY 20 AA).pc;refine⟨1,λeo s h=>?_⟩;have Ls:=h.i.h0;have dt:=h.hx;have rj:=h.xlt;show QB _ _ _ _ _ _ _ _ _ _ _ _;unfold QB;refine zv ?_;refine pQ_v (GH zh (Item.Vj x)) ?_;refine AT6 ?_ λh9=>?_
   .refine zv ?_;refine Fy (GH zh (Item.Vj x)) ?_;refine pQ_v (Gk h0 Gl (BP _)) ?_;refine Fy (Hg yC) ?_;refine GI (Ly _ _ AA) rfl rfl rfl rfl ?_;rw[hh];refine zv ?_;refine Fy (GH zh (Item.Vj x)) ?_;refine pQ_v (Gk h0 Gl (BP _)) ?_;refine Fy (Hg mr) ?_;exact Afr
   .exact Adu
  |false=>
   obtain⟨k,hK⟩:=ih (i+1) (t++[st.name]) AA AA AA AB;have L7:(t++[st.name]).map GC=t.map GC++[[.Gh st.name]]:=by rw[Bu];rfl
   refine⟨k+1,λeo s h=>?_⟩;have Ls:=h.i.h0;have dt:=h.hx;have rj:=h.xlt;have hbh:=h.i.hb;have hbl:=h.i.lt;show QB _ _ _ _ _ _ _ _ _ _ _ _;unfold QB;refine zv ?_;refine pQ_v (GH zh (Item.Vj x)) ?_;refine AT6 ?_ λh9=>?_
   .refine zv ?_;refine Fy (GH zh (Item.Vj x)) ?_;refine pQ_v (Gk h0 Gl (BP _)) ?_;refine Fy (Hg yC) ?_;refine GI (Ly _ _ AA) rfl rfl rfl rfl ?_;rw[hh];refine zv ?_;refine Fy (GH zh (Item.Vj x)) ?_;refine pQ_v (Gk h0 Gl (BP _)) ?_;refine pQ_v (Hg yC) ?_;refine pQ_v (Jp rfl rfl (G4 AB AA) (HQ Gz) zh (h.i.ho.imp (λh=>by rw[h];rfl) λh=>h.symm)) ?_;rw[OH,<- L7];refine hK 1 _ ⟨⟨zh,?_,.inr rfl,AA,hbl⟩,zh,AA,AA,rj⟩;exact AhR
   .exact Adu
def AFt(hN:N.length<=60)(hS:S.length<=70000)(hM:M.length<=70000){x:Item}(hx:x.WF)(Kk:x.GB≠[])(Pv:x.wt<=20000)(Tp:∀s∈x.GB,xB N nd (S++s.GA.map Ao) (M++s.GA.map Ao) s.GQ):ABb N nd S M x:=by
 intro e a;obtain⟨GL,ex,GB,GY⟩:=x;cases hx with|mk _ _ _ _ hn hex La qV=>
 simp only[BF]at Pv
 have ARe:GB.length<=Ax GB:=by
  clear qV Tp Kk Pv La
  induction GB with
  |nil=>simp
  |cons st r ih=>cases st;simp only[Ax,BG,CE];omega
 have ID:∀(t:List BA) (b:Nat),t.length<=50000->RA N (λr c=>∃e' a',c=[ck N e' a']/\∃d:List BA,r=.HL 1 (d.map GC)/\d.length<=(Item.mk GL ex GB GY).wt/\(∀n∈d,(Item.mk GL ex GB GY).Y0 n)/\(e'=0->e=0/\NI N nd S M (.mk GL ex GB GY))) (.GV (S.map GC)) (.GV (M.map GC)) (I nd) (.HL b (t.map GC)) (Item.mk GL ex GB GY).GG 0 e a [] (-1):=λt b ht=>
  tF (x:=.mk GL ex GB GY) (nd:=nd) (S:=S) (M:=M) (e0:=e) hN hS hM AA La qV (show Ax GB<=20000 by omega) Tp
   (λe' a' f hf hfP h=>⟨e',a',rfl,f,rfl,by simp only[BF];simp only[Item.GB]at hf;omega,λn hn=>by simp only[Item.Y0];exact .inr (hfP n hn),λhe=>⟨(h he).1,by
    cases GB with
    |nil=>exact Zq rfl Kk
    |cons st r=>exact .AKe _ _ _ _ _ _ _ (h he).2⟩⟩) GB.length 0 e a [] (-1) AA AZ AZ AD AcV AA (λh=>⟨h,λq hq hq0=>by omega⟩)
 obtain⟨k,hk⟩:=tD (x:=.mk GL ex GB GY) hN AZ (e:=e) (a:=a) (λe' a' he=>⟨e',a',rfl,[],rfl,AD,λn h=>AbB,λh=>Zq h he⟩) ID GB.length 0 [] AA AZ AZ AD;refine AF2 1 rfl _ _ _ _ _ ?_;unfold AO7;refine pQ_v (Mh (Item.Vb _) zn) ?_;exact⟨k,hk 0 _ ⟨⟨zh,zh,.inl rfl,AA,by simp[G1,IG]⟩,zh,AA,AA,by simp[G1,IG]⟩⟩
def ADt(hN:N.length<=60):∀(c:Nat) (S M:List BA) (l:List Item),As l<=c->As l<=20000->S.length+As l<=70000->M.length+As l<=70000->l.length<=100000->(∀x∈l,x.WF)->xB N nd S M l:=by
 intro c
 induction c with
 |zero=>
  intro S M l hl hc hS hM Xx hw e a;refine yJ hN AA AA Xx hw AA (λx hx Kk=>?_) e a;obtain⟨q,hq,pN⟩:=B4 hx;have h1:=Oh hq;have h2:As l=As (l.take q)+As (l.drop q):=by rw[<- Item.HY,CX]
  exfalso;rw[pN]at h1;obtain⟨GL,ex,GB,GY⟩:=x;cases GB with
  |nil=>exact Kk rfl
  |cons st r=>cases st;simp only[BF,Ax,BG]at h1;omega
 |succ c ih=>
  intro S M l hl hc hS hM Xx hw e a;refine yJ hN AA AA Xx hw AA (λx hx Kk=>?_) e a;have vR:=hw x hx;obtain⟨q,hq,pN⟩:=B4 hx;have h1:=Oh hq;have h2:As l=As (l.take q)+As (l.drop q):=by rw[<- Item.HY,CX]
  rw[pN]at h1;refine AFt hN AA AA vR Kk AA λs hs=>?_;obtain⟨q2,YM,hqs⟩:=B4 hs;have h3:=VF YM;rw[hqs]at h3
  have h4:Ax x.GB<=x.wt:=by
   exact Ad5
  have qV:s.WF:=by
   exact AhE
  obtain⟨nm,JB,Jg,GA,GQ,GY⟩:=s;cases qV with|mk _ _ _ _ _ _ g1 g2 g3 g4 g5=>
  simp only[BG]at h3;exact ih _ _ GQ AA AA AZv AZv g4 g5
end
end
section
open Go.Proofs
def Xi{l:List Edge}{i:Int}(h0:0<=i)(h:i<l.length):(l.map A9)[i.toNat]?=some ((l[i.toNat]' AA).GG):=AgH
def QU(S:List BA)(v:Ge):Prop:=∀c∈v.Ga,Kv S c.name=true
section
variable{N:List GO} {S:List BA}
def YY(hS:S.length<=1000000000){l:List Ge}(hl:l.length<=100000)(hw:∀v∈l,v.Ga.length<=100000)(e a:Int):
  CF N 87 [.GV (l.map Am),.GV (S.map GC)] e a λr e' a'=>r=.tuple []/\(e'=0->e=0/\∀v∈l,QU S v):=by
 have ev:∀{Q:PV->LLP->Prop},e=0->(∀e' a',e'≠0->Q (.tuple []) [ck N e' a'])->∀(w:PV->PV->PV->F1) (i:Int) (cK:0<=i) (hi:i<l.length) (v:Ge) (Gl:(l.map Am)[i.toNat]?=some v.GG) (HM:v.Ga.length<=100000),(QU S v->∀hp,w (.GN 0 0) (.GV (l.map Am)) (.GV (S.map GC)) (I (i+1)) (Qx [.box (ck N e a)] hp 1))->
   ∀(c:Nat) (j:Int),0<=j->j<=v.Ga.length->v.Ga.length-j<=c->(∀(q:Nat) (h:q<v.Ga.length),(q:Int)<j->Kv S (v.Ga[q]).name=true)->∃k,∀hp,iY 0 1 Q w k (.GN 0 0) (.GV (l.map Am)) (.GV (S.map GC)) (I i) (I j) (Qx [.box (ck N e a)] hp 1):=by
  intro Q he ZF w i cK hi v Gl HM SY;have Zt:=AZi i
  have done:∀j:Int,0<=j->j=v.Ga.length->(∀(q:Nat) (h:q<v.Ga.length),(q:Int)<j->Kv S (v.Ga[q]).name=true)->∃k,∀hp,iY 0 1 Q w k (.GN 0 0) (.GV (l.map Am)) (.GV (S.map GC)) (I i) (I j) (Qx [.box (ck N e a)] hp 1):=by
   intro j hj0 hj hq;refine⟨1,λhp=>?_⟩;show UZ _ _ _ _ _ _ _ _ _ _ _;unfold UZ;refine pQ_v Abb ?_;refine AT7 (λh9=>?_) ?_
   .exact Adb
   .unfold uT;refine zv ?_;rw[Zt];refine SY (λc hc=>?_) hp;obtain⟨q,hq',rfl⟩:=B4 hc;exact hq q hq' AA
  intro c
  induction c with
  |zero=>exactλj h0 h1 hc hq=>done j h0 AA hq
  |succ c ih=>
   intro j h0 h1 hc hq;by_cases G7:j<v.Ga.length
   case neg=>exact done j h0 AA hq
   have OH:=AZi j;have OX:=Xi h0 G7;have hgj:v.Ga[j.toNat]' AA=v.Ga[j.toNat]' AA:=rfl;generalize hg:v.Ga[j.toNat]' AA=g at OX;cases hh:Kv S g.name with
   |false=>
    refine⟨1,λhp=>?_⟩;show UZ _ _ _ _ _ _ _ _ _ _ _;unfold UZ;refine pQ_v Abb ?_;refine AT6 ?_ λh9=>?_
    .refine pQ_v Abb ?_;refine pQ_v AdK ?_;refine AZa (Ly S _ hS) ?_;rw[hh];refine zv ?_;exact Afs
    .exact Adu
   |true=>
    obtain⟨k,hk⟩:=ih (j+1) AA AA AA λq hq1 hqj=>by
     by_cases YM:(q:Int)<j
     .exact hq q hq1 YM
     .have:q=j.toNat:=AA;subst this;rw[hg];exact hh
    refine⟨k+1,λhp=>?_⟩;show UZ _ _ _ _ _ _ _ _ _ _ _;unfold UZ;refine pQ_v Abb ?_;refine AT6 ?_ λh9=>?_
    .refine pQ_v Abb ?_;refine pQ_v AdK ?_;refine AZa (Ly S _ hS) ?_;rw[hh];refine zv ?_;refine AYn Abb ?_;refine AT5 ?_ ?_
     .exact Afs
     .refine zv ?_;rw[OH];exact hk hp
    .exact Adu
 have sX:∀{Q:PV->LLP->Prop},(∀e' a',(e'=0->e=0/\∀v∈l,QU S v)->Q (.tuple []) [ck N e' a'])->∀(c:Nat) (i:Int),0<=i->i<=l.length->l.length-i<=c->(∀(q:Nat) (h:q<l.length),(q:Int)<i->QU S l[q])->∃k,∀hp,aZ 0 1 Q k (.GN 0 0) (.GV (l.map Am)) (.GV (S.map GC)) (I i) (Qx [.box (ck N e a)] hp 1):=by
  intro Q hQ c
  induction c with
  |zero=>
   intro i h0 h1 hc hq;refine⟨1,λhp=>?_⟩;show UY _ _ _ _ _ _ _ _ _;unfold UY;refine zv ?_;refine IU rfl ?_;refine AT7 (λh=>?_) ?_
   .exact AhX
   .refine GW rfl rfl rfl (hQ _ _ λhe=>⟨he,λv hv=>?_⟩);obtain⟨q,hq',rfl⟩:=B4 hv;exact hq q hq' AA
  |succ c ih=>
   intro i h0 h1 hc hq;by_cases Iz:i<l.length/\e=0
   case neg=>
    refine⟨1,λhp=>?_⟩;show UY _ _ _ _ _ _ _ _ _;unfold UY;refine zv ?_;refine IU rfl ?_;refine AT7 (λh=>?_) ?_
    .exact Aga
    .refine GW rfl rfl rfl (hQ _ _ λhe=>⟨he,λv hv=>?_⟩);obtain⟨q,hq',rfl⟩:=B4 hv;exact hq q hq' (by by_cases hi:i<l.length;exact Zq ⟨hi,he⟩ Iz;omega)
   case pos=>
    obtain⟨G7,he⟩:=Iz;by_cases Jk:QU S (l[i.toNat]' AA)
    .obtain⟨k,hk⟩:=ih (i+1) AA AA AA λq hq1 hqi=>by
      by_cases YM:(q:Int)<i
      .exact hq q hq1 YM
      .have:q=i.toNat:=AA;subst this;exact Jk
     obtain⟨k2,Jm⟩:=ev (Q:=Q) he Acs (aZ 0 1 Q k) i h0 G7 _ (Io h0 G7) (hw _ (Bl _)) (λ_=>hk) _ 0 AA AA (Int.le_of_eq AaH) (λq hq hq0=>by omega);refine⟨k+1,λhp=>?_⟩;exact Aen
    .obtain⟨k2,Jm⟩:=ev (Q:=Q) he Acs (aZ 0 1 Q 0) i h0 G7 _ (Io h0 G7) (hw _ (Bl _)) (λh=>Zq h Jk) _ 0 AA AA (Int.le_of_eq AaH) (λq hq hq0=>by omega);refine⟨1,λhp=>?_⟩;exact Aen
 obtain⟨k,hk⟩:=sX (Q:=λr c=>∃e' a',c=[ck N e' a']/\r=.tuple []/\(e'=0->e=0/\∀v∈l,QU S v)) (λe' a' h=>⟨e',a',rfl,rfl,h⟩) l.length 0 AA AA AA (λq hq hq0=>by omega);refine ALN 0 rfl _ _ _ ?_;unfold c87;refine⟨k,?_⟩;exact Rf (aZ 0 1 _ k _ _ _ _) rfl rfl λJs=>hk Js
end
end
section
open Go.Proofs
mutual
inductive qO:List ByteArray->Item->Prop
 |mk (S:List ByteArray) (GL:List ByteArray) (e:Gw) (GB:List GD) (GY:Int):(∀s∈GB,NCS S s)->qO S (.mk GL e GB GY)
inductive NCS:List ByteArray->GD->Prop
 |mk (S:List ByteArray) (nm:ByteArray) (JB Jg:List Gj) (GA:List Ge) (GQ:List Item) (GY:Int):(∀v∈GA,QU (S++GA.map Ao) v)->(∀i∈GQ,qO (S++GA.map Ao) i)->NCS S (.mk nm JB Jg GA GQ GY)
end
def qO.of{S:List BA}{x:Item}(h:∀s∈x.GB,NCS S s):qO S x:=by obtain⟨_,_,_,_⟩:=x;exact .mk _ _ _ _ _ h
structure Vc (N:List GO) (e a:Int) (s:St):Prop where
 h0:s.heap 0=some (.box (ck N e a))
 lt:0<s.next
def ABe(N:List GO)(S:List BA)(l:List Item):Prop:=∀e a,CF N 88 [.GV (l.map Aq),.GV (S.map GC)] e a λr e' a'=>r=.tuple []/\(e'=0->e=0/\∀x∈l,qO S x)
def GD.WF.JL{nm:BA}{JB Jg:List Gj}{GA:List Ge}{GQ:List Item}{GY:Int}(h:(GD.mk nm JB Jg GA GQ GY).WF):TB.WF GA/\GQ.length<=100000/\∀i∈GQ,i.WF:=by cases h with|mk _ _ _ _ _ _ h1 h2 h3 h4 h5=>exact⟨h3,h4,h5⟩
section
variable{N:List GO} {S:List BA} {Q:PV->LLP->Prop}
def uX(hS:S.length<=70000){l:List Item}{x:Item}{i:Int}(hi:0<=i)(Ml:i<=100000)(Gl:(l.map Aq)[i.toNat]?=some x.GG)(La:x.GB.length<=100000)(hw:∀s∈x.GB,s.WF)(Pv:Ax x.GB<=20000)(hc:∀s∈x.GB,ABe N (S++s.GA.map Ao) s.GQ){e0:Int}
  (ID:∀e a,(e=0->e0=0/\qO S x)->∃K,∀s,Vc N e a s->YX 0 1 Q K (.GN 0 0) (.GV (l.map Aq)) (.GV (S.map GC)) (I (i+1)) s):
  ∀(c:Nat) (j e a:Int),0<=j->j<=x.GB.length->x.GB.length-j<=c->(e=0->e0=0/\∀(q:Nat) (h:q<x.GB.length),(q:Int)<j->NCS S x.GB[q])->
   ∃K k,∀s,Vc N e a s->ia 0 1 Q (YX 0 1 Q K) k (.GN 0 0) (.GV (l.map Aq)) (.GV (S.map GC)) (I i) (I j) s:=by
 have Zt:=AZi i
 have done:∀(j e a:Int),0<=j->j=x.GB.length->(e=0->e0=0/\∀(q:Nat) (h:q<x.GB.length),(q:Int)<j->NCS S x.GB[q])->
   ∃K k,∀s,Vc N e a s->ia 0 1 Q (YX 0 1 Q K) k (.GN 0 0) (.GV (l.map Aq)) (.GV (S.map GC)) (I i) (I j) s:=by
  intro j e a h0 hj Jk
  obtain⟨K,hK⟩:=ID e a λhe=>⟨(Jk he).1,.of λs hs=>by
   obtain⟨q,hq,rfl⟩:=B4 hs;exact(Jk he).2 q hq AA⟩
  refine⟨K,1,λs h=>?_⟩;show aa _ _ _ _ _ _ _ _ _ _ _;unfold aa;refine pQ_v Abt ?_;refine pQ_v (Hg (Item.Vj x)) ?_;refine AT7 (λh9=>?_) ?_
  .exact Adb
  .unfold uU;refine zv ?_;rw[Zt];exact hK s h
 intro c
 induction c with
 |zero=>exactλj e a h0 h1 hc Jk=>done j e a h0 AA Jk
 |succ c ih=>
  intro j e a h0 h1 er Jk;by_cases G7:j<x.GB.length
  case neg=>exact done j e a h0 AA Jk
  have OH:=AZi j;have OX:=Oo h0 G7;have Jr:x.GB[j.toNat]' AA∈x.GB:=Bl _;have ADY:=VF (l:=x.GB) (q:=j.toNat) AA;generalize hg:x.GB[j.toNat]' AA=st at OX Jr ADY;obtain⟨nm,JB,Jg,GA,GQ,GY⟩:=st;simp only[BG]at ADY;obtain⟨hw3,_,_⟩:=(hw _ Jr).JL;have jw:(GD.mk nm JB Jg GA GQ GY).GG=[.Gh nm,.GV (JB.map Aw),.GV (Jg.map Aw),.GV (GA.map Am),.GV (GQ.map Aq),I GY]:=by rw[GD.IC];rfl
  have Ww:=XU GA AA;have Ox:S.map GC++(GA.map Ao).map GC=(S++GA.map Ao).map GC:=by rw[Bu]
  obtain⟨r,e1,a1,Jy,rfl,h1'⟩:=(YY (N:=N) (S:=S++GA.map Ao) (l:=GA) AB AA (λv hv=>by have:=(hw3.all v hv).Ga;omega) e a).pc;obtain⟨r,e2,a2,I4,rfl,h2'⟩:=(hc _ Jr e1 a1).pc;simp only[GD.GA,GD.GQ]at I4 h2'
  obtain⟨K,k,hK⟩:=ih (j+1) e2 a2 AA AA AA λYI=>by
   obtain⟨q1,q2⟩:=h2' YI;obtain⟨q3,q4⟩:=h1' q1;refine⟨(Jk q3).1,λq hq hqj=>?_⟩;by_cases YM:(q:Int)<j
   .exact(Jk q3).2 q hq YM
   .have:q=j.toNat:=AA;subst this;rw[hg];exact .mk _ _ _ _ _ _ _ q4 q2
  refine⟨K,k+1,λs h=>?_⟩;have Ls:=h.h0;have hl0:=h.lt;show aa _ _ _ _ _ _ _ _ _ _ _;unfold aa;refine pQ_v Abt ?_;refine pQ_v (Hg (Item.Vj x)) ?_;refine AT6 ?_ λh9=>?_
  case refine_2=>have:=Zy h9;rw[Bb]at this;omega
  refine pQ_v Abt ?_;refine Fy (Hg (Item.Vj x)) ?_;refine Fy Acz ?_;refine Fy AdF ?_;rw[jw];refine zv ?_;refine AZc Aby ?_;refine AWd Ww ?_;refine GR AbY ?_;rw[Ox];refine zv ?_;refine⟨?_,?_⟩
  .simp only[G1,HI,KB,Jl,dN,M5,OY,CC,CG];simp[Hl,IA,Iy];exact⟨λ_=>by omega,by kernel_rfl⟩
  refine zv ?_;refine ATj Jy rfl rfl AbQ rfl ?_;refine ATj I4 rfl rfl AbQ rfl ?_;rw[OH];exact hK _ ⟨zh,by simp only[G1,HI,Gx,KB,MQ,Jl];omega⟩
def zl(hS:S.length<=70000){l:List Item}(hl:l.length<=100000)(hw:∀x∈l,x.WF)(Pv:As l<=20000)(hc:∀x∈l,∀s∈x.GB,ABe N (S++s.GA.map Ao) s.GQ){e0:Int}
  (hQ:∀e' a',(e'=0->e0=0/\∀x∈l,qO S x)->Q (.tuple []) [ck N e' a']):
  ∀(c:Nat) (i e a:Int),0<=i->i<=l.length->l.length-i<=c->(e=0->e0=0/\∀(q:Nat) (h:q<l.length),(q:Int)<i->qO S l[q])->
   ∃K,∀s,Vc N e a s->YX 0 1 Q K (.GN 0 0) (.GV (l.map Aq)) (.GV (S.map GC)) (I i) s:=by
 have done:∀(i e a:Int),0<=i->i=l.length->(e=0->e0=0/\∀(q:Nat) (h:q<l.length),(q:Int)<i->qO S l[q])->
   ∃K,∀s,Vc N e a s->YX 0 1 Q K (.GN 0 0) (.GV (l.map Aq)) (.GV (S.map GC)) (I i) s:=by
  intro i e a h0 hi Jk;refine⟨1,λs h=>?_⟩;have Ls:=h.h0;show iZ _ _ _ _ _ _ _ _ _;unfold iZ;refine zv ?_;refine AT7 (λh9=>?_) ?_
  .exact Adb
  .refine GW rfl rfl AbQ (hQ _ _ λhe=>⟨(Jk he).1,λx hx=>?_⟩);exact AhL
 intro c
 induction c with
 |zero=>exactλi e a h0 h1 hc Jk=>done i e a h0 AA Jk
 |succ c ih=>
  intro i e a h0 h1 er Jk;by_cases G7:i<l.length
  case neg=>exact done i e a h0 AA Jk
  have Gl:=Tw h0 G7;have Jr:l[i.toNat]' AA∈l:=Bl _;have dq:=Oh (l:=l) (q:=i.toNat) AA;have hwtd:As l=As (l.take i.toNat)+As (l.drop i.toNat):=by rw[<- Item.HY,CX]
  generalize hg:l[i.toNat]' AA=x at Gl Jr dq
  have La:Ax x.GB<=x.wt:=by
   exact Ad5
  have qV:x.GB.length<=100000/\∀s∈x.GB,s.WF:=by
   cases hw x Jr with|mk _ _ _ _ h1 h2 h3 h4=>exact⟨by simp only[Item.GB];omega,h4⟩
  obtain⟨K,k,hK⟩:=uX (Q:=Q) (e0:=e) hS h0 AA Gl qV.1 qV.2 AA (hc x Jr) (λe' a' h=>ih (i+1) e' a' AA AA AA λhe=>⟨(Jk (h he).1).1,λq hq hqi=>by
   by_cases YM:(q:Int)<i
   .exact(Jk (h he).1).2 q hq YM
   .have:q=i.toNat:=AA;subst this;rw[hg];exact(h he).2⟩) x.GB.length 0 e a AA AA AA (λhe=>⟨he,λq hq hq0=>by omega⟩)
  refine⟨K+1,λs h=>?_⟩;show iZ _ _ _ _ _ _ _ _ _;unfold iZ;refine zv ?_;refine AT6 ?_ λh9=>?_
  .exact⟨k,hK s h⟩
  .exact Adu
def AGt:∀(c:Nat) (S:List BA) (l:List Item),As l<=c->As l<=20000->S.length+As l<=70000->l.length<=100000->(∀x∈l,x.WF)->ABe N S l:=by
 have start:∀(S:List BA) (l:List Item),As l<=20000->S.length+As l<=70000->l.length<=100000->(∀x∈l,x.WF)->(∀x∈l,∀s∈x.GB,ABe N (S++s.GA.map Ao) s.GQ)->ABe N S l:=by
  intro S l hl hS Xx hw hc e a;obtain⟨K,hK⟩:=zl (N:=N) (S:=S) (l:=l) (e0:=e) (Q:=λr c=>∃e' a',c=[ck N e' a']/\r=.tuple []/\(e'=0->e=0/\∀x∈l,qO S x)) AA Xx hw hl hc (λe' a' h=>⟨e',a',rfl,rfl,h⟩) l.length 0 e a AA AA AA (λh=>⟨h,λq hq hq0=>by omega⟩);refine ALO 0 rfl _ _ _ ?_;unfold c88;exact⟨K,hK _ ⟨zh,by simp[IG]⟩⟩
 intro c
 induction c with
 |zero=>
  intro S l hl hc hS Xx hw;refine start S l hc hS Xx hw λx hx s hs=>?_;exfalso;obtain⟨q,hq,pN⟩:=B4 hx;have h1:=Oh hq;have h2:As l=As (l.take q)+As (l.drop q):=by rw[<- Item.HY,CX]
  rw[pN]at h1;obtain⟨GL,ex,GB,GY⟩:=x;cases GB with
  |nil=>exact Zq hs Aai
  |cons st r=>cases st;simp only[BF,Ax,BG]at h1;omega
 |succ c ih=>
  intro S l hl hc hS Xx hw;refine start S l hc hS Xx hw λx hx s hs=>?_;have vR:=hw x hx;obtain⟨q,hq,pN⟩:=B4 hx;have h1:=Oh hq;have h2:As l=As (l.take q)+As (l.drop q):=by rw[<- Item.HY,CX]
  rw[pN]at h1;obtain⟨q2,YM,hqs⟩:=B4 hs;have h3:=VF YM;rw[hqs]at h3
  have h4:Ax x.GB<=x.wt:=by
   exact Ad5
  have qV:s.WF:=by
   exact AhE
  obtain⟨nm,JB,Jg,GA,GQ,GY⟩:=s;cases qV with|mk _ _ _ _ _ _ g1 g2 g3 g4 g5=>
  simp only[BG]at h3;exact ih _ GQ AA AA AZv g4 g5
end
end
section
open Go.Proofs
def GO.all(n:GO):List Ge:=n.JS++n.Hz++n.GA
def GO.vars(n:GO):List BA:=n.all.map Ao
def GO.ve(n:GO):List BA:=n.vars.drop n.JS.length
def gY(t:List BA):Prop:=∀(q:Nat) (h:q<t.length),Kv (t.take q) t[q]=false
structure O6 (N:List GO) (i:Nat) (n:GO):Prop where
 AT9:gY n.vars
 GQ:∀x∈n.GQ,NI N i n.vars n.ve x
 clk:∀v∈n.GA,QU n.vars v
 ACH:∀x∈n.GQ,qO n.vars x
def GO.Zg(n:GO):n.GG=[.Gh n.name,.GV (n.JS.map Am),.GV (n.Hz.map Am),.GV (n.GA.map Am),.GV (n.GQ.map Aq),I n.GY]:=by rw[Ay,Item.Iu]
def GO.GX(n:GO):n.GG.length=6:=rfl
def Ki{l:List Ge}:∀r∈l.map Am,r.length=5:=Aeg
structure tm (N:List GO) (e a:Int) (bn:Nat) (GG:List PV) (t:List ByteArray) (bv eo:Nat) (s:St):Prop where
 hp:s.heap 0=some (.box [.GV (N.map Ay)])
 hc:s.heap 1=some (.box (ck N e a))
 hn:s.heap bn=some (.box GG)
 hv:s.heap bv=some (.HE (t.map GC).length eo)
 ho:t.map GC=[]\/eo=1
 n0:bn≠0/\bn≠1
 v0:bv≠0/\bv≠1/\bv≠bn
 lt:1<s.next/\bn<s.next/\bv<s.next
def z7{s:St}{cs k:LP}(h:s.heap 1=some (.box cs))(hd:JC cs=some k):Gv s [1]=some [k]:=by simp only[Gv,h,hd]
attribute [local irreducible] UL WV RJ Sn RI So
section
variable{P:Program} {b:Bool} {bc:Nat} {s:St} {R:F1} {N:List GO} {e a:Int}
def Rv(h:s.heap bc=some (.box (ck N e a)))(hk:R (.bool (b&&(e==0))) s):
  Ic (.bool b) true (λk=>k (.GN bc 0) s [] []) (λAOC AEp _ _=>Ic (.bool b) true (λk=>I2 (HK AOC) AEp k) (λAFH wP _ _=>Ic (.bool b) true (λk=>I2 (Ho 1 AFH) wP k) (λAFI wQ _ _=>Ic (.bool b) true (λk=>I2 (GJ AFI) wQ k) (λAFJ wR _ _=>Ic (.bool b) true (λk=>I2 (HC P .eql 3 AFJ (I 0)) wR k)
   (λAOD ANt _ _=>pQ (Gp (.bool b) AOD (.bool false)) ANt R) wR) wQ) wP) AEp) s:=by
 exact AeP
end
section
variable{N:List GO} {Q:PV->LLP->Prop}
def ACd{e a:Int}{s:St}(h:s.heap 1=some (.box (ck N e a)))(hQ:Q (.tuple [I a,I e]) []):UL 0 0 Q (.GN 1 0) s:=by unfold UL;exact Adz
def AHw{A:List Ge}(hA:A.length<=70000){i:Int}{GG:LP}{e0:Int}
  (ID:∀e a,(e=0->e0=0/\gY (A.map Ao))->∃K,∀(ba bn bv eo:Nat) (s:St),tm N e a bn GG (A.map Ao) bv eo s->RI 0 0 Q (Ll 0 0 Q K) (.GN 0 0) (.GN 1 0) (I i) (.GN bn 0) (.HL ba (A.map Am)) (.HL bv ((A.map Ao).map GC)) s):
  ∀(c:Nat) (j e a:Int),0<=j->j<=A.length->A.length-j<=c->(e=0->e0=0/\∀(q:Nat) (h:q<A.length),(q:Int)<j->Kv ((A.map Ao).take q) A[q].name=false)->
   ∃K k,∀(ba bn bv eo:Nat) (s:St),tm N e a bn GG ((A.map Ao).take j.toNat) bv eo s->UM 0 0 Q (Ll 0 0 Q K) k (.GN 0 0) (.GN 1 0) (I i) (.GN bn 0) (.HL ba (A.map Am)) (.HL bv (((A.map Ao).take j.toNat).map GC)) (I j) s:=by
 have done:∀(j e a:Int),0<=j->j=A.length->(e=0->e0=0/\∀(q:Nat) (h:q<A.length),(q:Int)<j->Kv ((A.map Ao).take q) A[q].name=false)->
   ∃K k,∀(ba bn bv eo:Nat) (s:St),tm N e a bn GG ((A.map Ao).take j.toNat) bv eo s->UM 0 0 Q (Ll 0 0 Q K) k (.GN 0 0) (.GN 1 0) (I i) (.GN bn 0) (.HL ba (A.map Am)) (.HL bv (((A.map Ao).take j.toNat).map GC)) (I j) s:=by
  intro j e a h0 hj Jk
  obtain⟨K,hK⟩:=ID e a λhe=>⟨(Jk he).1,λq hq=>by
   rw[Fo];exact(Jk he).2 q (by simpa using hq) (by rw[Bb]at hq;omega)⟩
  have rh:(A.map Ao).take j.toNat=A.map Ao:=Cc AB;rw[rh];refine⟨K,1,λba bn bv eo s h=>?_⟩;show WW _ _ _ _ _ _ _ _ _ _ _ _ _;unfold WW;refine zv ?_;refine GF (λh9=>?_) λ_=>hK ba bn bv eo s h;exact Adb
 intro c
 induction c with
 |zero=>exactλj e a h0 h1 hc Jk=>done j e a h0 AA Jk
 |succ c ih=>
  intro j e a h0 h1 hc Jk;by_cases G7:j<A.length
  case neg=>exact done j e a h0 AA Jk
  have OH:=AZi j;have Gl:=Io h0 G7;have HM:((A.map Ao).take j.toNat).length=j.toNat:=by simp;omega
  have rh:(A.map Ao).take (j+1).toNat=(A.map Ao).take j.toNat++[(A[j.toNat]' AA).name]:=by
   rw[show(j+1).toNat=j.toNat+1 by omega,Cm AB,Fo]
  have L7:((A.map Ao).take (j+1).toNat).map GC=((A.map Ao).take j.toNat).map GC++[[.Gh (A[j.toNat]' AA).name]]:=by rw[rh,Bu];rfl
  have Ye:∃e1 a1,(Kv ((A.map Ao).take j.toNat) (A[j.toNat]' AA).name=false/\e1=e/\a1=a\/Kv ((A.map Ao).take j.toNat) (A[j.toNat]' AA).name=true/\e1≠0/\PC BZ 68 [.GN 0 0,I (A[j.toNat]' AA).GY,I 20] [ck N e a] (.tuple []) [ck N e1 a1]):=by
   cases hh:Kv ((A.map Ao).take j.toNat) (A[j.toNat]' AA).name with
   |false=>exact⟨e,a,.inl ⟨rfl,rfl,rfl⟩⟩
   |true=>
    obtain⟨r,e1,a1,IE,rfl,h2,_⟩:=(Ik (N:=N) (e:=e) (a:=a) (A[j.toNat]' AA).GY 20 AA).pc;exact⟨e1,a1,.inr ⟨rfl,h2,IE⟩⟩
  obtain⟨e1,a1,I0⟩:=Ye
  obtain⟨K,k,hK⟩:=ih (j+1) e1 a1 AA AA AA (λh=>by
   rcases I0 with⟨h3,h4,_⟩|⟨_,h4,_⟩
   .subst h4;refine⟨(Jk h).1,λq hq hqj=>?_⟩;by_cases YM:(q:Int)<j
    .exact(Jk h).2 q hq YM
    .have:q=j.toNat:=AA;subst this;exact h3
   .exact Zq h h4)
  rw[L7]at hK
  have j3:∀(ba bn bv eo:Nat) (s:St),tm N e1 a1 bn GG ((A.map Ao).take j.toNat) bv eo s->So 0 0 Q (Ll 0 0 Q K) (UM 0 0 Q (Ll 0 0 Q K) k) (.GN 0 0) (.GN 1 0) (I i) (.GN bn 0) (.HL ba (A.map Am)) (.HL bv (((A.map Ao).take j.toNat).map GC)) (I j) s:=by
   intro ba bn bv eo s h;have hpp:=h.hp;have er:=h.hc;have lW:=h.hn;have hvv:=h.hv;obtain⟨n1,n2⟩:=h.n0;obtain⟨v1,v2,v3⟩:=h.v0;obtain⟨l1,l2,l3⟩:=h.lt;unfold So;refine pQ_v (JE h0 Gl rfl) ?_;refine pQ_v (Jp rfl rfl (G4 AB AA) (HQ Gz) zh (h.ho.imp (λh=>by rw[h];rfl) λh=>h.symm)) ?_;rw[OH];refine hK ba bn bv 1 _ ⟨zh,zh,zh,?_,.inr rfl,h.n0,h.v0,l1,l2,l3⟩;exact AhR
  refine⟨K,k+1,λba bn bv eo s h=>?_⟩;have er:=h.hc;obtain⟨n1,n2⟩:=h.n0;obtain⟨v1,v2,v3⟩:=h.v0;show WW _ _ _ _ _ _ _ _ _ _ _ _ _;unfold WW;refine zv ?_;refine AT6 ?_ λh9=>?_
  case refine_2=>have:=Zy h9;rw[Bb]at this;omega
  refine pQ_v (JE h0 Gl rfl) ?_;refine GI (Ly _ _ AA) rfl rfl rfl rfl ?_;rcases I0 with⟨MI,rfl,rfl⟩|⟨MI,Lt,SR⟩
  .rw[MI];refine zv ?_;exact j3 ba bn bv eo s h
  .rw[MI];refine zv ?_;refine pQ_v (JE h0 Gl rfl) ?_;refine GI SR rfl rfl (z7 zh rfl) rfl ?_;exact j3 ba bn bv eo _ ⟨(Ar AA).trans h.hp,A4,(Ar AA).trans h.hn,(Ar AA).trans h.hv,h.ho,h.n0,h.v0,h.lt⟩
end
end
end Go.Vi
