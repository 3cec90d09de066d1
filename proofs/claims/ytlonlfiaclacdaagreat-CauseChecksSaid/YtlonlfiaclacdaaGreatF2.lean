/- Part of the proof of CauseChecks (own work, made small). -/
import Derived.Test.YtlonlfiaclacdaaGreatF1
set_option linter.all false
set_option maxRecDepth 100000
open Bool renaming and_eq_true->Bo,false_or->Di,or_eq_false_iff->C6,true_or->Du
open Go renaming FuncId->B9
open Go.Proofs.Tryz renaming prog->BZ
open Go.Vi.GD renaming GG->A8,GX->BP,wt->BG,HS->Ax
open Go.Vi.GO renaming GG->Ay,HS->BC
open Go.Vi.Ge renaming name->Ao,GG->Am
open Go.Vi.Gj renaming GG->Aw
open Go.Vi.Gw renaming GK->BB
open Go.Vi.Item renaming r0->BU,Vj->BR,GG->Aq,GX->BK,wt->BF,HS->As
open Go.Vi.Obj renaming box->BI
open Go.Vi.St renaming G0->Av,Gg->Ar,HJ->A4
open Int renaming le_refl->Ct
open List renaming append_nil->CG,drop_eq_getElem_cons->Bt,getElem?_eq_getElem->Bc,getElem?_eq_some_iff->Bp,getElem?_map->CV,getElem_mem->Bl,getElem_of_mem->B4,length_append->Bd,length_cons->CE,length_map->Bb,map_append->Bu,mem_append->Bf,mem_map->B8,mem_singleton->By,nil_append->CC,range->CS,set_cons_succ->Cb,set_cons_zero->Ca,take_append_drop->CX,take_of_length_le->Cc,take_succ_eq_append_getElem->Cm
open Nat renaming le_refl->Bg
namespace Go.Vi
attribute [local irreducible] H0 HR Gp Ht Gf Hu GJ GM Gc HK HC JI G6 Hs Hq Ho JZ Jd Ip JN JW G2 Gq Hb pQ I2 Ic Gn Gb Gs HA HZ H8 Int.instDecidableEq Int.decEq instBEqOfDecidableEq
section
open Go.Proofs
@[reducible]def GO.lq(n:GO):LP:=[.Gh n.name,.GV (n.JS.map Am),.GV (n.Hz.map Am),.GV (n.GA.map Am),.GV (n.GQ.map Aq),I n.GY]
section
variable{N:List GO} {e a:Int} {bn:Nat} {GG:LP} {t:List BA} {bv eo:Nat} {s:St}
def tm.ck(h:tm N e a bn GG t bv eo s)(e' a':Int):tm N e' a' bn GG t bv eo (s.set 1 (.box (ck N e' a'))):=
 have h1:=h.n0;have h2:=h.v0
 ⟨(Ar AA).trans h.hp,A4,(Ar AA).trans h.hn,(Ar AA).trans h.hv,h.ho,h.n0,h.v0,h.lt⟩
def tm.new(h:tm N e a bn GG t bv eo s)(o:Obj):tm N e a bn GG t bv eo (s.new o):=
 have h1:=h.lt
 ⟨(Av rfl AA).trans h.hp,(Av rfl AA).trans h.hc,(Av rfl AA).trans h.hn,(Av rfl AA).trans h.hv,h.ho,h.n0,h.v0,by rw[G1];omega⟩
end
attribute [local irreducible] UL WV RJ Sn RI So
section
variable{N:List GO} {Q:PV->LLP->Prop} {n:GO} {i:Int}
def na(N:List GO)(Q:PV->LLP->Prop)(i e a:Int):Prop:=∃K,∀s,s.heap 0=some (.box [.GV (N.map Ay)])->s.heap 1=some (.box (ck N e a))->1<s.next->Ll 0 0 Q K (.GN 0 0) (.GN 1 0) (I i) s
def ACJ(hn:n.WF)(Pv:n.wt<=20000)(cK:0<=i)(hi:i<=100000){e a:Int}(ID:∀e' a',(e'=0->e=0/\(∀v∈n.GA,QU n.vars v)/\∀x∈n.GQ,qO n.vars x)->na N Q (i+1) e' a'):
  ∃K,∀(bn bv eo:Nat) (s:St),tm N e a bn n.lq n.vars bv eo s->RJ 0 0 Q (Ll 0 0 Q K) (.GN 0 0) (.GN 1 0) (I i) (.GN bn 0) (.HL bv (n.vars.map GC)) s:=by
 have Zt:=AZi i;simp only[GO.wt]at Pv;have HM:n.vars.length=n.JS.length+n.Hz.length+n.GA.length:=by simp[GO.vars,GO.all];omega
 obtain⟨r,e1,a1,Jy,rfl,h1⟩:=(YY (N:=N) (S:=n.vars) (l:=n.GA) AA AA (λv hv=>by have:=(hn.GA.all v hv).Ga;omega) e a).pc;by_cases he:e1=0
 case neg=>
  obtain⟨K,hK⟩:=ID e1 a1 λh=>Zq h he;refine⟨K,λbn bv eo s h=>?_⟩;have hpp:=h.hp;have er:=h.hc;have lW:=h.hn;obtain⟨n1,n2⟩:=h.n0;have G7:=h.lt;unfold RJ;refine zv ?_;refine ATj Jy rfl rfl AcA rfl ?_;refine GF (λh9=>Zq AI he) λ_=>?_;exact Ag9
 case pos=>
  obtain⟨g1,g2⟩:=h1 he;obtain⟨r,e2,a2,I4,rfl,h2⟩:=(AGt (N:=N) _ n.vars n.GQ (Bg _) AA AA hn.len hn.GQ e1 a1).pc;obtain⟨K,hK⟩:=ID e2 a2 λh=>⟨g1,g2,(h2 h).2⟩
  refine⟨K,λbn bv eo s h=>?_⟩;have hpp:=h.hp;have er:=h.hc;have lW:=h.hn;obtain⟨n1,n2⟩:=h.n0;have G7:=h.lt;unfold RJ;refine zv ?_;refine ATj Jy rfl rfl AcA rfl ?_;refine AT6 ?_ (λh9=>Zq he AI);refine zv ?_;refine GI I4 rfl rfl AcA rfl ?_;exact Ag9
def AAZ(hA:n.all.length<=70000){d:List BA}(hd:d.length<=100000){e0:Int}
  (ID:∀e a,(e=0->e0=0)->∃K,∀(bn bv eo:Nat) (s:St),tm N e a bn n.lq n.vars bv eo s->RJ 0 0 Q (Ll 0 0 Q K) (.GN 0 0) (.GN 1 0) (I i) (.GN bn 0) (.HL bv (n.vars.map GC)) s):
  ∀(c:Nat) (j e a:Int),0<=j->j<=n.all.length->n.all.length-j<=c->(e=0->e0=0)->
   ∃K k,∀(ba bd bn bv eo:Nat) (s:St),tm N e a bn n.lq n.vars bv eo s->Xg 0 0 Q (Ll 0 0 Q K) k (.GN 0 0) (.GN 1 0) (I i) (.GN bn 0) (.HL ba (n.all.map Am)) (.HL bv (n.vars.map GC)) (.HL bd (d.map GC)) (I j) s:=by
 have done:∀(j e a:Int),0<=j->¬(j<n.all.length/\e=0)->(e=0->e0=0)->
   ∃K k,∀(ba bd bn bv eo:Nat) (s:St),tm N e a bn n.lq n.vars bv eo s->Xg 0 0 Q (Ll 0 0 Q K) k (.GN 0 0) (.GN 1 0) (I i) (.GN bn 0) (.HL ba (n.all.map Am)) (.HL bv (n.vars.map GC)) (.HL bd (d.map GC)) (I j) s:=by
  intro j e a h0 Iz Jk;obtain⟨K,hK⟩:=ID e a Jk;refine⟨K,1,λba bd bn bv eo s h=>?_⟩;have er:=h.hc;show R4 _ _ _ _ _ _ _ _ _ _ _ _ _ _;unfold R4;refine zv ?_;refine Rv zh ?_;refine GF (λh9=>?_) λ_=>hK bn bv eo s h;exact AdV
 intro c
 induction c with
 |zero=>exactλj e a h0 h1 hc Jk=>done j e a h0 AA Jk
 |succ c ih=>
  intro j e a h0 h1 hc Jk;by_cases Iz:j<n.all.length/\e=0
  case neg=>exact done j e a h0 Iz Jk
  obtain⟨G7,he⟩:=Iz;have OH:=AZi j;have Gl:=Io h0 G7;cases hh:Kv d (n.all[j.toNat]' AA).name with
  |true=>
   obtain⟨K,k,hK⟩:=ih (j+1) e a AA AA AA Jk;refine⟨K,k+1,λba bd bn bv eo s h=>?_⟩;have er:=h.hc;show R4 _ _ _ _ _ _ _ _ _ _ _ _ _ _;unfold R4;refine zv ?_;refine Rv zh ?_;refine AT6 ?_ λh9=>?_
   case refine_2=>simp[he]at h9;omega
   refine pQ_v AcD ?_;refine GI (Ly _ _ AA) rfl rfl rfl rfl ?_;rw[hh];refine zv ?_;unfold Sn;refine zv ?_;rw[OH];exact hK ba bd bn bv eo s h
  |false=>
   obtain⟨r,e1,a1,IE,rfl,h2,_⟩:=(Ik (N:=N) (e:=e) (a:=a) (n.all[j.toNat]' AA).GY 24 AA).pc;obtain⟨K,k,hK⟩:=ih (j+1) e1 a1 AA AA AA λh=>Zq h h2;refine⟨K,k+1,λba bd bn bv eo s h=>?_⟩;have er:=h.hc;show R4 _ _ _ _ _ _ _ _ _ _ _ _ _ _;unfold R4;refine zv ?_;refine Rv zh ?_;refine AT6 ?_ λh9=>?_
   case refine_2=>simp[he]at h9;omega
   refine pQ_v AcD ?_;refine GI (Ly _ _ AA) rfl rfl rfl rfl ?_;rw[hh];refine zv ?_;refine pQ_v AcD ?_;refine GI IE rfl rfl AcA rfl ?_;unfold Sn;refine zv ?_;rw[OH];exact hK ba bd bn bv eo _ (h.ck e1 a1)
def AKj(hN:N.length<=60)(hn:n.WF)(Pv:n.wt<=20000)(cK:0<=i)(hi:i<=100000){e a:Int}(hd:e=0->gY n.vars)
  (hQ:∀e a,e≠0->Q (.tuple [I a,I e]) [])(ID:∀e' a',(e'=0->e=0/\O6 N i.toNat n)->na N Q (i+1) e' a'):
  ∃K,∀(ba bn bv eo:Nat) (s:St),tm N e a bn n.lq n.vars bv eo s->RI 0 0 Q (Ll 0 0 Q K) (.GN 0 0) (.GN 1 0) (I i) (.GN bn 0) (.HL ba (n.all.map Am)) (.HL bv (n.vars.map GC)) s:=by
 by_cases he:e=0
 case neg=>
  refine⟨0,λba bn bv eo s h=>?_⟩;have er:=h.hc;unfold RI;refine zv ?_;refine AT6 ?_ (λh9=>Zq AI he);exact ACd zh (hQ _ _ he)
 have S3:=Pv;simp only[GO.wt]at S3;have HM:n.vars.length=n.JS.length+n.Hz.length+n.GA.length:=by simp[GO.vars,GO.all];omega
 have JO:n.all.length=n.vars.length:=by simp[GO.vars]
 have AMb:n.ve.length<=n.vars.length:=by simp[GO.ve]
 have Tp:=ADt (nd:=i) hN _ n.vars n.ve n.GQ (Bg _) AA AA AA hn.len hn.GQ e a;obtain⟨r,e1,a1,IE,d,rfl,hdl,_,h1⟩:=Tp.pc
 obtain⟨K,k,hK⟩:=AAZ (Q:=Q) (N:=N) (n:=n) (i:=i) (d:=d) (e0:=e1) AA AA (λe2 a2 h2=>ACJ (Q:=Q) hn Pv cK hi λe3 a3 h3=>ID e3 a3 λh=>by
  obtain⟨q1,q2,q3⟩:=h3 h;obtain⟨q4,q5⟩:=h1 (h2 q1);exact⟨he,hd he,by rw[show((i.toNat:Nat):Int)=i by omega];exact q5,q2,q3⟩) (n.all.length-n.JS.length) n.JS.length e1 a1 AA AA AA id
 refine⟨K,λba bn bv eo s h=>?_⟩;have hpp:=h.hp;have er:=h.hc;have lW:=h.hn;have hvv:=h.hv;obtain⟨n1,n2⟩:=h.n0;obtain⟨v1,v2,v3⟩:=h.v0;obtain⟨l1,l2,l3⟩:=h.lt;unfold RI;refine zv ?_;refine GF (λh9=>Zq he AI) λ_=>?_;refine zv ?_;refine Fy (ya (r1:=[]) (r2:=[]) (a:=some n.JS.length) (c:=none) rfl (by simp[Qy,Lv]) rfl (Bg _) AB (HQ Gz)) ?_
 have La:((n.vars.map GC).drop ((some n.JS.length).getD 0)).take ((none:ON).getD (n.vars.map GC).length-(some n.JS.length).getD 0)=n.ve.map GC:=by
  simp only[Option.getD_some,Option.getD_none];rw[Cc AD];simp[GO.ve,List.map_drop]
 rw[La];refine zv ?_;refine ATj IE rfl rfl AcA rfl ?_;simp only[Bb];refine⟨k,hK ba s.next bn bv eo _ ((h.ck e1 a1).new _)⟩
end
end
section
open Go.Proofs
def T1{l:List GO}{q:Nat}(h:q<l.length):l[q].wt<=BC l:=by
 have h1:l=l.take q++l[q]::l.drop (q+1):=by
  rw[<- Bt h,CX]
 have h2:BC l=BC (l.take q)+(l[q].wt+BC (l.drop (q+1))):=by
  have:=GO.HY (l.take q) (l[q]::l.drop (q+1));rw[<- h1]at this;simpa[BC]using this
 omega
attribute [local irreducible] UL WV RJ Sn RI So
section
variable{N:List GO} {Q:PV->LLP->Prop}
def AH4(hN:N.length<=60)(hw:∀n∈N,n.WF)(Pv:BC N<=20000)(hQ:∀e a,(e=0->∀(q:Nat) (h:q<N.length),O6 N q N[q])->Q (.tuple [I a,I e]) []):
  ∀(c:Nat) (i e a:Int),0<=i->i<=N.length->N.length-i<=c->(e=0->∀(q:Nat) (h:q<N.length),(q:Int)<i->O6 N q N[q])->na N Q i e a:=by
 have done:∀(i e a:Int),0<=i->¬(i<N.length/\e=0)->(e=0->∀(q:Nat) (h:q<N.length),(q:Int)<i->O6 N q N[q])->na N Q i e a:=by
  intro i e a h0 Iz Jk;refine⟨1,λs h1 h2 h3=>?_⟩;show aT _ _ _ _ _ _ _ _;unfold aT;refine zv ?_;refine Rv zh ?_;refine AT7 (λh9=>?_) ?_
  .exact AdV
  .exact ACd zh (hQ _ _ λhe q hq=>Jk he q hq (by by_cases hi:i<N.length;exact Zq ⟨hi,he⟩ Iz;omega))
 intro c
 induction c with
 |zero=>exactλi e a h0 h1 hc Jk=>done i e a h0 AA Jk
 |succ c ih=>
  intro i e a h0 h1 hc Jk;by_cases Iz:i<N.length/\e=0
  case neg=>exact done i e a h0 Iz Jk
  obtain⟨G7,he⟩:=Iz;have Gl:=Rp h0 G7;have dm:=hw (N[i.toNat]' AA) (Bl _);have Uq:=T1 (l:=N) (q:=i.toNat) AA;generalize hg:N[i.toNat]' AA=n at Gl dm Uq;have AVa:=Uq;simp only[GO.wt]at AVa;have HM:n.all.length=n.JS.length+n.Hz.length+n.GA.length:=by simp[GO.all];omega
  obtain⟨rn,hrn,Ox⟩:=pZ N hN n.name i;have OE:n.JS.map Am++n.Hz.map Am++n.GA.map Am=n.all.map Am:=by simp[GO.all]
  obtain⟨K,k,hK⟩:=AHw (Q:=Q) (N:=N) (A:=n.all) (i:=i) (GG:=n.lq) (e0:=e) AA (λe1 a1 h=>AKj (Q:=Q) hN dm AA h0 AA (λhe=>(h he).2) (λe2 a2 YI=>hQ e2 a2 λh=>Zq h YI) λe2 a2 h2=>ih (i+1) e2 a2 AA AA AA λYI q hq hqi=>by
   by_cases YM:(q:Int)<i
   .exact Jk he q hq YM
   .have:q=i.toNat:=AA;subst this;rw[hg];exact(h2 YI).2) n.all.length 0 e a AA AA AA (λh=>⟨h,λq hq hq0=>by omega⟩)
  refine⟨K+1,λs h1 h2 h3=>?_⟩;show aT _ _ _ _ _ _ _ _;unfold aT;refine zv ?_;refine Rv zh ?_;refine AT6 ?_ λh9=>?_
  case refine_2=>simp[he]at h9;omega
  refine zv ?_;refine Fy Acd ?_;refine Fy AdL ?_;rw[GO.Zg];refine zv ?_;refine AZb hrn ?_;refine AT5 ?_ ?_
  .refine zv ?_;obtain⟨r,e1,a1,IE,rfl,h9,_⟩:=(Ik (N:=N) (e:=e) (a:=a) n.GY 20 AA).pc;refine GI IE rfl rfl AcA rfl ?_;exact ACd zh (hQ _ _ λh=>Zq h h9)
  .refine zv ?_;refine AZc Ab0 ?_;refine AZc Abe ?_;refine GR AcM ?_;rw[OE];refine zv ?_;refine⟨?_,?_⟩
   .simp only[G1,HI,Ky,Jl,dN,M5,OY,CC,CG];simp[Hl,IA,Iy];exact⟨by kernel_rfl,by kernel_rfl,by kernel_rfl⟩
   refine zv ?_;have h8:=hK;simp only[Int.toNat_zero,List.take_zero]at h8;exact⟨k,h8 _ s.next _ 0 _ ⟨zh,zh,zh,zh,.inl rfl,AA,AZw,AZw⟩⟩
def vg(hN:N.length<=60)(hw:∀n∈N,n.WF)(Pv:BC N<=20000):∃a e:Int,PC BZ 54 [.agg [.GV (N.map Ay)]] [] (.tuple [I a,I e]) []/\(e=0->∀(q:Nat) (h:q<N.length),O6 N q N[q]):=by
 obtain⟨K,hK⟩:=AH4 (N:=N) (Q:=λr c=>c=[]/\∃a e:Int,r=.tuple [I a,I e]/\(e=0->∀(q:Nat) (h:q<N.length),O6 N q N[q])) hN hw Pv (λe a h=>⟨rfl,a,e,rfl,h⟩) N.length 0 0 0 AA AA AA (λ_ q hq h0=>by omega)
 have:PQ BZ 54 [.agg [.GV (N.map Ay)]] [] (λr c=>c=[]/\∃a e:Int,r=.tuple [I a,I e]/\(e=0->∀(q:Nat) (h:q<N.length),O6 N q N[q])):=by
  refine AK3 0 rfl _ ?_;unfold c54;refine zv ?_;exact⟨K,hK _ zh zh (by simp only[G1,IG,HI];omega)⟩
 obtain⟨r,c,IE,rfl,a,e,rfl,h⟩:=this;exact⟨a,e,IE,h⟩
end
end
section
open Go.Proofs
def qZ(V:List Ge)(w:BA)(r:Int):Prop:=(0<=r/\∃v,V[r.toNat]?=some v/\v.name.toList=w.toList)\/(r= -1/\∀v∈V,v.name.toList≠w.toList)
def qZ.Kv{V:List Ge}{w:BA}{r:Int}(h:qZ V w r)(hh:Vi.Kv (V.map Ao) w=true):0<=r/\r<V.length:=by
 obtain⟨x,hx,he⟩:=OV.1 hh;obtain⟨v,hv,rfl⟩:=B8.1 hx;rcases h with⟨h0,v',h1,h2⟩|⟨_,h1⟩
 .have:=(Bp.1 h1).1;exact⟨h0,AA⟩
 .exact Zq he (h1 v hv)
def Ih(t:Int×Int):LP:=[I t.1,I t.2]
def I8{l:List (Int×Int)}{i:Int}(h0:0<=i)(h:i<l.length):(l.map Ih)[i.toNat]?=some (Ih (l[i.toNat]' AA)):=AgH
def AFA{l:List (Int×Int)}:∀r∈l.map Ih,r.length=2:=Aeg
def fX(t u:Int×Int):Bool:= !((t.1==u.1)&&((t.2==u.2)&&true))
def AFB(a b c d:Int):SP BZ .neq 74 (.agg [I a,I b]) (.agg [I c,I d])=some (.bool (!((a==c)&&((b==d)&&true)))):=by kernel_rfl
def OI{t u:Int×Int}{s:St}:H8 (HC BZ .neq 74 (.agg (Ih t)) (.agg (Ih u))) s (.bool (fX t u)) s [] []:=Gt (AFB _ _ _ _)
def an(V:List Ge)(hV:V.length<=100000)(w:BA):∃r,PC BZ 89 [.GV (V.map Am),.Gh w] [] (I r) []/\qZ V w r:=by
 have loop:∀c:Nat,∃k,∀(i:Int) (s:St), -1<=i->i<V.length->i+1<=c->(∀(j:Nat) (h:j<V.length),i<j->V[j].name.toList≠w.toList)->Gv s (CS 0)=some []->
   xR 0 0 (λr c=>c=[]/\∃r':Int,r=I r'/\qZ V w r') k (.GV (V.map Am)) (.Gh w) (I i) s:=by
  intro c
  induction c with
  |zero=>
   refine⟨1,λi s h0 h1 hc Pt hs=>?_⟩;show ic _ _ _ _ _ _ _ _;unfold ic;refine zv ?_;refine GF Abq λ_=>?_;exact Ae5
  |succ c ih=>
   obtain⟨k,ih⟩:=ih;refine⟨k+1,λi s h0 h1 hc Pt hs=>?_⟩;show ic _ _ _ _ _ _ _ _;unfold ic;refine zv ?_;refine GF (λh=>?_) λh=>?_
   .have hi:0<=i:=Ot h;have hw:IntKind.i64.wrap (i-1)=i-1:=HB AA AA;have lQ:V[i.toNat]?=some (V[i.toNat]' AA):=Bc AA;refine pQ_v (Gk hi (Io hi h1) rfl) ?_;refine GF (λh2=>?_) λh2=>?_
    .refine zv ?_;exact GW rfl rfl hs ⟨rfl,i,rfl,.inl ⟨hi,_,lQ,by simpa using h2⟩⟩
    .refine zv ?_;refine ih _ _ AA AA AA (λj hj hij=>?_) hs;by_cases hj2:i<j
     .exact Pt j hj hj2
     .exact AhU
   .have:=Zy h;exact Ae5
 have:PQ BZ 89 [.GV (V.map Am),.Gh w] [] (λr c=>c=[]/\∃r':Int,r=I r'/\qZ V w r'):=by
  refine ALP 0 rfl _ _ ?_;unfold c89;refine zv ?_;obtain⟨k,hk⟩:=loop V.length;have hw:IntKind.i64.wrap (((V.map Am).length:Int)-1)=(V.length:Int)-1:=by rw[Bb];exact HB AA AA
  rw[hw];exact⟨k,hk _ _ AA AA AA (λj hj h=>by omega) rfl⟩
 exact AhG
def Qa:PC BZ 90 [] [] (.agg [I 1,I 0]) []:=by
 have:PQ BZ 90 [] [] (λr c=>c=[]/\r=.agg [I 1,I 0]):=by
  refine ALQ 0 rfl ?_;unfold c90;refine zv ?_;exact GW AbR rfl rfl ⟨rfl,rfl⟩
 exact Adh
def tw(n:GO)(X:List Ge)(hl:n.all.length+X.length<=100000):PC BZ 40 [.agg n.lq,.GV (X.map Am)] [] (.GV ((n.all++X).map Am)) []:=by
 have HM:n.all.length=n.JS.length+n.Hz.length+n.GA.length:=by simp[GO.all];omega
 have OE:n.JS.map Am++n.Hz.map Am++n.GA.map Am=n.all.map Am:=by simp[GO.all]
 have:PQ BZ 40 [.agg n.lq,.GV (X.map Am)] [] (λr c=>c=[]/\r=.GV ((n.all++X).map Am)):=by
  refine AKw 0 rfl _ _ ?_;unfold c40;refine zv ?_;refine pQ_v Ab0 ?_;refine AZc Abe ?_;refine GR AcM ?_;rw[OE];refine zv ?_;refine⟨?_,?_⟩
  .exact zc
  refine zv ?_;refine pQ_v (Jp rfl (HQ Ki) (G4 AB AA) (HQ Ki) (by rw[<- OE];simp only[Bd];exact zh) (.inr rfl)) ?_;rw[<- Bu];refine GW rfl rfl rfl ⟨rfl,rfl⟩
 exact Adh
end
section
open Go.Proofs
def Q2(t:Int×Int):Prop:=0<=t.1/\t.1<=9
def Ge.ty(v:Ge):Int×Int:=(v.tk,v.tl)
structure Zw (N:List GO) (e a:Int) (xr:List PV) (n:GO) (s:St):Prop where
 h0:s.heap 0=some (.box (ck N e a))
 h1:s.heap 1=some (.box xr)
 h3:s.heap 3=some (.box n.lq)
 lt:4<s.next
attribute [local irreducible] QH Qe Qd Qf Qc Ry Qh Qg PB Qb
section
variable{N:List GO} {e a:Int} {f s1 tk tl i m GY:Int} {nm:BA} {kr:LLP} {n:GO} {Q:PV->LLP->Prop} {e0:Int}
def RC(N:List GO)(e:Int)(Q:PV->LLP->Prop):Prop:=∀(e' a':Int) (T:List (Int×Int)),T.length<=100000->(∀t∈T,Q2 t)->(e'=0->e=0)->Q (.GV (T.map Ih)) [ck N e' a']
def ACk{xr:LP}(QQ:xr[8]?=some (I GY)){bad:Int}{T:List (Int×Int)}(hT:T.length<=100000)(hTy:∀t∈T,Q2 t){out:PV}(ho:out=.GV (T.map Ih)\/∃b,out=.HL b (T.map Ih))(hQ:RC N e Q){s:St}(h:Zw N e a xr n s):
  QH 0 1 Q (.GN 0 0) (.GN 1 0) (I bad) out s:=by
 have Ls:=h.h0;have jh:=h.h1;have G7:=h.lt;unfold QH;refine zv ?_;refine AT7 (λhb=>?_) ?_
 .exact Ahl
 .rcases ho with rfl|⟨b,rfl⟩
  .exact Agq
  .exact Agq
def AIJ{xr:LP}(QQ:xr[8]?=some (I GY))(hn:n.Hz.length<=20000)(hw:∀v∈n.Hz,v.WF){bad:Int}(hQ:RC N e Q):
  ∀c:Nat,∃k,∀(j:Int) (b eo:Nat) (s:St),0<=j->j<=n.Hz.length->n.Hz.length-j<=c->Zw N e a xr n s->s.heap b=some (.HE (((n.Hz.take j.toNat).map Ge.ty).map Ih).length eo)->((((n.Hz.take j.toNat).map Ge.ty).map Ih)=[]\/eo=2)->3<b->
   V0 0 1 Q k (.GN 0 0) (.GN 1 0) (.GN 3 0) (I bad) (.HL b (((n.Hz.take j.toNat).map Ge.ty).map Ih)) (I j) s:=by
 have AW7:∀t∈n.Hz.map Ge.ty,Q2 t:=by
  intro t ht;obtain⟨v,hv,rfl⟩:=B8.1 ht;exact(hw v hv).tk
 have done:∀(j:Int) (b:Nat) (s:St) (k:Nat),0<=j->j=n.Hz.length->Zw N e a xr n s->
   V0 0 1 Q (k+1) (.GN 0 0) (.GN 1 0) (.GN 3 0) (I bad) (.HL b (((n.Hz.take j.toNat).map Ge.ty).map Ih)) (I j) s:=by
  intro j b s k h0 hj h;have h33:=h.h3;show TY _ _ _ _ _ _ _ _ _ _ _;unfold TY;refine zv ?_;refine AT7 (λh9=>?_) ?_
  .exact Adb
  .rw[Cc AA];exact ACk QQ AB AW7 (.inr ⟨_,rfl⟩) hQ h
 intro c
 induction c with
 |zero=>exact⟨1,λj b eo s h0 h1 hc h hb ho ma=>done j b s 0 h0 AA h⟩
 |succ c ih=>
  obtain⟨k,ih⟩:=ih;refine⟨k+1,λj b eo s h0 h1 hc h hb ho ma=>?_⟩;by_cases G7:j<n.Hz.length
  case neg=>exact done j b s k h0 AA h
  have OH:=AZi j;have Gl:=Io h0 G7;have HM:((n.Hz.take j.toNat).map Ge.ty).length<=20000:=by simp;omega
  have rh:(n.Hz.take (j+1).toNat).map Ge.ty=(n.Hz.take j.toNat).map Ge.ty++[(n.Hz[j.toNat]' AA).ty]:=by
   rw[show(j+1).toNat=j.toNat+1 by omega,Cm AA,Bu];rfl
  have ih2:=ih (j+1) b 2;rw[rh]at ih2;generalize(n.Hz.take j.toNat).map Ge.ty=T at hb ho HM ih2⊢;have h33:=h.h3;have Ls:=h.h0;have jh:=h.h1;show TY _ _ _ _ _ _ _ _ _ _ _;unfold TY;refine zv ?_;refine AT6 ?_ λh9=>?_
  case refine_2=>have:=Zy h9;rw[Bb]at this;omega
  refine zv ?_;refine pQ_v AcE ?_;refine pQ_v (Jp rfl rfl (G4 AB AA) (HQ AFA) zh (ho.imp (λh=>by rw[h];rfl) λh=>h.symm)) ?_;rw[OH];have L7:T.map Ih++[Ih (n.Hz[j.toNat]' AA).ty]=(T++[(n.Hz[j.toNat]' AA).ty]).map Ih:=by rw[Bu];rfl
  have h8:=ih2 (s.set b (.HE ((T.map Ih).length+1) 2)) AA AA AA ⟨zh,zh,zh,h.lt⟩ AZq (.inr rfl) ma;rw[<- L7]at h8;exact h8
def ANI{xr:LP}{K:List (Int×Int)}(hn:n.JS.length<=20000)(hK:n.JS.length<=K.length){b:Nat}
  (ID:∀(bad:Int) (s:St),Zw N e a xr n s->s.heap b=some (.HE 0 0)->Qd 0 1 Q (.GN 0 0) (.GV (K.map Ih)) (.GN 1 0) (.GN 3 0) (I bad) (.HL b []) s):
  ∀c:Nat,∃k,∀(j bad:Int) (s:St),0<=j->j<=n.JS.length->n.JS.length-j<=c->Zw N e a xr n s->s.heap b=some (.HE 0 0)->
   TZ 0 1 Q k (.GN 0 0) (.GV (K.map Ih)) (.GN 1 0) (.GN 3 0) (I bad) (.HL b []) (I j) s:=by
 have done:∀(j bad:Int) (s:St) (k:Nat),0<=j->j=n.JS.length->Zw N e a xr n s->s.heap b=some (.HE 0 0)->
   TZ 0 1 Q (k+1) (.GN 0 0) (.GV (K.map Ih)) (.GN 1 0) (.GN 3 0) (I bad) (.HL b []) (I j) s:=by
  intro j bad s k h0 hj h hb;have h33:=h.h3;show Ta _ _ _ _ _ _ _ _ _ _ _ _;unfold Ta;refine zv ?_;refine GF (λh9=>?_) λ_=>ID bad s h hb;exact Adb
 intro c
 induction c with
 |zero=>exact⟨1,λj bad s h0 h1 hc h hb=>done j bad s 0 h0 AA h hb⟩
 |succ c ih=>
  obtain⟨k,ih⟩:=ih;refine⟨k+1,λj bad s h0 h1 hc h hb=>?_⟩;by_cases G7:j<n.JS.length
  case neg=>exact done j bad s k h0 AA h hb
  have OH:=AZi j;have Gl:=Io h0 G7;have Q9:=I8 (l:=K) h0 AA;have h33:=h.h3;show Ta _ _ _ _ _ _ _ _ _ _ _ _;unfold Ta;refine zv ?_;refine AT6 ?_ λh9=>?_
  case refine_2=>have:=Zy h9;rw[Bb]at this;omega
  refine AZc AdM ?_;refine AZc AcE ?_;refine GR (OI (t:=K[j.toNat]' AA) (u:=(n.JS[j.toNat]' AA).ty)) ?_;refine⟨zc,?_⟩;refine AT5 ?_ ?_
  .exact Agj
  .exact Agj
def AHo{xr:LP}(Tt:xr[0]?=some (I f))(QQ:xr[8]?=some (I GY)){K:List (Int×Int)}(hK:K.length<=100000)(hf:f=14->0<K.length)(hn:n.Hz.length<=20000)(hw:∀v∈n.Hz,v.WF)(hQ:RC N e Q){bad:Int}{b:Nat}(ma:3<b){s:St}(h:Zw N e a xr n s)(hb:s.heap b=some (.HE 0 0)):
  Qd 0 1 Q (.GN 0 0) (.GV (K.map Ih)) (.GN 1 0) (.GN 3 0) (I bad) (.HL b []) s:=by
 have tail:∀bad,Qe 0 1 Q (.GN 0 0) (.GN 1 0) (.GN 3 0) (I bad) (.HL b []) s:=by
  intro bad;obtain⟨k,hk⟩:=AIJ (N:=N) (e:=e) (a:=a) (n:=n) (xr:=xr) (bad:=bad) QQ hn hw hQ n.Hz.length;unfold Qe;exact⟨k,hk 0 b 0 s AA AA AA h AY (.inl rfl) ma⟩
 have jh:=h.h1;unfold Qd;refine zv ?_;refine AZc (GH zh Tt) ?_;cases hf14:(f==14)
 .refine zv ?_;refine⟨zc,?_⟩;refine zv ?_;exact tail _
 .have M4:f=14:=by simpa using hf14
  have hk0:=hf M4;have hwk:IntKind.i64.wrap (((K.map Ih).length:Int)-1)=(K.length:Int)-1:=by rw[Bb];exact HB AA AA
  refine zv ?_;rw[hwk];refine AYo (Gk AA (I8 (l:=K) AA AA) rfl) ?_;refine AWd Qa ?_;refine AYo (OI (t:=K[((K.length:Int)-1).toNat]' AA) (u:=(1,0))) ?_;refine⟨zc,?_⟩;refine GF (λ_=>tail _) λ_=>tail _
end
end
section
open Go.Proofs
attribute [local irreducible] QH Qe Qd Qf Qc Ry Qh Qg PB Qb
section
variable{N:List GO} {e a:Int} {f GY:Int} {n:GO} {Q:PV->LLP->Prop} {xr:LP} {K:List (Int×Int)}
def ANk(QQ:xr[8]?=some (I GY))(hK:0<K.length)(hn:n.Hz.length=1)(hw:∀v∈n.Hz,v.WF)(hQ:RC N e Q){bad:Int}{s:St}(h:Zw N e a xr n s):
  Ry 0 1 Q (.GN 0 0) (.GV (K.map Ih)) (.GN 1 0) (.GN 3 0) (I bad) s:=by
 have h33:=h.h3;have Gl:=Io (l:=n.Hz) (i:=0) AA AA;have Q9:=I8 (l:=K) (i:=0) AA AA;have hv:(n.Hz[(0:Int).toNat]' AB).WF:=hw _ (Bl _);generalize n.Hz[(0:Int).toNat]' AB=v at Gl hv;generalize K[(0:Int).toNat]' AB=t at Q9;unfold Ry;refine zv ?_;refine AZc (Gk AA Gl rfl) ?_;refine AZc (Gk AA Q9 rfl) ?_;refine⟨zc,?_⟩;exact ACk (T:=[(v.tk,t.2)]) QQ AD (by simpa[Q2]using hv.tk) (.inl rfl) hQ h
def AGz(QQ:xr[8]?=some (I GY))(hK:0<K.length)(hK2:K.length<=100000)(hi:n.JS.length=K.length)(hn:n.Hz.length=1)(hw:∀v∈n.Hz,v.WF)(hQ:RC N e Q):
  ∀c:Nat,∃k,∀(j bad:Int) (s:St),0<=j->j<=K.length->K.length-j<=c->Zw N e a xr n s->
   Rz 0 1 Q k (.GN 0 0) (.GV (K.map Ih)) (.GN 1 0) (.GN 3 0) (I bad) (I j) s:=by
 have done:∀(j bad:Int) (s:St) (k:Nat),0<=j->j=K.length->Zw N e a xr n s->
   Rz 0 1 Q (k+1) (.GN 0 0) (.GV (K.map Ih)) (.GN 1 0) (.GN 3 0) (I bad) (I j) s:=by
  intro j bad s k h0 hj h;show Tb _ _ _ _ _ _ _ _ _ _ _;unfold Tb;refine zv ?_;refine GF (λh9=>?_) λ_=>ANk QQ hK hn hw hQ h;exact Adb
 intro c
 induction c with
 |zero=>exact⟨1,λj bad s h0 h1 hc h=>done j bad s 0 h0 AA h⟩
 |succ c ih=>
  obtain⟨k,ih⟩:=ih;refine⟨k+1,λj bad s h0 h1 hc h=>?_⟩;by_cases G7:j<K.length
  case neg=>exact done j bad s k h0 AA h
  have OH:=AZi j;have Gl:=Io (l:=n.JS) h0 AA;have Q9:=I8 (l:=K) h0 AA;have Jn:=I8 (l:=K) (i:=0) AA AA;generalize n.JS[j.toNat]' AA=v at Gl;generalize K[j.toNat]' AA=t at Q9;generalize K[(0:Int).toNat]' AB=t0 at Jn;have h33:=h.h3
  have next:∀bad,Qh 0 1 Q (Rz 0 1 Q k) (.GN 0 0) (.GV (K.map Ih)) (.GN 1 0) (.GN 3 0) (I bad) (I j) s:=by
   intro bad;unfold Qh;exact AhQ
  show Tb _ _ _ _ _ _ _ _ _ _ _;unfold Tb;refine zv ?_;refine AT6 ?_ λh9=>?_
  case refine_2=>have:=Zy h9;rw[Bb]at this;omega
  refine zv ?_;refine AZc AcE ?_;cases Rl:decide (v.tl>0)
  case true=>
   exact Afm
  refine zv ?_;refine AYn AdM ?_;cases Tm:(t.2==0)
  case true=>
   exact Afm
  refine zv ?_;refine AYn AdM ?_;refine AYn (Gk AA Jn rfl) ?_;cases tZ:(t.2 !=t0.2)
  case true=>
   exact Afm
  refine zv ?_;refine AYn AdM ?_;refine AYn AcE ?_;refine⟨zc,?_⟩;exact GF (λ_=>next _) λ_=>next _
def call122(Tt:xr[0]?=some (I f))(QQ:xr[8]?=some (I GY))(hK:K.length<=100000)(VN:n.JS.length<=20000)(hn:n.Hz.length<=20000)(hw:∀v∈n.Hz,v.WF)(hQ:RC N e Q){Po:Int}(ARo:n.JS.length<=Po/\(f=14->0<Po)){bad:Int}{b:Nat}(ma:3<b){s:St}(h:Zw N e a xr n s)(hb:s.heap b=some (.HE 0 0)):
  Qc 0 1 Q (.GN 0 0) (.GV (K.map Ih)) (.GN 1 0) (.GN 3 0) (I bad) (.HL b []) (I Po) s:=by
 have Ls:=h.h0;have jh:=h.h1;have G7:=h.lt;unfold Qc;refine zv ?_;refine AT6 ?_ λh9=>?_
 .obtain⟨r,e1,a1,IE,rfl,h2,_⟩:=(Ik (N:=N) (e:=e) (a:=a) GY 23 AA).pc;refine zv ?_;refine Fy (GH zh QQ) ?_;exact Ads
 .have HM:(K.length:Int)=Po:=by simpa using h9
  obtain⟨k,hk⟩:=ANI (N:=N) (e:=e) (a:=a) (n:=n) (xr:=xr) (K:=K) (b:=b) VN AA (λbad s h hb=>AHo (Q:=Q) Tt QQ hK (λhf=>by have:=ARo.2 hf;omega) hn hw hQ ma h hb) n.JS.length;exact⟨k,hk 0 bad s AA AA AA h hb⟩
def ALb(QQ:xr[8]?=some (I GY))(hQ:RC N e Q){bad:Int}{b:Nat}{t:Int×Int}(ht:Q2 t){s:St}(h:Zw N e a xr n s)(hb:s.heap b=some (.box (Ih t))):
  PB 0 1 Q (.GN 0 0) (.GN 1 0) (I bad) (.GN b 0) s:=by
 unfold PB;refine zv ?_;exact ACk (T:=[t]) QQ AD (by simpa using ht) (.inl rfl) hQ h
def AGp(Tt:xr[0]?=some (I f))(QQ:xr[8]?=some (I GY))(hf:f=13\/f=14\/f=18\/f=19)(hK:K.length<=100000)(xo:f=18->0<K.length)(h19:f=19->K.length=2)(VN:n.JS.length<=20000)(hn:n.Hz.length<=20000)(Zt:∀v∈n.JS,v.WF)(hw:∀v∈n.Hz,v.WF)(hQ:RC N e Q){s:St}(h:Zw N e a xr n s)(hb:s.heap 4=some (.HE 0 0)):
  Qb 0 1 Q (.GN 0 0) (.GV (K.map Ih)) (.GN 1 0) (.GN 3 0) (I 0) (.HL 4 []) (I f) (.bool (f==13||f==14)) s:=by
 have Ls:=h.h0;have jh:=h.h1;have h33:=h.h3;have G7:=h.lt
 have fail:Gn BZ 68 [.GN 0 0,I GY,I 23] s (λv348 AW2=>pQ (some (.HE 0 0 λb=> .HL b [])) AW2 λAXT AW3=>HA (Q5 [some AXT]) λl=>HZ 0 1 (Lg l) AW3 Q):=by
  obtain⟨r,e1,a1,IE,rfl,h2,_⟩:=(Ik (N:=N) (e:=e) (a:=a) GY 23 AA).pc;exact Ads
 unfold Qb;cases hc:(f==13||f==14)
 case true=>
  refine ct ?_;refine zv ?_;refine pQ_v (GH zh Tt) ?_;cases h14:(f==14)
  .refine zv ?_;rw[Bb];have:f≠14:=by simpa using h14
   exact call122 Tt QQ hK VN hn hw hQ ⟨Ct _,λh=>Zq h this⟩ AA h hb
  .have hwk:IntKind.i64.wrap (((n.JS.map Am).length:Int)+1)=(n.JS.length:Int)+1:=by rw[Bb];exact HB AA AA
   refine zv ?_;rw[hwk];exact call122 Tt QQ hK VN hn hw hQ ⟨AA,λh=>by omega⟩ AA h hb
 case false=>
  simp only[C6,beq_eq_false_iff_ne]at hc;refine cf ?_;refine zv ?_;cases h18':(f==18)
  case true=>
   have AQM:f=18:=by simpa using h18'
   have hk0:=xo AQM;refine zv ?_;cases Rl:(((n.Hz.map Am).length:Int) !=1)
   case true=>
    exact Ad4
   have fT:n.Hz.length=1:=by simp at Rl;omega
   refine zv ?_;refine AT6 ?_ λTm=>?_
   .exact Ad4
   .have gJ:n.JS.length=K.length:=by simp at Tm;omega
    have Gl:=Io (l:=n.Hz) (i:=0) AA AA;generalize n.Hz[(0:Int).toNat]' AB=v at Gl;obtain⟨k,hk⟩:=AGz (N:=N) (e:=e) (a:=a) (n:=n) (xr:=xr) (K:=K) (Q:=Q) QQ hk0 hK gJ fT hw hQ K.length
    have key:∀bad,Qg 0 1 Q (.GN 0 0) (.GV (K.map Ih)) (.GN 1 0) (.GN 3 0) (I bad) s:=by
     intro bad;unfold Qg;exact⟨k,hk 0 bad s AA AA AA h⟩
    refine zv ?_;refine pQ_v (Gk AA Gl rfl) ?_;exact GF (λ_=>key _) λ_=>key _
  case false=>
   have AQM:f≠18:=by simpa using h18'
   have AQN:f=19:=AA;have Jm:=h19 AQN;have AUN:(f==19)=true:=by simpa using AQN
   refine zv ?_;rw[AUN];refine zv ?_;cases Rl:(((n.Hz.map Am).length:Int) !=1)
   case true=>
    exact Ad4
   have fT:n.Hz.length=1:=by simp at Rl;omega
   refine zv ?_;refine AT6 ?_ λTm=>?_
   .exact Ad4
   .have gJ:n.JS.length=2:=by simp at Tm;omega
    have Jn:=Io (l:=n.JS) (i:=0) AA AA;have OE:=Io (l:=n.JS) (i:=1) AA AA;have qW:(n.JS[(0:Int).toNat]' AB).WF:=Zt _ (Bl _);have AJm:=Io (l:=n.Hz) (i:=0) AA AA;have Q9:=I8 (l:=K) (i:=0) AA AA;have vM:=I8 (l:=K) (i:=1) AA AA;generalize n.JS[(0:Int).toNat]' AB=v at Jn qW;generalize n.JS[(1:Int).toNat]' AB=v1 at OE;generalize n.Hz[(0:Int).toNat]' AB=o at AJm;generalize K[(0:Int).toNat]' AB=t0 at Q9;generalize K[(1:Int).toNat]' AB=t1 at vM;refine zv ?_;refine pQ_v (Gk AA Jn rfl) ?_;refine pQ_v (Gk AA OE rfl) ?_
    have fin:∀bad,PB 0 1 Q (.GN 0 0) (.GN 1 0) (I bad) (.GN s.next 0) ((((s.new (BI [I 0,I 0])).set s.next (BI (List.take 2 (List.drop (0+1) v.GG)))).new (BI [I 0,I 0])).set (s.next+1) (BI (List.take 2 (List.drop (0+1) v1.GG)))):=by
     intro bad;exact ALb (t:=v.ty) QQ hQ qW.tk ⟨zh,zh,zh,by simp only[G1,HI];omega⟩ zh
    cases tZ:decide (v.tl>0)
    case true=>
     exact Ae7
    refine zv ?_;cases hg4:decide (v1.tl>0)
    case true=>
     exact Ae7
    refine zv ?_;refine AYn (Gk AA AJm rfl) ?_;refine AYn (OI (t:=o.ty) (u:=v.ty)) ?_;cases hg5:fX o.ty v.ty
    case true=>
     exact Ae7
    refine zv ?_;refine AYn (Gk AA Q9 rfl) ?_;refine AYn (OI (t:=t0) (u:=v.ty)) ?_;cases hg6:fX t0 v.ty
    case true=>
     exact Ae7
    refine zv ?_;refine AYn (Gk AA vM rfl) ?_;cases hg7:(t1.2==0)
    case true=>
     exact Ae7
    refine zv ?_;refine AYn (Gk AA vM rfl) ?_;exact⟨zc,GF (λ_=>fin _) λ_=>fin _⟩
end
end
section
open Go.Proofs
def Gw.Vb(x:Gw):x.GG.all PV.IT=true:=by rw[Gw.IC];rfl
def O5.all{N:List GO}{w:BA}{nd r r':Int}(h:O5 N w nd r)(h0:0<=r)(h':O5 N w N.length r'):0<=r'/\r'<N.length:=by
 rcases h with⟨_,_,n,h1,h2⟩|⟨h1,_⟩
 .rcases h' with⟨h3,h4,_⟩|⟨_,h4⟩
  .exact⟨h3,h4⟩
  .have:=(Bp.1 h1).1;exact Zq h2 (h4 _ _ h1 AA)
 .omega
def QTy(e:Int)(r:PV)(e':Int):Prop:=∃T:List (Int×Int),r=.GV (T.map Ih)/\T.length<=100000/\(∀t∈T,Q2 t)/\(e'=0->e=0)
attribute [local irreducible] QH Qe Qd Qf Qc Ry Qh Qg PB Qb
section
variable{N:List GO} {nd:Int}
def ze(hN:N.length<=60)(xu:∀n∈N,n.WF)(lr:BC N<=20000){f s1 tk tl i m GY:Int}{nm:BA}{GP:List Gw}(hf:f=13\/f=14\/f=18\/f=19){K:List (Int×Int)}(hK:K.length<=100000)(xo:f=18->0<K.length)(h19:f=19->K.length=2){r0:Int}(yC:0<=r0)(ARI:O5 N nm nd r0)(e a:Int):
  CF N 113 [.agg (Gw.mk f s1 nm tk tl i m GP GY).GG,.GV (K.map Ih)] e a λr e' a'=>QTy e r e':=by
 obtain⟨rn,hrn,Ox⟩:=pZ N hN nm N.length;obtain⟨g0,g1⟩:=ARI.all yC Ox;have Gl:=Rp g0 g1;have dm:=xu (N[rn.toNat]' AA) (Bl _);have Uq:=T1 (l:=N) (q:=rn.toNat) AA;generalize N[rn.toNat]' AA=n at Gl dm Uq;simp only[GO.wt]at Uq;refine AF5 0 rfl _ _ _ ?_;unfold APA;refine Fy AcJ ?_;simp only[Gw.GG];refine zv ?_;rw[Bb];refine AWd hrn ?_;refine GR (Gk g0 Gl (GO.GX _)) ?_;refine GR AdL ?_;rw[GO.Zg];refine zv ?_;refine⟨zc,?_⟩;refine zv ?_;have key:=λ(s:St) (h:Zw N e a [I f,I s1,.Gh nm,I tk,I tl,I i,I m,.GV (BB GP),I GY] n s) (hb:s.heap 4=some (.HE 0 0))=>AGp (f:=f) (GY:=GY) (Q:=λr c=>∃e' a',c=[ck N e' a']/\QTy e r e') rfl rfl hf hK xo h19 AA AA dm.JS.all dm.Hz.all (λe' a' T h1 h2 h3=>⟨e',a',rfl,T,rfl,h1,h2,h3⟩) h hb;cases h13:(f==13)
 .rw[h13,Di]at key;refine zv ?_;cases h14:(f==14)
  .rw[h14]at key;exact AeY
  .rw[h14]at key;exact AeY
 .rw[h13,Du]at key;refine ct ?_;exact AeY
end
end
section
open Go.Proofs
structure mD (N:List GO) (e a:Int) (xr:List PV) (bt:Nat) (t:Int×Int) (s:St):Prop where
 h0:s.heap 0=some (.box (ck N e a))
 h1:s.heap 1=some (.box xr)
 ht:s.heap bt=some (.box (Ih t))
 lt:1<bt/\bt<s.next
def mD.ty{N:List GO}{e a:Int}{xr:LP}{bt:Nat}{t:Int×Int}{s:St}(h:mD N e a xr bt t s)(u:Int×Int):mD N e a xr bt u (s.set bt (.box (Ih u))):=
 have h1:=h.lt
 ⟨(Ar AA).trans h.h0,(Ar AA).trans h.h1,A4,h.lt⟩
attribute [local irreducible] Lm RL RM RN RP RQ RT RU RV Su RW QL QM PL RO ab
section
variable{N:List GO} {e a:Int} {GY:Int} {Q:PV->LLP->Prop} {xr:LP} {bt bk:Nat} {t:Int×Int} {s:St} {K:List (Int×Int)} {bad:Int}
def Qm(QQ:xr[8]?=some (I GY))(hQ:RC N e Q)(ht:Q2 t)(h:mD N e a xr bt t s):Lm 0 1 Q (.GN 0 0) (.GN 1 0) (I bad) (.GN bt 0) s:=by
 have Ls:=h.h0;have jh:=h.h1;have htt:=h.ht;have G7:=h.lt;unfold Lm;refine zv ?_;refine AT7 (λhb=>?_) ?_
 .exact Ahl
 .refine zv ?_;refine GW rfl rfl AbQ (hQ _ _ [t] AD (by simpa using ht) id)
def um(QQ:xr[8]?=some (I GY))(hQ:RC N e Q)(hK:0<K.length)(Pu:∀t∈K,Q2 t)(h:mD N e a xr bt t s):RL 0 1 Q (.GN 0 0) (.GN 1 0) (.HL bk (K.map Ih)) (I bad) (.GN bt 0) s:=by have Gl:=I8 (l:=K) (i:=0) AA AA;have Jk:=Pu (K[(0:Int).toNat]' AB) (Bl _);generalize K[(0:Int).toNat]' AB=u at Gl Jk;have htt:=h.ht;unfold RL;exact AeT
def ACa(QQ:xr[8]?=some (I GY))(hQ:RC N e Q)(hK:0<K.length)(Pu:∀t∈K,Q2 t)(h:mD N e a xr bt t s):RP 0 1 Q (.GN 0 0) (.GN 1 0) (.HL bk (K.map Ih)) (I bad) (.GN bt 0) s:=by have Gl:=I8 (l:=K) (i:=0) AA AA;have Jk:=Pu (K[(0:Int).toNat]' AB) (Bl _);generalize K[(0:Int).toNat]' AB=u at Gl Jk;have htt:=h.ht;unfold RP;exact AeT
def ACb(QQ:xr[8]?=some (I GY))(hQ:RC N e Q)(hK:0<K.length)(Pu:∀t∈K,Q2 t)(h:mD N e a xr bt t s):RQ 0 1 Q (.GN 0 0) (.GN 1 0) (.HL bk (K.map Ih)) (I bad) (.GN bt 0) s:=by have Gl:=I8 (l:=K) (i:=0) AA AA;have Jk:=Pu (K[(0:Int).toNat]' AB) (Bl _);generalize K[(0:Int).toNat]' AB=u at Gl Jk;have htt:=h.ht;unfold RQ;exact AeT
def uq(QQ:xr[8]?=some (I GY))(hQ:RC N e Q)(hK:0<K.length)(Pu:∀t∈K,Q2 t)(h:mD N e a xr bt t s):RT 0 1 Q (.GN 0 0) (.GN 1 0) (.HL bk (K.map Ih)) (I bad) (.GN bt 0) s:=by have Gl:=I8 (l:=K) (i:=0) AA AA;have Jk:=Pu (K[(0:Int).toNat]' AB) (Bl _);generalize K[(0:Int).toNat]' AB=u at Gl Jk;have htt:=h.ht;unfold RT;exact AeT
def uo(QQ:xr[8]?=some (I GY))(hQ:RC N e Q)(hK:1<K.length)(Pu:∀t∈K,Q2 t)(h:mD N e a xr bt t s):RN 0 1 Q (.GN 0 0) (.GN 1 0) (.HL bk (K.map Ih)) (I bad) (.GN bt 0) s:=by have Gl:=I8 (l:=K) (i:=1) AA AA;have Jk:=Pu (K[(1:Int).toNat]' AB) (Bl _);generalize K[(1:Int).toNat]' AB=u at Gl Jk;have htt:=h.ht;unfold RN;exact AeT
def oa(QQ:xr[8]?=some (I GY))(hQ:RC N e Q){kk:Int}(hk:0<=kk/\kk<=9)(h:mD N e a xr bt t s):RM 0 1 Q (.GN 0 0) (.GN 1 0) (I bad) (.GN bt 0) (I kk) s:=by have htt:=h.ht;unfold RM;refine zv ?_;exact Qm (t:=(kk,t.2)) QQ hQ hk (h.ty (kk,t.2))
def ACc{tk tl:Int}(hx3:TF 2 xr 3=some (.agg (Ih (tk,tl))))(QQ:xr[8]?=some (I GY))(hQ:RC N e Q)(hk:0<=tk/\tk<=9)(h:mD N e a xr bt t s):RU 0 1 Q (.GN 0 0) (.GN 1 0) (I bad) (.GN bt 0) s:=by have htt:=h.ht;have jh:=h.h1;unfold RU;refine zv ?_;refine pQ_v (M7 zh hx3) ?_;exact Qm (t:=(tk,tl)) QQ hQ hk (h.ty (tk,tl))
def od(QQ:xr[8]?=some (I GY))(hQ:RC N e Q)(h:mD N e a xr bt t s):RV 0 1 Q (.GN 0 0) (.GN 1 0) (I bad) (.GN bt 0) s:=by have htt:=h.ht;unfold RV;refine AZb Qa ?_;exact Qm (t:=(1,0)) QQ hQ ⟨AA,AA⟩ (h.ty (1,0))
def ur(QQ:xr[8]?=some (I GY))(hQ:RC N e Q)(hK:0<K.length)(Pu:∀t∈K,Q2 t)(h:mD N e a xr bt t s):QL 0 1 Q (.GN 0 0) (.GN 1 0) (.HL bk (K.map Ih)) (I bad) (.GN bt 0) s:=by have Gl:=I8 (l:=K) (i:=0) AA AA;have Jk:=Pu (K[(0:Int).toNat]' AB) (Bl _);generalize K[(0:Int).toNat]' AB=u at Gl Jk;have htt:=h.ht;unfold QL;refine pQ_v Ab3 ?_;exact Qm (t:=(u.1,t.2)) QQ hQ Jk (h.ty (u.1,t.2))
def oe{i:Int}(hx5:xr[5]?=some (I i))(QQ:xr[8]?=some (I GY))(hQ:RC N e Q)(hK:0<K.length)(Pu:∀t∈K,Q2 t)(h:mD N e a xr bt t s):QM 0 1 Q (.GN 0 0) (.GN 1 0) (.HL bk (K.map Ih)) (I bad) (.GN bt 0) s:=by have Gl:=I8 (l:=K) (i:=0) AA AA;have Jk:=Pu (K[(0:Int).toNat]' AB) (Bl _);generalize K[(0:Int).toNat]' AB=u at Gl Jk;have htt:=h.ht;have jh:=h.h1;have G7:=h.lt;unfold QM;refine AZc Ab3 ?_;refine AZc (GH zh hx5) ?_;refine⟨?_,Qm (t:=(u.1,i)) QQ hQ Jk (h.ty (u.1,i))⟩;simp only[HI,dN,M5];simp[Hl,IA,Iy];exactλ_=>by omega
def ALa(QQ:xr[8]?=some (I GY))(hQ:RC N e Q)(ht:Q2 t)(h:mD N e a xr bt t s):Su 0 1 Q (.GN 0 0) (.GN 1 0) (.HL bk (K.map Ih)) (I bad) (.GN bt 0) s:=by
 unfold Su;refine zv ?_;cases hb:(bad==0)
 .refine zv ?_;exact Qm QQ hQ ht h
 .refine zv ?_;exact GF (λ_=>Qm QQ hQ ht h) λ_=>Qm QQ hQ ht h
def AIY(QQ:xr[8]?=some (I GY))(hQ:RC N e Q)(ht:Q2 t)(hK:0<K.length)(hK2:K.length<=100000):
  ∀c:Nat,∃k,∀(j bad:Int) (s:St),0<=j->j<=K.length->K.length-j<=c->mD N e a xr bt t s->
   Ua 0 1 Q k (.GN 0 0) (.GN 1 0) (.HL bk (K.map Ih)) (I bad) (.GN bt 0) (I j) s:=by
 have done:∀(j bad:Int) (s:St) (k:Nat),0<=j->j=K.length->mD N e a xr bt t s->
   Ua 0 1 Q (k+1) (.GN 0 0) (.GN 1 0) (.HL bk (K.map Ih)) (I bad) (.GN bt 0) (I j) s:=by
  intro j bad s k h0 hj h;show Wc _ _ _ _ _ _ _ _ _ _ _;unfold Wc;refine zv ?_;refine GF (λh9=>?_) λ_=>ALa QQ hQ ht h;exact Adb
 intro c
 induction c with
 |zero=>exact⟨1,λj bad s h0 h1 hc h=>done j bad s 0 h0 AA h⟩
 |succ c ih=>
  obtain⟨k,ih⟩:=ih;refine⟨k+1,λj bad s h0 h1 hc h=>?_⟩;by_cases G7:j<K.length
  case neg=>exact done j bad s k h0 AA h
  have OH:=AZi j;have Q9:=I8 (l:=K) h0 AA;have Jn:=I8 (l:=K) (i:=0) AA AA;generalize K[j.toNat]' AA=u at Q9;generalize K[(0:Int).toNat]' AB=t0 at Jn
  have next:∀bad,RW 0 1 Q (Ua 0 1 Q k) (.GN 0 0) (.GN 1 0) (.HL bk (K.map Ih)) (I bad) (.GN bt 0) (I j) s:=by
   intro bad;unfold RW;exact AhQ
  show Wc _ _ _ _ _ _ _ _ _ _ _;unfold Wc;refine zv ?_;refine AT6 ?_ λh9=>?_
  case refine_2=>have:=Zy h9;rw[Bb]at this;omega
  refine AZc (JE h0 Q9 rfl) ?_;refine AZc Abi ?_;refine GR (OI (t:=u) (u:=t0)) ?_;cases Rl:fX u t0
  case true=>
   exact Afm
  refine zv ?_;refine AYn (JE h0 Q9 rfl) ?_;exact⟨zc,GF (λ_=>next _) λ_=>next _⟩
end
end
section
open Go.Proofs
def zK:Prop:=∀op kd:Int,(op=1\/op=2)->0<=kd/\kd<=9->∃(r:Int) (b:Bool),PC BZ 111 [I op,I kd,I 0] [] (.tuple [I r,.bool b]) []
def l9:Prop:=∀op kd:Int,3<=op/\op<=19->0<=kd/\kd<=9->∃(r k:Int) (b:Bool),PC BZ 112 [I op,I kd,I 0,I 0] [] (.tuple [I r,I k,.bool b]) []/\0<=k/\k<=9
@[reducible]def QE(f s1:Int)(nm:BA)(tk tl i m:Int)(GP:List Gw)(GY:Int):LP:=[I f,I s1,.Gh nm,I tk,I tl,I i,I m,.GV (BB GP),I GY]
attribute [local irreducible] Lm RL RM RN RP RQ RT RU RV Su RW QL QM PL RO ab
section
variable{N:List GO} {nd:Int} {V:List Ge} {e a:Int} {f s1 tk tl i m GY:Int} {nm:BA} {GP:List Gw} {e0:Int} {Q:PV->LLP->Prop} {bt bk:Nat} {t:Int×Int} {s:St} {K:List (Int×Int)}
def ACo(hN:N.length<=60)(xu:∀n∈N,n.WF)(lr:BC N<=20000)(hK:K.length=GP.length)(Qz:Zz f GP.length)(Pu:∀t∈K,Q2 t)(ht:Q2 t)
  (bM:KP f=true->∃r,0<=r/\O5 N nm nd r)(xo:f=14\/f=15\/f=18->0<GP.length)(hQ:∀r e' a',QTy e r e'->Q r [ck N e' a'])
  (h:mD N e a (QE f s1 nm tk tl i m GP GY) bt t s):PL 0 1 Q (.GN 0 0) (.GN 1 0) (.HL bk (K.map Ih)) (I 0) (.GN bt 0) (I f) (.bool (KP f)) s:=by
 have VZ:RC N e Q:=λe' a' T h1 h2 h3=>hQ _ _ _ ⟨T,rfl,h1,h2,h3⟩;have Ls:=h.h0;have jh:=h.h1;have htt:=h.ht;have G7:=h.lt;unfold PL;cases hc:KP f
 case true=>
  obtain⟨r0,yC,Ox⟩:=bM hc;have hf:f=13\/f=14\/f=18\/f=19:=by simp[KP]at hc;omega
  obtain⟨r,e1,a1,IE,hq⟩:=(ze (K:=K) (s1:=s1) (tk:=tk) (tl:=tl) (i:=i) (m:=m) (GP:=GP) (GY:=GY) hN xu lr hf AaI (λh=>by have:=xo AA;omega) (λh=>by have:=Qz.2.1 AA;omega) yC Ox e a).pc;refine ct ?_;refine zv ?_;refine GI IE (KX (x:=.mk f s1 nm tk tl i m GP GY) rfl) rfl AbQ rfl ?_;obtain⟨T,rfl,h1,h2,h3⟩:=hq;refine zv ?_;exact GW rfl rfl AbQ (hQ _ _ _ ⟨T,rfl,h1,h2,h3⟩)
 case false=>
  refine cf ?_;refine zv ?_;cases h15:(f==15)
  case true=>
   have hk0:=xo (by simp at h15;omega);have Jn:=I8 (l:=K) (i:=0) AA AA;have Jk:=Pu (K[(0:Int).toNat]' AB) (Bl _);generalize K[(0:Int).toNat]' AB=t0 at Jn Jk;refine zv ?_;refine pQ_v Abi ?_;obtain⟨k,hk⟩:=AIY (N:=N) (e:=e) (a:=a) (xr:=QE f s1 nm tk tl i m GP GY) (bt:=bt) (t:=(t0.1,(K.length:Int))) (bk:=bk) (Q:=Q) (K:=K) rfl VZ Jk AA AaI K.length;refine⟨k,hk 0 0 _ AA AA AA ?_⟩;rw[Bb];exact h.ty (t0.1,(K.length:Int))
  refine zv ?_;cases h16:(f==16)
  case true=>
   have LX:=Qz.1 (by simp at h16;omega);have Jn:=I8 (l:=K) (i:=0) AA AA;generalize K[(0:Int).toNat]' AB=t0 at Jn;refine zv ?_;refine pQ_v Abi ?_;cases hg:(t0.2==0)
   .refine zv ?_;refine AZc Abi ?_;refine⟨zc,?_⟩;exact GF (λ_=>ur rfl VZ AA Pu h) (λ_=>ur rfl VZ AA Pu h)
   .refine zv ?_;exact ur rfl VZ AA Pu h
  refine zv ?_;cases h17:(f==17)
  case true=>
   have LX:=Qz.1 (by simp at h17;omega);have Jn:=I8 (l:=K) (i:=0) AA AA;generalize K[(0:Int).toNat]' AB=t0 at Jn;refine zv ?_;refine pQ_v Abi ?_;cases hg:decide (t0.2>0)
   .refine zv ?_;cases Tm:decide (i<1)
    .refine zv ?_;exact GF (λ_=>oe rfl rfl VZ AA Pu h) (λ_=>oe rfl rfl VZ AA Pu h)
    .refine zv ?_;exact oe rfl rfl VZ AA Pu h
   .refine zv ?_;exact oe rfl rfl VZ AA Pu h
  refine zv ?_;exact Qm rfl VZ ht h
end
end
section
open Go.Proofs
attribute [local irreducible] Lm RL RM RN RP RQ RT RU RV Su RW QL QM PL RO ab
section
variable{N:List GO} {nd:Int} {V:List Ge} {e a:Int} {f s1 tk tl i m GY:Int} {nm:BA} {GP:List Gw} {e0:Int} {Q:PV->LLP->Prop} {bt bk:Nat} {t:Int×Int} {s:St} {K:List (Int×Int)}
def ACn(hN:N.length<=60)(xu:∀n∈N,n.WF)(lr:BC N<=20000)(hV:V.length<=100000)(hK:K.length=GP.length)(Qz:Zz f GP.length)(Pu:∀t∈K,Q2 t)(ht:Q2 t)(htk:0<=tk/\tk<=9)
  (Tq:f=2\/f=9\/f=10->Kv (V.map Ao) nm=true)(bM:KP f=true->∃r,0<=r/\O5 N nm nd r)(xo:f=14\/f=15\/f=18->0<GP.length)(hQ:∀r e' a',QTy e r e'->Q r [ck N e' a'])
  (h:mD N e a (QE f s1 nm tk tl i m GP GY) bt t s):RO 0 1 Q (.GN 0 0) (.GV (V.map Am)) (.GN 1 0) (.HL bk (K.map Ih)) (I 0) (.GN bt 0) (I f) (.bool (f==7||f==8)) s:=by
 have VZ:RC N e Q:=λe' a' T h1 h2 h3=>hQ _ _ _ ⟨T,rfl,h1,h2,h3⟩;have Ls:=h.h0;have jh:=h.h1;have htt:=h.ht;have G7:=h.lt;obtain⟨rv,hrv,lS⟩:=an V hV nm;unfold RO;cases hc:(f==7||f==8)
 case true=>
  have Jm:=Qz.2.1 (by simp at hc;omega);have Jn:=I8 (l:=K) (i:=0) AA AA;have OE:=I8 (l:=K) (i:=1) AA AA;generalize K[(0:Int).toNat]' AB=t0 at Jn;generalize K[(1:Int).toNat]' AB=t1 at OE;refine ct ?_;refine AZc Abi ?_;refine AZc Ac0 ?_;refine GR (OI (t:=t0) (u:=t1)) ?_;refine⟨zc,?_⟩;exact GF (λ_=>ACa rfl VZ AA Pu h) (λ_=>ACa rfl VZ AA Pu h)
 refine cf ?_;refine zv ?_;cases h9:(f==9)
 case true=>
  have LX:=Qz.1 (by simp at h9;omega);obtain⟨g0,g1⟩:=lS.Kv (Tq (by simp at h9;omega));have Gl:=Io g0 g1;generalize V[rv.toNat]' AA=v at Gl;refine zv ?_;refine AWd hrv ?_;refine AZc (Gk g0 Gl rfl) ?_;refine AWd Qa ?_;refine GR (OI (t:=v.ty) (u:=(1,0))) ?_;refine⟨zc,?_⟩;exact GF (λ_=>ACb rfl VZ AA Pu h) (λ_=>ACb rfl VZ AA Pu h)
 refine zv ?_;cases z9:(f==10)
 case true=>
  have Jm:=Qz.2.1 (by simp at z9;omega);have Jn:=I8 (l:=K) (i:=0) AA AA;have OE:=I8 (l:=K) (i:=1) AA AA;generalize K[(0:Int).toNat]' AB=t0 at Jn;generalize K[(1:Int).toNat]' AB=t1 at OE;obtain⟨g0,g1⟩:=lS.Kv (Tq (by simp at z9;omega));have Gl:=Io g0 g1;generalize V[rv.toNat]' AA=v at Gl;refine zv ?_;refine AWd hrv ?_;refine AZc (Gk g0 Gl rfl) ?_;refine AWd Qa ?_;refine GR (OI (t:=v.ty) (u:=(1,0))) ?_;cases hg:fX v.ty (1,0)
  case true=>
   refine zv ?_;refine⟨zc,?_⟩;exact ct (uq rfl VZ AA Pu h)
  refine zv ?_;refine AYn Abi ?_;refine AYn Ac0 ?_;refine AYn (OI (t:=t0) (u:=t1)) ?_;refine⟨zc,?_⟩;exact GF (λ_=>uq rfl VZ AA Pu h) (λ_=>uq rfl VZ AA Pu h)
 refine zv ?_;cases h11':(f==11)
 case true=>
  have LX:=Qz.1 (by simp at h11';omega);have Jn:=I8 (l:=K) (i:=0) AA AA;generalize K[(0:Int).toNat]' AB=t0 at Jn;refine zv ?_;refine pQ_v Abi ?_;exact GF (λ_=>ACc (tk:=tk) (tl:=tl) rfl rfl VZ htk h) λ_=>ACc (tk:=tk) (tl:=tl) rfl rfl VZ htk h
 refine zv ?_;cases h12:(f==12)
 case true=>
  refine zv ?_;cases Rl:decide (i<1)
  case true=>
   refine zv ?_;exact od rfl VZ h
  refine zv ?_;cases Tm:decide (i>64)
  case true=>
   refine zv ?_;exact od rfl VZ h
  refine zv ?_;exact GF (λ_=>od rfl VZ h) λ_=>od rfl VZ h
 have key:=ACo (nd:=nd) (bk:=bk) hN xu lr hK Qz Pu ht bM xo hQ h;refine zv ?_;cases h13:(f==13)
 case true=>
  rw[show KP f=true by simp[KP,h13]]at key;exact ct key
 refine zv ?_;cases h14:(f==14)
 case true=>
  rw[show KP f=true by simp[KP,h14]]at key;exact ct key
 refine zv ?_;cases h18':(f==18)
 case true=>
  rw[show KP f=true by simp[KP,h18']]at key;exact ct key
 refine zv ?_;rw[show KP f=(f==19) by simp[KP,h13,h14,h18']]at key;exact key
end
end
section
open Go.Proofs
attribute [local irreducible] Lm RL RM RN RP RQ RT RU RV Su RW QL QM PL RO ab
section
variable{N:List GO} {nd:Int} {V:List Ge} {e a:Int} {f s1 tk tl i m GY:Int} {nm:BA} {GP:List Gw} {e0:Int} {Q:PV->LLP->Prop} {bt bk:Nat} {t:Int×Int} {s:St} {K:List (Int×Int)}
def ALi(hU:zK)(hB:l9)(hN:N.length<=60)(xu:∀n∈N,n.WF)(lr:BC N<=20000)(hV:V.length<=100000)(hVw:∀v∈V,v.WF)(hK:e=0->K.length=GP.length)(Qz:Zz f GP.length)(hs:f=3->s1=1\/s1=2)(td:f=4->3<=s1/\s1<=19)(Pu:∀t∈K,Q2 t)(htk:0<=tk/\tk<=9)
  (Tq:f=2\/f=9\/f=10->Kv (V.map Ao) nm=true)(bM:KP f=true->∃r,0<=r/\O5 N nm nd r)(xo:f=14\/f=15\/f=18->0<GP.length)(hQ:∀r e' a',QTy e r e'->Q r [ck N e' a'])
  (h0:s.heap 0=some (.box (ck N e a)))(h1:s.heap 1=some (.box (QE f s1 nm tk tl i m GP GY)))(G7:3<s.next):ab 0 1 Q (.GN 0 0) (.GV (V.map Am)) (.GN 1 0) (.HL bk (K.map Ih)) s:=by
 have VZ:RC N e Q:=λe' a' T h1 h2 h3=>hQ _ _ _ ⟨T,rfl,h1,h2,h3⟩;obtain⟨rv,hrv,lS⟩:=an V hV nm;unfold ab;refine zv ?_;refine GF (λhb=>?_) λhb=>?_
 .have he:e≠0:=by simpa using hb
  refine zv ?_;exact GW rfl rfl AbQ (hQ _ _ _ ⟨[],rfl,AD,AD,id⟩)
 have he:e=0:=by simpa using hb
 have hK:=hK he;refine zv ?_
 have h:mD N e a (QE f s1 nm tk tl i m GP GY) s.next (0,0) ((s.new (BI [I 0,I 0])).set s.next (BI [I 0,I 0])):=
  ⟨zh,zh,zh,by simp only[G1,HI];omega⟩
 generalize(s.new (BI [I 0,I 0])).set s.next (BI [I 0,I 0])=s' at h;have hbt:=h.lt;generalize s.next=bt at h hbt;have Ls:=h.h0;have jh:=h.h1;have htt:=h.ht;refine zv ?_;cases g1:(f==1)
 case true=>
  refine zv ?_;refine pQ_v (M7 (v:=.agg (Ih (tk,tl))) zh rfl) ?_;exact Qm (t:=(tk,tl)) rfl VZ htk (h.ty (tk,tl))
 refine zv ?_;cases g2:(f==2)
 case true=>
  obtain⟨q0,q1⟩:=lS.Kv (Tq (by simp at g2;omega));have Gl:=Io q0 q1;have hvw:=hVw (V[rv.toNat]' AA) (Bl _);generalize V[rv.toNat]' AA=v at Gl hvw;refine zv ?_;refine AZa hrv ?_;refine pQ_v (Gk q0 Gl rfl) ?_;exact Qm (t:=v.ty) rfl VZ hvw.tk (h.ty v.ty)
 refine zv ?_;cases g3:(f==3)
 case true=>
  have LX:=Qz.1 (by simp at g3;omega);have Jn:=I8 (l:=K) (i:=0) AA AA;have Jk:=Pu (K[(0:Int).toNat]' AB) (Bl _);generalize K[(0:Int).toNat]' AB=t0 at Jn Jk;obtain⟨r,b,IE⟩:=hU s1 t0.1 (hs (by simpa using g3)) Jk;refine zv ?_;refine AZc Abi ?_;refine AWe IE ?_;refine⟨zc,?_⟩;refine zv ?_;cases b
  .refine zv ?_;exact um rfl VZ AA Pu h
  .refine zv ?_;refine AYn Abi ?_;exact GF (λ_=>um rfl VZ AA Pu h) (λ_=>um rfl VZ AA Pu h)
 refine zv ?_;cases g4:(f==4)
 case true=>
  have Jm:=Qz.2.1 (by simp at g4;omega);have Jn:=I8 (l:=K) (i:=0) AA AA;have OE:=I8 (l:=K) (i:=1) AA AA;have Jk:=Pu (K[(0:Int).toNat]' AB) (Bl _);generalize K[(0:Int).toNat]' AB=t0 at Jn Jk;generalize K[(1:Int).toNat]' AB=t1 at OE;obtain⟨r,kk,b,IE,hkk⟩:=hB s1 t0.1 (td (by simpa using g4)) Jk;refine zv ?_;refine AZc Abi ?_;refine AWe IE ?_;refine⟨zc,?_⟩;refine zv ?_;cases b
  .exact Agv
  .refine zv ?_;refine AYn Abi ?_;cases g5:decide (t0.2>0)
   .refine zv ?_;refine AYn Ac0 ?_;refine AYn Abi ?_;refine AYn (OI (t:=t1) (u:=t0)) ?_;refine⟨zc,?_⟩;exact GF (λ_=>oa rfl VZ hkk h) λ_=>oa rfl VZ hkk h
   .exact Agv
 refine zv ?_;cases g5:(f==5)
 case true=>
  have gI:=Qz.2.2.1 (by simp at g5;omega);have Jn:=I8 (l:=K) (i:=0) AA AA;have OE:=I8 (l:=K) (i:=1) AA AA;have L7:=I8 (l:=K) (i:=2) AA AA;generalize K[(0:Int).toNat]' AB=t0 at Jn;generalize K[(1:Int).toNat]' AB=t1 at OE;generalize K[(2:Int).toNat]' AB=t2 at L7;refine zv ?_;refine AZc Abi ?_;refine AWd Qa ?_;refine GR (OI (t:=t0) (u:=(1,0))) ?_;cases g6:fX t0 (1,0)
  .refine zv ?_;refine AYn Ac0 ?_;refine AYn (JE AA L7 rfl) ?_;refine AYn (OI (t:=t1) (u:=t2)) ?_;refine⟨zc,?_⟩;exact GF (λ_=>uo rfl VZ AA Pu h) (λ_=>uo rfl VZ AA Pu h)
  .refine zv ?_;refine⟨zc,?_⟩;exact ct (uo rfl VZ AA Pu h)
 refine zv ?_;cases g6:(f==6)
 case true=>
  have LX:=Qz.1 (by simp at g6;omega);have Jn:=I8 (l:=K) (i:=0) AA AA;have Jk:=Pu (K[(0:Int).toNat]' AB) (Bl _);generalize K[(0:Int).toNat]' AB=t0 at Jn Jk;refine zv ?_;refine pQ_v Abi ?_;exact Qm rfl VZ Jk (h.ty t0)
 have key:=ACn (nd:=nd) (bk:=bk) hN xu lr hV hK Qz Pu (t:=(0,0)) ⟨AA,AA⟩ htk Tq bM xo hQ h;refine zv ?_;cases g7:(f==7)
 case true=>
  rw[g7,Du]at key;exact ct key
 refine zv ?_;rw[g7,Di]at key;exact key
end
end
section
open Go.Proofs
def cR(N:List GO)(V:List Ge)(x:Gw):Prop:=∀e a,CF N 92 [.agg x.GG,.GV (V.map Am)] e a λr e' a'=>QTy e r e'
def AFm(N:List GO)(V:List Ge)(x:Gw):Prop:=∀e a,CF N 110 [.agg x.GG,.GV (V.map Am)] e a λr e' a'=>∃t,r=.agg (Ih t)/\Q2 t/\(e'=0->e=0)
def Gw.r8(x:Gw):∃GY,x.GG[8]?=some (I GY):=by rw[Gw.IC];exact⟨_,rfl⟩
structure AOr (N:List GO) (e a:Int) (xr:List PV) (T:List (Int×Int)) (eo:Nat) (s:St):Prop where
 h0:s.heap 0=some (.box (ck N e a))
 h1:s.heap 1=some (.box xr)
 h3:s.heap 3=some (.HE (T.map Ih).length eo)
 ho:T.map Ih=[]\/eo=2
 lt:3<s.next
attribute [local irreducible] XZ ab
section
variable{N:List GO} {nd:Int} {V:List Ge} {e a:Int} {Q:PV->LLP->Prop}
def vo{x:Gw}(hT:cR N V x):AFm N V x:=by
 intro e a;obtain⟨r,e1,a1,IE,T,rfl,hTl,hTy,he⟩:=(hT e a).pc;obtain⟨GY,hr8⟩:=x.r8;have hsc:=x.Vb;have rj:=x.GX;refine AF4 0 rfl _ _ _ ?_;unfold AO9;refine pQ_v AcJ ?_;refine Fy (Hm zh rj) ?_;refine ATj IE (KX rfl) rfl AbQ rfl ?_
 have fin:∀(e2 a2:Int) (s:St),s.heap 0=some (.box (ck N e2 a2))->s.heap 2=some (.box [I 0,I 0])->(e2=0->e=0/\T.length=1)->XZ 0 1 (λr c=>∃e' a',c=[ck N e' a']/\∃t,r=.agg (Ih t)/\Q2 t/\(e'=0->e=0)) (.GN 0 0) (.GN 2 0) (.GV (T.map Ih)) s:=by
  intro e2 a2 s h0 h2 Jk;unfold XZ;refine zv ?_;refine GF (λhb=>?_) λhb=>?_
  .have L0:e2≠0:=by simpa using hb
   refine zv ?_;exact GW AbR rfl AbQ ⟨_,_,rfl,(0,0),rfl,⟨AA,AA⟩,λh=>Zq h L0⟩
  .have L0:e2=0:=by simpa using hb
   obtain⟨q1,q2⟩:=Jk L0;have Gl:=I8 (l:=T) (i:=0) AA AA;have Jk:=hTy (T[(0:Int).toNat]' AB) (Bl _);generalize T[(0:Int).toNat]' AB=t at Gl Jk;refine pQ_v (Gk AA Gl rfl) ?_;exact GW AbR rfl AbQ ⟨_,_,rfl,t,rfl,Jk,λh=>q1⟩
 cases hg:(e1==0)
 case false=>
  refine zv ?_;exact fin e1 a1 _ zh zh λh=>by simp[h]at hg
 have Rl:e1=0:=by simpa using hg
 refine zv ?_;refine AT6 ?_ λhb=>?_
 .obtain⟨r,e2,a2,I4,rfl,h2,_⟩:=(Ik (N:=N) (e:=e1) (a:=a1) GY 23 AA).pc;refine zv ?_;refine Fy (GH zh hr8) ?_;refine GI I4 rfl rfl AbQ rfl ?_;exact fin e2 a2 _ zh zh λh=>Zq h h2
 .exact fin e1 a1 _ zh zh λ_=>⟨he Rl,Int.ofNat.inj (show(T.length:Int)=1 by simpa using hb)⟩
def cH(hU:zK)(hB:l9)(hN:N.length<=60)(xu:∀n∈N,n.WF)(lr:BC N<=20000)(hV:V.length<=100000)(hVw:∀v∈V,v.WF){x:Gw}(hw:x.WF):OM N (V.map Ao) nd x->cR N V x:=by
 induction hw with
 |mk f s1 nm tk tl i m GP GY Qz hf hs td ht hk ih=>
 intro bM e a;obtain⟨Tq,Tk,xo,rR⟩:=bM.K5;have fQ:GP.length<=100000:=Qz.2.2.2.2;have jr:(BB GP).length=GP.length:=by rw[Gw.Iu,Bb]
 have loop:∀c:Nat,∀(e1 a1:Int) (j:Int) (T:List (Int×Int)),0<=j->j<=GP.length->GP.length-j<=c->(T.length:Int)=j->(∀t∈T,Q2 t)->(e1=0->e=0)->∃k,∀(eo:Nat) (s:St),AOr N e1 a1 (QE f s1 nm tk tl i m GP GY) T eo s->
   ae 0 1 (λr c=>∃e' a',c=[ck N e' a']/\QTy e r e') k (.GN 0 0) (.GV (V.map Am)) (.GN 1 0) (.HL 3 (T.map Ih)) (I j) s:=by
  have done:∀(e1 a1:Int) (j:Int) (T:List (Int×Int)),0<=j->¬(j<GP.length/\e1=0)->j<=GP.length->(T.length:Int)=j->(∀t∈T,Q2 t)->(e1=0->e=0)->∃k,∀(eo:Nat) (s:St),AOr N e1 a1 (QE f s1 nm tk tl i m GP GY) T eo s->
    ae 0 1 (λr c=>∃e' a',c=[ck N e' a']/\QTy e r e') k (.GN 0 0) (.GV (V.map Am)) (.GN 1 0) (.HL 3 (T.map Ih)) (I j) s:=by
   intro e1 a1 j T h0 Iz h1 hT Pu he;refine⟨1,λeo s h=>?_⟩;have Ls:=h.h0;have jh:=h.h1;show Wd _ _ _ _ _ _ _ _ _ _;unfold Wd;refine zv ?_;refine IU zh ?_;refine AT7 (λh9=>?_) ?_
   .exact Aeq
   .exact ALi (nd:=nd) hU hB hN xu lr hV hVw (λh=>by have:¬j<GP.length:=λh2=>Iz ⟨h2,h⟩;omega) Qz hs td Pu ht Tq Tk xo (λr e' a' h=>⟨e',a',rfl,by
     obtain⟨T,q1,q2,q3,q4⟩:=h;exact⟨T,q1,q2,q3,λh=>he (q4 h)⟩⟩) h.h0 h.h1 h.lt
  intro c
  induction c with
  |zero=>exactλe1 a1 j T h0 h1 hc hT Pu he=>done e1 a1 j T h0 AA h1 hT Pu he
  |succ c Xy=>
   intro e1 a1 j T h0 h1 hc hT Pu he;by_cases Iz:j<GP.length/\e1=0
   case neg=>exact done e1 a1 j T h0 Iz h1 hT Pu he
   obtain⟨G7,Nl⟩:=Iz;have OH:=AZi j;have Jr:GP[j.toNat]' AA∈GP:=Bl _;obtain⟨r,e2,a2,IE,t,rfl,SA,YI⟩:=((vo (ih _ Jr (rR _ Jr))) e1 a1).pc
   obtain⟨k,Jm⟩:=Xy e2 a2 (j+1) (T++[t]) AA AA AA AB (by
    intro u hu;rcases Bf.1 hu with h|h
    .exact Pu u h
    .rw[By.1 h];exact SA) λh=>he (YI h)
   refine⟨k+1,λeo s h=>?_⟩;have Ls:=h.h0;have jh:=h.h1;have h33:=h.h3;have ADM:=h.lt;show Wd _ _ _ _ _ _ _ _ _ _;unfold Wd;refine zv ?_;refine IU zh ?_;refine AT6 ?_ λh9=>?_
   case refine_2=>simp[Nl,jr]at h9;omega
   refine zv ?_;refine Fy Abf ?_;refine Fy AcT ?_;refine ATj IE (KX rfl) rfl AbQ rfl ?_;refine pQ_v (Jp rfl rfl (G4 AB AA) (HQ AFA) zh (h.ho.imp (λh=>by rw[h];rfl) λh=>h.symm)) ?_;rw[OH];have L7:T.map Ih++[Ih t]=(T++[t]).map Ih:=by rw[Bu];rfl
   have h8:=Jm 2 ((s.set 0 (.box (ck N e2 a2))).set 3 (.HE ((T.map Ih).length+1) 2)) ⟨zh,zh,AZq,.inr rfl,ADM⟩;rw[<- L7]at h8;exact h8
 obtain⟨k,Jm⟩:=loop GP.length e a 0 [] AA AA AA rfl AD id;refine ALS 0 rfl _ _ _ ?_;unfold c92;refine pQ_v AcJ ?_;exact⟨k,Jm 0 _ ⟨zh,zh,zh,.inl rfl,by simp[G1,IG]⟩⟩
end
end
section
open Go.Proofs
attribute [local irreducible] oM cu dB
section
variable{N:List GO} {V:List Ge} {Q:PV->LLP->Prop}
def tC{l:List Ge}(hl:l.length<=100000)(e a:Int):CF N 55 [.GV (l.map Am)] e a λr _ _=>r=.tuple []:=by
 have loop:∀c:Nat,∃k,∀(j:Int) (s:St),0<=j->j<=l.length->l.length-j<=c->s.heap 0=some (.box (ck N e a))->
   xK 0 1 (λr c=>∃e' a',c=[ck N e' a']/\r=.tuple []) k (.GN 0 0) (.GV (l.map Am)) (I j) s:=by
  intro c
  induction c with
  |zero=>
   refine⟨1,λj s h0 h1 hc h=>?_⟩;show iJ _ _ _ _ _ _ _ _;unfold iJ;refine zv ?_;refine AT7 (λh9=>?_) ?_
   .exact Adb
   .exact AeQ
  |succ c ih=>
   obtain⟨k,ih⟩:=ih;refine⟨k+1,λj s h0 h1 hc h=>?_⟩;show iJ _ _ _ _ _ _ _ _;unfold iJ;refine zv ?_;refine AT7 (λh9=>?_) ?_
   .have G7:j<l.length:=by have:=Ot h9;rw[Bb]at this;omega
    have OH:=AZi j;have Gl:=Io h0 G7;generalize l[j.toNat]' AA=v at Gl;refine pQ_v AcE ?_;refine AT5 ?_ ?_
    .refine pQ_v AcE ?_;obtain⟨r,e2,a2,I4,rfl,h2,_⟩:=(Ik (N:=N) (e:=e) (a:=a) v.GY 23 AA).pc;exact Ahw
    .refine zv ?_;rw[OH];exact ih _ s AA AA AA h
   .exact AeQ
 refine AK4 0 rfl _ _ ?_;unfold c55;obtain⟨k,hk⟩:=loop l.length;exact⟨k,hk 0 _ AA AA AA zh⟩
def ef(hV:V.length<=100000){l:List Ge}(hl:l.length<=100000)(hc:∀v∈l,QU (V.map Ao) v)(Pq:∀v∈l,v.Ga.length<=17)(e a:Int):CF N 56 [.GV (l.map Am),.GV (V.map Am)] e a λr _ _=>r=.tuple []:=by
 have ev:∀{Q:PV->LLP->Prop} (w:PV->PV->PV->F1) (i:Int) (cK:0<=i) (hi:i<l.length) (v:Ge) (Gl:(l.map Am)[i.toNat]?=some v.GG) (HM:v.Ga.length<=17) (lO:QU (V.map Ao) v),(∀e a s,s.heap 0=some (.box (ck N e a))->w (.GN 0 0) (.GV (l.map Am)) (.GV (V.map Am)) (I (i+1)) s)->
   ∀c:Nat,∃k,∀(j e a:Int) (s:St),0<=j->j<=v.Ga.length->v.Ga.length-j<=c->s.heap 0=some (.box (ck N e a))->Yr 0 1 Q w k (.GN 0 0) (.GV (l.map Am)) (.GV (V.map Am)) (I i) (I j) s:=by
  intro Q w i cK hi v Gl HM lO SY;have Zt:=AZi i
  have done:∀(j e a:Int) (s:St) (k:Nat),0<=j->¬(j<v.Ga.length/\e=0)->s.heap 0=some (.box (ck N e a))->Yr 0 1 Q w (k+1) (.GN 0 0) (.GV (l.map Am)) (.GV (V.map Am)) (I i) (I j) s:=by
   intro j e a s k h0 Iz h;show aU _ _ _ _ _ _ _ _ _ _ _;unfold aU;refine pQ_v Abb ?_;refine IU zh ?_;refine AT7 (λh9=>?_) ?_
   .exact AdV
   .unfold oM;refine zv ?_;rw[Zt];exact SY e a s h
  intro c
  induction c with
  |zero=>exact⟨1,λj e a s h0 h1 hc h=>done j e a s 0 h0 AA h⟩
  |succ c ih=>
   obtain⟨k,ih⟩:=ih;refine⟨k+1,λj e a s h0 h1 hc h=>?_⟩;by_cases Iz:j<v.Ga.length/\e=0
   case neg=>exact done j e a s k h0 Iz h
   obtain⟨G7,he⟩:=Iz;have OH:=AZi j;have OX:=Xi h0 G7;have Wt:=lO (v.Ga[j.toNat]' AA) (Bl _);generalize v.Ga[j.toNat]' AA=g at OX Wt;obtain⟨rv,hrv,lS⟩:=an V hV g.name;obtain⟨q0,q1⟩:=lS.Kv Wt;have ra:=Io q0 q1;generalize V[rv.toNat]' AA=u at ra
   have next:∀e a s,s.heap 0=some (.box (ck N e a))->cu 0 1 Q w (Yr 0 1 Q w k) (.GN 0 0) (.GV (l.map Am)) (.GV (V.map Am)) (I i) (I j) s:=by
    intro e a s h;unfold cu;exact AhJ
   show aU _ _ _ _ _ _ _ _ _ _ _;unfold aU;refine pQ_v Abb ?_;refine IU zh ?_;refine AT6 ?_ λh9=>?_
   case refine_2=>simp[he]at h9;omega
   refine AZc Abb ?_;refine AZc AdK ?_;refine AWd hrv ?_;refine AZc (Gk q0 ra rfl) ?_;refine AWd Qa ?_;refine GR (OI (t:=u.ty) (u:=(1,0))) ?_;refine⟨zc,?_⟩;refine AT6 ?_ λ_=>next e a _ h;refine pQ_v Abb ?_;obtain⟨r,e2,a2,I4,rfl,h2,_⟩:=(Ik (N:=N) (e:=e) (a:=a) v.GY 22 AA).pc;exact Agu
 have sX:∀c:Nat,∃k,∀(i e a:Int) (s:St),0<=i->i<=l.length->l.length-i<=c->s.heap 0=some (.box (ck N e a))->
   YV 0 1 (λr c=>∃e' a',c=[ck N e' a']/\r=.tuple []) k (.GN 0 0) (.GV (l.map Am)) (.GV (V.map Am)) (I i) s:=by
  have done:∀(i e a:Int) (s:St) (k:Nat),0<=i->¬(i<l.length/\e=0)->s.heap 0=some (.box (ck N e a))->
    YV 0 1 (λr c=>∃e' a',c=[ck N e' a']/\r=.tuple []) (k+1) (.GN 0 0) (.GV (l.map Am)) (.GV (V.map Am)) (I i) s:=by
   intro i e a s k h0 Iz h;show iK _ _ _ _ _ _ _ _ _;unfold iK;exact Aho
  intro c
  induction c with
  |zero=>exact⟨1,λi e a s h0 h1 hc h=>done i e a s 0 h0 AA h⟩
  |succ c ih=>
   obtain⟨k,ih⟩:=ih;refine⟨k+1,λi e a s h0 h1 er h=>?_⟩;by_cases Iz:i<l.length/\e=0
   case neg=>exact done i e a s k h0 Iz h
   obtain⟨G7,he⟩:=Iz;have hm:l[i.toNat]' AA∈l:=Bl _;obtain⟨k2,Jm⟩:=ev (Q:=λr c=>∃e' a',c=[ck N e' a']/\r=.tuple []) (YV 0 1 _ k) i h0 G7 _ (Io h0 G7) (Pq _ hm) (hc _ hm) (λe a s h=>ih (i+1) e a s AA AA AA h) (l[i.toNat]' AA).Ga.length;show iK _ _ _ _ _ _ _ _ _;unfold iK;exact Aef
 refine AK5 0 rfl _ _ _ ?_;unfold c56;exact Agk
def q7{l:List Gj}(hl:l.length<=100000)(ho:∀t∈l,AFm N V t.cond)(e a:Int):CF N 91 [.GV (l.map Aw),.GV (V.map Am)] e a λr _ _=>r=.tuple []:=by
 have done:∀(i e a:Int) (k:Nat),0<=i->¬(i<l.length/\e=0)->∀s,Vc N e a s->
   ee 0 1 (λr c=>∃e' a',c=[ck N e' a']/\r=.tuple []) (k+1) (.GN 0 0) (.GV (l.map Aw)) (.GV (V.map Am)) (I i) s:=by
  intro i e a k h0 Iz s h;have Ls:=h.h0;show Yw _ _ _ _ _ _ _ _ _;unfold Yw;exact Aho
 have loop:∀(c:Nat) (i e a:Int),0<=i->i<=l.length->l.length-i<=c->∃k,∀s,Vc N e a s->
   ee 0 1 (λr c=>∃e' a',c=[ck N e' a']/\r=.tuple []) k (.GN 0 0) (.GV (l.map Aw)) (.GV (V.map Am)) (I i) s:=by
  intro c
  induction c with
  |zero=>exactλi e a h0 h1 hc=>⟨1,done i e a 0 h0 AA⟩
  |succ c ih=>
   intro i e a h0 h1 hc;by_cases Iz:i<l.length/\e=0
   case neg=>exact⟨1,done i e a 0 h0 Iz⟩
   obtain⟨G7,he⟩:=Iz;have Zt:=AZi i;have Gl:=SM h0 G7;have hoo:=ho (l[i.toNat]' AA) (Bl _);generalize l[i.toNat]' AA=t at Gl hoo;obtain⟨r,e1,a1,IE,ty,rfl,SA,Nl⟩:=(hoo e a).pc;obtain⟨r,e2,a2,I4,rfl,h2,_⟩:=(Ik (N:=N) (e:=e1) (a:=a1) t.GY 22 AA).pc
   have next:∀(k:Nat) (e1 a1:Int),(∀s,Vc N e1 a1 s->ee 0 1 (λr c=>∃e' a',c=[ck N e' a']/\r=.tuple []) k (.GN 0 0) (.GV (l.map Aw)) (.GV (V.map Am)) (I (i+1)) s)->∀s,Vc N e1 a1 s->dB 0 1 (λr c=>∃e' a',c=[ck N e' a']/\r=.tuple []) (ee 0 1 (λr c=>∃e' a',c=[ck N e' a']/\r=.tuple []) k) (.GN 0 0) (.GV (l.map Aw)) (.GV (V.map Am)) (I i) s:=by
    intro k e1 a1 hk s h;unfold dB;refine zv ?_;rw[Zt];exact hk s h
   by_cases hf:e1=0/\fX ty (1,0)=true
   .obtain⟨MS,M4⟩:=hf;obtain⟨k1,LX⟩:=ih (i+1) e2 a2 AA AA AA;refine⟨k1+1,λs h=>?_⟩;have Ls:=h.h0;have AMY:=h.lt;show Yw _ _ _ _ _ _ _ _ _;unfold Yw;refine zv ?_;refine IU zh ?_;refine AT6 ?_ λh9=>?_
    case refine_2=>simp[he]at h9;omega
    refine pQ_v AbZ ?_;refine Fy (MB t.cut) ?_;refine ATj IE (KX rfl) rfl AbQ rfl ?_;rw[show(e1==0)=true by simpa using MS];refine LZ (Hm zh rfl) ?_;refine vC ?_;refine AWd Qa ?_;refine LZ (OI (t:=ty) (u:=(1,0))) ?_;rw[M4];refine zv ?_;refine⟨?_,?_⟩
    .exact zc
    refine zv ?_;refine pQ_v AbZ ?_;refine Fy (Hg t.wF) ?_;refine GI I4 rfl rfl (Kj (cs:=ck N e1 a1) Aao rfl) rfl ?_;refine next k1 e2 a2 LX _ ⟨zh,by simp only[G1,HI,ND,Gx,MQ,Jl];omega⟩
   .obtain⟨k1,LX⟩:=ih (i+1) e1 a1 AA AA AA;refine⟨k1+1,λs h=>?_⟩;have Ls:=h.h0;have AMY:=h.lt;show Yw _ _ _ _ _ _ _ _ _;unfold Yw;refine zv ?_;refine IU zh ?_;refine AT6 ?_ λh9=>?_
    case refine_2=>simp[he]at h9;omega
    refine pQ_v AbZ ?_;refine Fy (MB t.cut) ?_;refine ATj IE (KX rfl) rfl AbQ rfl ?_;cases hg:(e1==0)
    case false=>
     refine zv ?_;refine⟨?_,?_⟩
     .exact zc
     refine zv ?_;exact next k1 e1 a1 LX _ ⟨(by simp only[ND,MQ];exact zh),by simp only[G1,HI,ND,MQ,Jl];omega⟩
    refine LZ (Hm zh rfl) ?_;refine vC ?_;refine AWd Qa ?_;refine LZ (OI (t:=ty) (u:=(1,0))) ?_
    rw[show fX ty (1,0)=false by
     cases h9:fX ty (1,0)
     .rfl
     .exact Zq ⟨by simpa using hg,h9⟩ hf]
    refine zv ?_;refine⟨?_,?_⟩
    .exact zc
    refine zv ?_;exact next k1 e1 a1 LX _ ⟨Aao,by simp only[G1,HI,ND,MQ,Jl];omega⟩
 refine ALR 0 rfl _ _ _ ?_;unfold c91;obtain⟨k,hk⟩:=loop l.length 0 e a AA AA AA;exact⟨k,hk _ ⟨zh,by simp[IG]⟩⟩
end
end
section
open Go.Proofs
structure nj (N:List GO) (e a:Int) (bx:Nat) (GG:List PV) (s:St):Prop where
 h0:s.heap 0=some (.box (ck N e a))
 hx:s.heap bx=some (.box GG)
 x0:bx≠0
 lt:bx<s.next
def nj.ck{N:List GO}{e a:Int}{bx:Nat}{GG:LP}{s:St}(h:nj N e a bx GG s)(e' a':Int):nj N e' a' bx GG (s.set 0 (.box (ck N e' a'))):=⟨A4,(Ar h.x0).trans h.hx,h.x0,h.lt⟩
def nk(N:List GO)(V:List Ge)(l:List Item):Prop:=∀e a,CF N 57 [.GV (l.map Aq),.GV (V.map Am)] e a λr _ _=>r=.tuple []
attribute [local irreducible] Ys UN Yt WX
section
variable{N:List GO} {V:List Ge} {Q:PV->LLP->Prop} {l:List Item} {x:Item} {i:Int}
def gW(N:List GO)(V:List Ge)(Q:PV->LLP->Prop)(l:List Item)(i:Int):Prop:=∀e a,∃K,∀s,Vc N e a s->OC 0 1 Q K (.GN 0 0) (.GV (l.map Aq)) (.GV (V.map Am)) (I i) s
def AD8(hi:0<=i)(Ml:i<=100000)(ID:gW N V Q l (i+1))(e a:Int):∃K,∀s,Vc N e a s->Ys 0 1 Q (OC 0 1 Q K) (.GN 0 0) (.GV (l.map Aq)) (.GV (V.map Am)) (I i) s:=by have Zt:=AZi i;obtain⟨K,hK⟩:=ID e a;refine⟨K,λs h=>?_⟩;unfold Ys;refine zv ?_;rw[Zt];exact hK s h
def AHx(hV:V.length<=100000)(hi:0<=i)(Ml:i<=100000)(ID:gW N V Q l (i+1))(Pr:x.GL.length<=100000)(Vh:∀w∈x.GL,Kv (V.map Ao) w=true){T:List (Int×Int)}:
  ∀(c:Nat) (j e a:Int),0<=j->j<=x.GL.length->x.GL.length-j<=c->(e=0->T.length=x.GL.length)->
   ∃K k,∀(bx:Nat) (s:St),nj N e a bx x.GG s->WZ 0 1 Q (OC 0 1 Q K) k (.GN 0 0) (.GV (l.map Aq)) (.GV (V.map Am)) (I i) (.GN bx 0) (.GV (T.map Ih)) (I j) s:=by
 have done:∀(j e a:Int),0<=j->¬(j<x.GL.length/\e=0)->
   ∃K k,∀(bx:Nat) (s:St),nj N e a bx x.GG s->WZ 0 1 Q (OC 0 1 Q K) k (.GN 0 0) (.GV (l.map Aq)) (.GV (V.map Am)) (I i) (.GN bx 0) (.GV (T.map Ih)) (I j) s:=by
  intro j e a h0 Iz;obtain⟨K,hK⟩:=AD8 hi Ml ID e a;refine⟨K,1,λbx s h=>?_⟩;have Ls:=h.h0;have dt:=h.hx;have G7:=h.lt;show aW _ _ _ _ _ _ _ _ _ _ _ _ _;unfold aW;refine zv ?_;refine pQ_v Abp ?_;refine IU zh ?_;refine GF (λh9=>?_) (λ_=>hK s ⟨h.h0,AA⟩);exact AdV
 intro c
 induction c with
 |zero=>exactλj e a h0 h1 hc hT=>done j e a h0 AA
 |succ c ih=>
  intro j e a h0 h1 hc hT;by_cases Iz:j<x.GL.length/\e=0
  case neg=>exact done j e a h0 Iz
  obtain⟨G7,he⟩:=Iz;have hT:=hT he;have OH:=AZi j;have mw:=Lc h0 G7;have Wt:=Vh (x.GL[j.toNat]' AA) (Bl _);generalize x.GL[j.toNat]' AA=w at mw Wt;obtain⟨rv,hrv,lS⟩:=an V hV w;obtain⟨q0,q1⟩:=lS.Kv Wt;have ra:=Io q0 q1;generalize V[rv.toNat]' AA=u at ra;have AJn:=I8 (l:=T) h0 AA;generalize T[j.toNat]' AA=t at AJn;obtain⟨r,e2,a2,I4,rfl,h2,_⟩:=(Ik (N:=N) (e:=e) (a:=a) x.GY 22 AA).pc
  have next:∀(K k:Nat) (bx:Nat) (s:St),WZ 0 1 Q (OC 0 1 Q K) k (.GN 0 0) (.GV (l.map Aq)) (.GV (V.map Am)) (I i) (.GN bx 0) (.GV (T.map Ih)) (I (j+1)) s->UN 0 1 Q (OC 0 1 Q K) (WZ 0 1 Q (OC 0 1 Q K) k) (.GN 0 0) (.GV (l.map Aq)) (.GV (V.map Am)) (I i) (.GN bx 0) (.GV (T.map Ih)) (I j) s:=by
   intro K k bx s h;unfold UN;refine zv ?_;rw[OH];exact h
  have step:∃e3 a3,(fX u.ty t=true/\e3=e2/\a3=a2\/fX u.ty t=false/\e3=e/\a3=a):=by
   cases fX u.ty t
   .exact⟨e,a,.inr ⟨rfl,rfl,rfl⟩⟩
   .exact⟨e2,a2,.inl ⟨rfl,rfl,rfl⟩⟩
  obtain⟨e3,a3,I0⟩:=step;obtain⟨K,k,hK⟩:=ih (j+1) e3 a3 AA AA AA λ_=>hT;refine⟨K,k+1,λbx s h=>?_⟩;have Ls:=h.h0;have dt:=h.hx;have Tt:=h.x0;show aW _ _ _ _ _ _ _ _ _ _ _ _ _;unfold aW;refine zv ?_;refine pQ_v Abp ?_;refine IU zh ?_;refine AT6 ?_ λh9=>?_
  case refine_2=>simp[he]at h9;omega
  refine zv ?_;refine GR Abp ?_;refine AZc (Gk h0 mw rfl) ?_;refine AWd hrv ?_;refine AZc (Gk q0 ra rfl) ?_;refine AZc (Gk h0 AJn rfl) ?_;refine GR (OI (t:=u.ty) (u:=t)) ?_;refine⟨zc,?_⟩;rcases I0 with⟨g1,rfl,rfl⟩|⟨g1,rfl,rfl⟩
  .rw[g1];refine ct ?_;refine zv ?_;refine Fy AcS ?_;refine GI I4 rfl rfl AbQ rfl ?_;exact next K k bx _ (hK bx _ (h.ck _ _))
  .rw[g1];refine cf ?_;exact next K k bx _ (hK bx _ h)
def ANK(hV:V.length<=100000)(hi:0<=i)(Ml:i<=100000)(ID:gW N V Q l (i+1))(hw:x.WF)(ht:x.GB=[]->cR N V x.e/\∀w∈x.GL,Kv (V.map Ao) w=true)(e a:Int):
  ∃K,∀(bx:Nat) (s:St),nj N e a bx x.GG s->WX 0 1 Q (OC 0 1 Q K) (.GN 0 0) (.GV (l.map Aq)) (.GV (V.map Am)) (I i) (.GN bx 0) s:=by
 by_cases hs:x.GB=[]
 case neg=>
  obtain⟨K,hK⟩:=AD8 hi Ml ID e a;refine⟨K,λbx s h=>?_⟩;have dt:=h.hx;have G7:=h.lt;have La:0<x.GB.length:=List.length_pos_iff.2 hs;unfold WX;refine zv ?_;refine pQ_v Abu ?_;refine GF (λ_=>hK s ⟨h.h0,AA⟩) λh9=>?_;have:=Zy h9;rw[Bb]at this;omega
 case pos=>
  obtain⟨htc,Vh⟩:=ht hs;have Pr:x.GL.length<=100000:=by cases hw with|mk _ _ _ _ h1 _ _ _=>exact h1
  obtain⟨r,e1,a1,IE,T,rfl,hTl,hTy,Nl⟩:=(htc e a).pc;obtain⟨r,e2,a2,I4,rfl,h2,_⟩:=(Ik (N:=N) (e:=e1) (a:=a1) x.GY 23 AA).pc
  have start:∀(e a:Int),(e=0->T.length=x.GL.length)->∃K,∀(bx:Nat) (s:St),nj N e a bx x.GG s->Yt 0 1 Q (OC 0 1 Q K) (.GN 0 0) (.GV (l.map Aq)) (.GV (V.map Am)) (I i) (.GN bx 0) (.GV (T.map Ih)) s:=by
   intro e a hT;obtain⟨K,k,hK⟩:=AHx (x:=x) hV hi Ml ID Pr Vh (T:=T) x.GL.length 0 e a AA AA AA hT;refine⟨K,λbx s h=>?_⟩;unfold Yt;exact⟨k,hK bx s h⟩
  have hb:(List.map A8 x.GB).length=0:=by rw[hs];rfl
  by_cases hf:e1=0/\T.length≠x.GL.length
  .obtain⟨K,hK⟩:=start e2 a2 λh=>Zq h h2;refine⟨K,λbx s h=>?_⟩;have Ls:=h.h0;have dt:=h.hx;have Tt:=h.x0;unfold WX;refine zv ?_;refine pQ_v Abu ?_;rw[hb];refine zv ?_;refine Fy Ace ?_;refine ATj IE (KX rfl) rfl AbQ rfl ?_;rw[show(e1==0)=true by simpa using hf.1];refine zv ?_;refine AYo Abp ?_;refine AT6 ?_ λh9=>?_
   .refine zv ?_;refine Fy AcS ?_;refine GI I4 rfl rfl AbQ rfl ?_;exact hK bx _ ((h.ck e1 a1).ck e2 a2)
   .simp at h9;exact Zq AA hf.2
  .obtain⟨K,hK⟩:=start e1 a1 (λh=>by
    by_cases h9:T.length=x.GL.length
    .exact h9
    .exact Zq ⟨h,h9⟩ hf)
   refine⟨K,λbx s h=>?_⟩;have Ls:=h.h0;have dt:=h.hx;have Tt:=h.x0;unfold WX;refine zv ?_;refine pQ_v Abu ?_;rw[hb];refine zv ?_;refine Fy Ace ?_;refine ATj IE (KX rfl) rfl AbQ rfl ?_;cases hg:(e1==0)
   .refine zv ?_;exact hK bx _ (h.ck e1 a1)
   .refine zv ?_;refine AYo Abp ?_;refine GF (λh9=>?_) λh9=>?_
    .exfalso;simp at h9 hg;exact hf ⟨hg,λh=>h9 AA⟩
    .exact hK bx _ (h.ck e1 a1)
end
end
section
open Go.Proofs
structure tr (N:List GO) (V:List Ge) (st:GD):Prop where
 loc:st.GA.length<=20000
 AN8:st.JB.length<=100000
 AN9:st.Jg.length<=100000
 clk:∀v∈st.GA,QU ((V++st.GA).map Ao) v
 cl:∀v∈st.GA,v.Ga.length<=17
 JB:∀t∈st.JB,AFm N V t.cond
 Jg:∀t∈st.Jg,AFm N (V++st.GA) t.cond
 GQ:nk N (V++st.GA) st.GQ
attribute [local irreducible] Ys UN Yt WX
section
variable{N:List GO} {V:List Ge} {Q:PV->LLP->Prop} {l:List Item} {x:Item} {i:Int}
def AA5(hV:V.length<=70000)(hi:0<=i)(Ml:i<=100000)(ID:gW N V Q l (i+1))(hw:x.WF)(ht:x.GB=[]->cR N V x.e/\∀w∈x.GL,Kv (V.map Ao) w=true)(La:x.GB.length<=100000)(I0:∀st∈x.GB,tr N V st):
  ∀(c:Nat) (j e a:Int),0<=j->j<=x.GB.length->x.GB.length-j<=c->
   ∃K k,∀(bx:Nat) (s:St),nj N e a bx x.GG s->aV 0 1 Q (OC 0 1 Q K) k (.GN 0 0) (.GV (l.map Aq)) (.GV (V.map Am)) (I i) (.GN bx 0) (I j) s:=by
 have done:∀(j e a:Int),0<=j->¬(j<x.GB.length/\e=0)->
   ∃K k,∀(bx:Nat) (s:St),nj N e a bx x.GG s->aV 0 1 Q (OC 0 1 Q K) k (.GN 0 0) (.GV (l.map Aq)) (.GV (V.map Am)) (I i) (.GN bx 0) (I j) s:=by
  intro j e a h0 Iz;obtain⟨K,hK⟩:=ANK (x:=x) AA hi Ml ID hw ht e a;refine⟨K,1,λbx s h=>?_⟩;have Ls:=h.h0;have dt:=h.hx;show WY _ _ _ _ _ _ _ _ _ _ _ _;unfold WY;refine zv ?_;refine pQ_v Abu ?_;refine IU zh ?_;refine GF (λh9=>?_) λ_=>hK bx s h;exact AdV
 intro c
 induction c with
 |zero=>exactλj e a h0 h1 hc=>done j e a h0 AA
 |succ c ih=>
  intro j e a h0 h1 hc;by_cases Iz:j<x.GB.length/\e=0
  case neg=>exact done j e a h0 Iz
  obtain⟨G7,he⟩:=Iz;have OH:=AZi j;have OX:=Oo h0 G7;have jx:=I0 (x.GB[j.toNat]' AA) (Bl _);generalize x.GB[j.toNat]' AA=st at OX jx;obtain⟨nm,JB,Jg,GA,GQ,GY⟩:=st;have jw:(GD.mk nm JB Jg GA GQ GY).GG=[.Gh nm,.GV (JB.map Aw),.GV (Jg.map Aw),.GV (GA.map Am),.GV (GQ.map Aq),I GY]:=by rw[GD.IC];rfl
  have Xx:GA.length<=20000:=jx.loc;have Ox:V.map Am++GA.map Am=(V++GA).map Am:=by rw[Bu]
  obtain⟨r,e1,a1,Jy,rfl⟩:=(tC (N:=N) (l:=GA) AA e a).pc;obtain⟨r,e2,a2,I4,rfl⟩:=(ef (N:=N) (V:=V++GA) (l:=GA) AB AA jx.clk jx.cl e1 a1).pc;obtain⟨r,e3,a3,TJ,rfl⟩:=(q7 (N:=N) (V:=V) (l:=JB) jx.AN8 jx.JB e2 a2).pc;obtain⟨r,e4,a4,rY,rfl⟩:=(jx.GQ e3 a3).pc;obtain⟨r,e5,a5,AMm,rfl⟩:=(q7 (N:=N) (V:=V++GA) (l:=Jg) jx.AN9 jx.Jg e4 a4).pc;simp only[GD.GA,GD.GQ]at rY;obtain⟨K,k,hK⟩:=ih (j+1) e5 a5 AA AA AA;refine⟨K,k+1,λbx s h=>?_⟩;have Ls:=h.h0;have dt:=h.hx;have Tt:=h.x0;have hl0:=h.lt;show WY _ _ _ _ _ _ _ _ _ _ _ _;unfold WY;refine zv ?_;refine pQ_v Abu ?_;refine IU zh ?_;refine AT6 ?_ λh9=>?_
  case refine_2=>simp[he]at h9;omega
  refine zv ?_;refine Fy Abu ?_;refine Fy Acz ?_;refine Fy AdF ?_;rw[jw];refine zv ?_;refine AZc Ab0 ?_;refine GR Abe ?_;rw[Ox];refine zv ?_;refine⟨?_,?_⟩
  .exact Agl
  refine zv ?_;refine ATj Jy rfl rfl AbQ rfl ?_;refine ATj I4 rfl rfl AbQ rfl ?_;refine ATj TJ rfl rfl AbQ rfl ?_;refine ATj rY rfl rfl AbQ rfl ?_;refine ATj AMm rfl rfl AbQ rfl ?_;rw[OH];exact hK bx _ ⟨zh,zh,Tt,by simp only[G1,HI,Gx,MQ];omega⟩
def AHl(hV:V.length<=70000)(hl:l.length<=100000)(hw:∀x∈l,x.WF)(ht:∀x∈l,x.GB=[]->cR N V x.e/\∀w∈x.GL,Kv (V.map Ao) w=true)(I0:∀x∈l,∀st∈x.GB,tr N V st)
  (hQ:∀e' a',Q (.tuple []) [ck N e' a']):∀(c:Nat) (i:Int),0<=i->i<=l.length->l.length-i<=c->gW N V Q l i:=by
 have done:∀(i e a:Int),0<=i->¬(i<l.length/\e=0)->∃K,∀s,Vc N e a s->OC 0 1 Q K (.GN 0 0) (.GV (l.map Aq)) (.GV (V.map Am)) (I i) s:=by
  intro i e a h0 Iz;refine⟨1,λs h=>?_⟩;have Ls:=h.h0;show iL _ _ _ _ _ _ _ _ _;unfold iL;refine zv ?_;refine IU zh ?_;refine GF (λh9=>?_) λ_=>GW rfl rfl AbQ (hQ _ _);exact AdV
 intro c
 induction c with
 |zero=>exactλi h0 h1 hc e a=>done i e a h0 AA
 |succ c ih=>
  intro i h0 h1 hc e a;by_cases Iz:i<l.length/\e=0
  case neg=>exact done i e a h0 Iz
  obtain⟨G7,he⟩:=Iz;have Gl:=Tw h0 G7;have Jr:l[i.toNat]' AA∈l:=Bl _;generalize l[i.toNat]' AA=x at Gl Jr
  have La:x.GB.length<=100000:=by
   cases hw x Jr with|mk _ _ _ _ _ _ h3 _=>exact h3
  obtain⟨K,k,hK⟩:=AA5 (x:=x) (Q:=Q) hV h0 AA (ih (i+1) AA AA AA) (hw x Jr) (ht x Jr) La (I0 x Jr) x.GB.length 0 e a AA AA AA;refine⟨K+1,λs h=>?_⟩;have Ls:=h.h0;have hl0:=h.lt;show iL _ _ _ _ _ _ _ _ _;unfold iL;refine zv ?_;refine IU zh ?_;refine AT6 ?_ λh9=>?_
  case refine_2=>simp[he]at h9;omega
  refine Fy Acy ?_;refine pQ_v (IB (BK _)) ?_;refine Fy Abx ?_;refine⟨k,hK s.next _ ⟨zh,zh,AA,by simp only[G1,HI];omega⟩⟩
def nX(hV:V.length<=70000)(hl:l.length<=100000)(hw:∀x∈l,x.WF)(ht:∀x∈l,x.GB=[]->cR N V x.e/\∀w∈x.GL,Kv (V.map Ao) w=true)(I0:∀x∈l,∀st∈x.GB,tr N V st):nk N V l:=by intro e a;obtain⟨K,hK⟩:=AHl (Q:=λr c=>∃e' a',c=[ck N e' a']/\r=.tuple []) hV hl hw ht I0 (λe' a'=>⟨e',a',rfl,rfl⟩) l.length 0 AA AA AA e a;refine AK6 0 rfl _ _ _ ?_;unfold c57;exact⟨K,hK _ ⟨zh,by simp[IG]⟩⟩
end
end
section
open Go.Proofs
def Um{A B:List BA}{w:BA}:Kv (A++B) w=(Kv A w||Kv B w):=by simp[Kv,List.any_append]
def NI.dv{N:List GO}{nd:Int}{S M:List BA}{x:Item}(h:NI N nd S M x)(hs:x.GB=[]):(∀n∈x.GL,Kv M n=true)/\OM N S nd x.e:=by
 cases h with
 |eq _ _ _ _ _ h1 h2=>exact⟨h1,h2⟩
 |AKe=>cases hs
def NI.Tu{N:List GO}{nd:Int}{S M:List BA}{x:Item}(h:NI N nd S M x):∀s∈x.GB,NS N nd S M s:=by
 cases h with
 |eq _ _ _ _ _ h1 h2=>intro s hs;cases hs
 |AKe _ _ _ _ _ _ _ h1=>exact h1
def qO.K5{S:List BA}{x:Item}(h:qO S x):∀s∈x.GB,NCS S s:=by cases h with|mk _ _ _ _ _ h1=>exact h1
attribute [local irreducible] iD
section
variable{N:List GO} {nd:Int} {Q:PV->LLP->Prop}
def wg(hU:zK)(hB:l9)(hN:N.length<=60)(xu:∀n∈N,n.WF)(lr:BC N<=20000):∀(c:Nat) (V:List Ge) (M:List BA) (l:List Item),As l<=c->V.length+As l<=70000->As l<=20000->l.length<=100000->(∀v∈V,v.WF)->(∀x∈l,x.WF)->(∀w,Kv M w=true->Kv (V.map Ao) w=true)->(∀x∈l,NI N nd (V.map Ao) M x)->(∀x∈l,qO (V.map Ao) x)->nk N V l:=by
 intro c
 induction c with
 |zero=>
  intro V M l hl hV hc Xx hVw hw hMS VN hnc;refine nX AA Xx hw (λx hx hs=>?_) λx hx st I0=>?_
  .obtain⟨g1,g2⟩:=(VN x hx).dv hs;have hxe:x.e.WF:=by cases hw x hx with|mk _ _ _ _ _ h2 _ _=>exact h2
   exact⟨cH hU hB hN xu lr AA hVw hxe g2,λw hw=>hMS w (g1 w hw)⟩
  .exfalso;obtain⟨q,hq,pN⟩:=B4 hx;have h1:=Oh hq;have h2:As l=As (l.take q)+As (l.drop q):=by rw[<- Item.HY,CX]
   rw[pN]at h1;obtain⟨GL,ex,GB,GY⟩:=x;cases GB with
   |nil=>exact Zq I0 Aai
   |cons st r=>cases st;simp only[BF,Ax,BG]at h1;omega
 |succ c ih=>
  intro V M l hl hV hc Xx hVw hw hMS VN hnc;refine nX AA Xx hw (λx hx hs=>?_) λx hx st I0=>?_
  .obtain⟨g1,g2⟩:=(VN x hx).dv hs;have hxe:x.e.WF:=by cases hw x hx with|mk _ _ _ _ _ h2 _ _=>exact h2
   exact⟨cH hU hB hN xu lr AA hVw hxe g2,λw hw=>hMS w (g1 w hw)⟩
  .have vR:=hw x hx;have hns:=(VN x hx).Tu st I0;have AMf:=(hnc x hx).K5 st I0;obtain⟨q,hq,pN⟩:=B4 hx;have h1:=Oh hq;have h2:As l=As (l.take q)+As (l.drop q):=by rw[<- Item.HY,CX]
   rw[pN]at h1;obtain⟨q2,YM,hqs⟩:=B4 I0;have h3:=VF YM;rw[hqs]at h3
   have h4:Ax x.GB<=x.wt:=by
    exact Ad5
   have qV:st.WF:=by
    exact AhD
   obtain⟨nm,JB,Jg,GA,GQ,GY⟩:=st;cases qV with|mk _ _ _ _ _ _ w1 w2 w3 w4 w5=>
   cases hns with|mk _ _ _ _ _ _ _ _ n1 n2 n3 n4=>
   cases AMf with|mk _ _ _ _ _ _ _ k1 k2=>
   simp only[BG]at h3;have AQX:∀v∈V++GA,v.WF:=λv hv=>(Bf.1 hv).elim (hVw v) (w3.all v);have hS:List.map Ao (V++(GD.mk nm JB Jg GA GQ GY).GA)=V.map Ao++GA.map Ao:=Bu;refine⟨by simp only[GD.GA];omega,w1.len,w2.len,by rw[hS];exact k1,λv hv=>(w3.all v hv).Ga,λt ht=>vo (cH hU hB hN xu lr AA hVw (w1.all t ht) (n1 t ht)),λt ht=>vo (cH hU hB hN xu lr (by rw[Bd];omega) AQX (w2.all t ht) (nd:=nd) Ag),?_⟩
   exact ih _ (M++GA.map Ao) GQ AA Aay AA w4 AQX w5 (λw hw=>by
    rw[hS,Um];rw[Um]at hw;cases hm:Kv M w
    .rw[hm,Di]at hw;rw[hw,Bool.or_true]
    .rw[hMS w hm,Du]) (by rw[hS];exact n2) (by rw[hS];exact k2)
def ABg(N:List GO)(Q:PV->LLP->Prop)(i e a:Int):Prop:=∃K,∀s,s.heap 0=some (.box [.GV (N.map Ay)])->s.heap 1=some (.box (ck N e a))->1<s.next->oK 0 0 Q K (.GN 0 0) (.GN 1 0) (I i) s
def AP6{e a:Int}{s:St}(h:s.heap 1=some (.box (ck N e a)))(hQ:Q (.tuple [I a,I e]) []):iD 0 0 Q (.GN 1 0) s:=by unfold iD;exact Adz
def yN{n:GO}(w:BA)(h:Kv n.ve w=true):Kv n.vars w=true:=by obtain⟨x,hx,he⟩:=OV.1 h;exact OV.2 ⟨x,List.mem_of_mem_drop hx,he⟩
def AH3(hU:zK)(hB:l9)(hN:N.length<=60)(hw:∀n∈N,n.WF)(Pv:BC N<=20000)(lW:∀(q:Nat) (h:q<N.length),O6 N q N[q])(hQ:∀e a:Int,Q (.tuple [I a,I e]) []):
  ∀(c:Nat) (i e a:Int),0<=i->i<=N.length->N.length-i<=c->ABg N Q i e a:=by
 have done:∀(i e a:Int),0<=i->¬(i<N.length/\e=0)->ABg N Q i e a:=by
  intro i e a h0 Iz;refine⟨1,λs h1 h2 h3=>?_⟩;show aO _ _ _ _ _ _ _ _;unfold aO;refine zv ?_;refine Rv zh ?_;refine GF (λh9=>?_) λ_=>AP6 zh (hQ _ _);exact AdV
 intro c
 induction c with
 |zero=>exactλi e a h0 h1 hc=>done i e a h0 AA
 |succ c ih=>
  intro i e a h0 h1 hc;by_cases Iz:i<N.length/\e=0
  case neg=>exact done i e a h0 Iz
  obtain⟨G7,he⟩:=Iz;have Zt:=AZi i;have Gl:=Rp h0 G7;have dm:=hw (N[i.toNat]' AA) (Bl _);have Uq:=T1 (l:=N) (q:=i.toNat) AA;have Pt:=lW i.toNat AA;generalize N[i.toNat]' AA=n at Gl dm Uq Pt;simp only[GO.wt]at Uq;have HM:n.all.length=n.JS.length+n.Hz.length+n.GA.length:=by simp[GO.all];omega
  have JO:=tw n [] AB;rw[CG]at JO
  have haw:∀v∈n.all,v.WF:=by
   intro v hv;simp only[GO.all,Bf]at hv;rcases hv with(hv|hv)|hv
   .exact dm.JS.all v hv
   .exact dm.Hz.all v hv
   .exact dm.GA.all v hv
  obtain⟨r,e1,a1,Jy,rfl⟩:=(tC (N:=N) (l:=n.all) AA e a).pc;obtain⟨r,e2,a2,I4,rfl⟩:=(ef (N:=N) (V:=n.all) (l:=n.GA) AA AA Pt.clk (λv hv=>(dm.GA.all v hv).Ga) e1 a1).pc;obtain⟨r,e3,a3,TJ,rfl⟩:=((wg hU hB hN hw Pv _ n.all n.ve n.GQ (Bg _) AA AA dm.len haw dm.GQ yN Pt.GQ Pt.ACH) e2 a2).pc;obtain⟨K,hK⟩:=ih (i+1) e3 a3 AA AA AA;refine⟨K+1,λs h1 h2 h3=>?_⟩;show aO _ _ _ _ _ _ _ _;unfold aO;refine zv ?_;refine Rv zh ?_;refine AT6 ?_ λh9=>?_
  case refine_2=>simp[he]at h9;omega
  refine zv ?_;refine Fy Acd ?_;refine Fy AdL ?_;rw[GO.Zg];refine zv ?_;refine AZb JO ?_;refine ATj Jy rfl rfl (z7 (cs:=ck N e a) (by simp only[Ld,Jl];exact zh) rfl) rfl ?_;refine ATj I4 rfl rfl AcA rfl ?_;refine ATj TJ rfl rfl AcA rfl ?_;rw[Zt];exact hK _ (by simp only[Ld,Gx,Jl,MQ];exact zh) zh (by simp only[G1,HI,Gx,Ld,MQ,Jl];omega)
def wk(hU:zK)(hB:l9)(hN:N.length<=60)(hw:∀n∈N,n.WF)(Pv:BC N<=20000)(lW:∀(q:Nat) (h:q<N.length),O6 N q N[q]):∃a e:Int,PC BZ 35 [.agg [.GV (N.map Ay)]] [] (.tuple [I a,I e]) []:=by
 obtain⟨K,hK⟩:=AH3 (N:=N) (Q:=λr c=>c=[]/\∃a e:Int,r=.tuple [I a,I e]) hU hB hN hw Pv lW (λe a=>⟨rfl,a,e,rfl⟩) N.length 0 0 0 AA AA AA
 have:PQ BZ 35 [.agg [.GV (N.map Ay)]] [] (λr c=>c=[]/\∃a e:Int,r=.tuple [I a,I e]):=by
  refine AKv 0 rfl _ ?_;unfold c35;refine zv ?_;exact⟨K,hK _ zh zh AaJ⟩
 exact Afn
end
end
end Go.Vi
