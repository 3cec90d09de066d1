/- Part of the proof of CauseOrders (own work, made small). -/
import Derived.Test.YtlonlfiaclacdaaGreatF1
set_option linter.all false
set_option maxRecDepth 100000
open Bool renaming and_eq_true->Bk,false_or->Dj,or_eq_false_iff->Cn,true_or->Fc
open Go.Proofs.Tryz renaming prog->BW
open Go.Vi.G8 renaming all->BM,Gy->A2,Il->A8
open Go.Vi.HF renaming Gy->BC,HJ->BO,wt->BK,Il->A7
open Go.Vi.HM renaming name->Ap,Gy->Ao
open Go.Vi.Hc renaming Gy->Ax
open Go.Vi.Hh renaming G1->A4
open Go.Vi.Item renaming r0->BS,dc->BQ,Gy->Aq,HJ->BI,wt->BE,Il->As
open Go.Vi.Obj renaming box->BD
open Go.Vi.St renaming Hn->Av,HY->Ar,IB->Ay
open Int renaming le_refl->C3
open List renaming append_nil->CL,drop_eq_getElem_cons->Bx,getElem?_eq_getElem->BZ,getElem?_eq_some_iff->Bn,getElem?_map->CH,getElem_mem->Bl,getElem_of_mem->By,length_append->Bf,length_cons->CG,length_map->BX,map_append->Br,mem_append->Bg,mem_map->B8,mem_singleton->CS,nil_append->CX,range->Bw,take_append_drop->CP,take_of_length_le->CJ,take_succ_eq_append_getElem->Cp
open Nat renaming le_refl->Bd
namespace Go.Vi
attribute [local irreducible] Iq IJ Hf Ij HS Ik G3 G4 HQ IA H7 KV Hx Ig Ie Iz LH LS Jq Kp LG Hw Hg IT pQ Jy JZ Hb HP He H2 IN I0 Int.instDecidableEq Int.decEq instBEqOfDecidableEq
section
open Go.Proofs
@[reducible]def G8.oo(n:G8):LP:=[.HK n.name,.HC (n.Je.map Ao),.HC (n.Ic.map Ao),.HC (n.Gx.map Ao),.HC (n.HE.map Aq),I n.HI]
section
variable{N:List G8} {e a:Int} {bn:Nat} {Gy:LP} {t:List BA} {bv eo:Nat} {s:St}
def xj.ck(h:xj N e a bn Gy t bv eo s)(e' a':Int):xj N e' a' bn Gy t bv eo (s.set 1 (.box (ck N e' a'))):=
 have h1:=h.n0;have h2:=h.v0
 ⟨(Ar AA).trans h.hp,Ay,(Ar AA).trans h.hn,(Ar AA).trans h.hv,h.ho,h.n0,h.v0,h.lt⟩
def xj.new(h:xj N e a bn Gy t bv eo s)(o:Obj):xj N e a bn Gy t bv eo (s.new o):=
 have h1:=h.lt
 ⟨(Av rfl AA).trans h.hp,(Av rfl AA).trans h.hc,(Av rfl AA).trans h.hn,(Av rfl AA).trans h.hv,h.ho,h.n0,h.v0,by rw[Hj];omega⟩
end
attribute [local irreducible] WU YU S5 Ug S4 Uh
section
variable{N:List G8} {Q:PV->LLP->Prop} {n:G8} {i:Int}
def qj(N:List G8)(Q:PV->LLP->Prop)(i e a:Int):Prop:=∃K,∀s,s.heap 0=some (.box [.HC (N.map A2)])->s.heap 1=some (.box (ck N e a))->1<s.next->Mn 0 0 Q K (.G5 0 0) (.G5 1 0) (I i) s
def AFI(hn:n.WF)(Pe:n.wt<=20000)(fj:0<=i)(hi:i<=100000){e a:Int}(Ix:∀e' a',(e'=0->e=0/\(∀v∈n.Gx,Ry n.vars v)/\∀x∈n.HE,xR n.vars x)->qj N Q (i+1) e' a'):
  ∃K,∀(bn bv eo:Nat) (s:St),xj N e a bn n.oo n.vars bv eo s->S5 0 0 Q (Mn 0 0 Q K) (.G5 0 0) (.G5 1 0) (I i) (.G5 bn 0) (.H6 bv (n.vars.map Gv)) s:=by
 have dZ:=Abg i;simp only[G8.wt]at Pe;have II:n.vars.length=n.Je.length+n.Ic.length+n.Gx.length:=by simp[G8.vars,BM];omega
 obtain⟨r,e1,a1,K4,rfl,h1⟩:=(bI (N:=N) (S:=n.vars) (l:=n.Gx) AA AA (λv hv=>by have:=(hn.Gx.all v hv).HH;omega) e a).pc;by_cases he:e1=0
 case neg=>
  obtain⟨K,hK⟩:=Ix e1 a1 λh=>Zq h he;refine⟨K,λbn bv eo s h=>?_⟩;have hpp:=h.hp;have jF:=h.hc;have jK:=h.hn;obtain⟨n1,n2⟩:=h.n0;have H5:=h.lt;unfold S5;refine zv ?_;refine AVt K4 rfl rfl AeD rfl ?_;refine Gw (λh9=>Zq AJ he) λ_=>?_;exact Ajv
 case pos=>
  obtain⟨g1,g2⟩:=h1 he;obtain⟨r,e2,a2,Jh,rfl,h2⟩:=(AJi (N:=N) _ n.vars n.HE (Bd _) AA AA hn.len hn.HE e1 a1).pc;obtain⟨K,hK⟩:=Ix e2 a2 λh=>⟨g1,g2,(h2 h).2⟩
  refine⟨K,λbn bv eo s h=>?_⟩;have hpp:=h.hp;have jF:=h.hc;have jK:=h.hn;obtain⟨n1,n2⟩:=h.n0;have H5:=h.lt;unfold S5;refine zv ?_;refine AVt K4 rfl rfl AeD rfl ?_;refine AWH ?_ (λh9=>Zq he AJ);refine zv ?_;refine Gz Jh rfl rfl AeD rfl ?_;exact Ajv
def ADb(hA:n.all.length<=70000){d:List BA}(hd:d.length<=100000){e0:Int}
  (Ix:∀e a,(e=0->e0=0)->∃K,∀(bn bv eo:Nat) (s:St),xj N e a bn n.oo n.vars bv eo s->S5 0 0 Q (Mn 0 0 Q K) (.G5 0 0) (.G5 1 0) (I i) (.G5 bn 0) (.H6 bv (n.vars.map Gv)) s):
  ∀(c:Nat) (j e a:Int),0<=j->j<=n.all.length->n.all.length-j<=c->(e=0->e0=0)->
   ∃K k,∀(ba bd bn bv eo:Nat) (s:St),xj N e a bn n.oo n.vars bv eo s->Zs 0 0 Q (Mn 0 0 Q K) k (.G5 0 0) (.G5 1 0) (I i) (.G5 bn 0) (.H6 ba (n.all.map Ao)) (.H6 bv (n.vars.map Gv)) (.H6 bd (d.map Gv)) (I j) s:=by
 have done:∀(j e a:Int),0<=j->¬(j<n.all.length/\e=0)->(e=0->e0=0)->
   ∃K k,∀(ba bd bn bv eo:Nat) (s:St),xj N e a bn n.oo n.vars bv eo s->Zs 0 0 Q (Mn 0 0 Q K) k (.G5 0 0) (.G5 1 0) (I i) (.G5 bn 0) (.H6 ba (n.all.map Ao)) (.H6 bv (n.vars.map Gv)) (.H6 bd (d.map Gv)) (I j) s:=by
  intro j e a h0 JU Ld;obtain⟨K,hK⟩:=Ix e a Ld;refine⟨K,1,λba bd bn bv eo s h=>?_⟩;have jF:=h.hc;show Ty _ _ _ _ _ _ _ _ _ _ _ _ _ _;unfold Ty;refine zv ?_;refine Tl zh ?_;refine Gw (λh9=>?_) λ_=>hK bn bv eo s h;exact AfK
 intro c
 induction c with
 |zero=>exactλj e a h0 h1 hc Ld=>done j e a h0 AA Ld
 |succ c ih=>
  intro j e a h0 h1 hc Ld;by_cases JU:j<n.all.length/\e=0
  case neg=>exact done j e a h0 JU Ld
  obtain⟨H5,he⟩:=JU;have OA:=Abg j;have HV:=JS h0 H5;cases hh:Mf d (n.all[j.toNat]' AA).name with
  |true=>
   obtain⟨K,k,hK⟩:=ih (j+1) e a AA AA AA Ld;refine⟨K,k+1,λba bd bn bv eo s h=>?_⟩;have jF:=h.hc;show Ty _ _ _ _ _ _ _ _ _ _ _ _ _ _;unfold Ty;refine zv ?_;refine Tl zh ?_;refine AWH ?_ λh9=>?_
   case refine_2=>simp[he]at h9;omega
   refine pQ_v AeL ?_;refine Gz (M5 _ _ AA) rfl rfl rfl rfl ?_;rw[hh];refine zv ?_;unfold Ug;refine zv ?_;rw[OA];exact hK ba bd bn bv eo s h
  |false=>
   obtain⟨r,e1,a1,I5,rfl,h2,_⟩:=(JQ (N:=N) (e:=e) (a:=a) (n.all[j.toNat]' AA).HI 24 AA).pc;obtain⟨K,k,hK⟩:=ih (j+1) e1 a1 AA AA AA λh=>Zq h h2;refine⟨K,k+1,λba bd bn bv eo s h=>?_⟩;have jF:=h.hc;show Ty _ _ _ _ _ _ _ _ _ _ _ _ _ _;unfold Ty;refine zv ?_;refine Tl zh ?_;refine AWH ?_ λh9=>?_
   case refine_2=>simp[he]at h9;omega
   refine pQ_v AeL ?_;refine Gz (M5 _ _ AA) rfl rfl rfl rfl ?_;rw[hh];refine zv ?_;refine pQ_v AeL ?_;refine Gz I5 rfl rfl AeD rfl ?_;unfold Ug;refine zv ?_;rw[OA];exact hK ba bd bn bv eo _ (h.ck e1 a1)
def ANP(hN:N.length<=60)(hn:n.WF)(Pe:n.wt<=20000)(fj:0<=i)(hi:i<=100000){e a:Int}(hd:e=0->dg n.vars)
  (hQ:∀e a,e≠0->Q (.tuple [I a,I e]) [])(Ix:∀e' a',(e'=0->e=0/\Sq N i.toNat n)->qj N Q (i+1) e' a'):
  ∃K,∀(ba bn bv eo:Nat) (s:St),xj N e a bn n.oo n.vars bv eo s->S4 0 0 Q (Mn 0 0 Q K) (.G5 0 0) (.G5 1 0) (I i) (.G5 bn 0) (.H6 ba (n.all.map Ao)) (.H6 bv (n.vars.map Gv)) s:=by
 by_cases he:e=0
 case neg=>
  refine⟨0,λba bn bv eo s h=>?_⟩;have jF:=h.hc;unfold S4;refine zv ?_;refine AWH ?_ (λh9=>Zq AJ he);exact AFX zh (hQ _ _ he)
 have Uu:=Pe;simp only[G8.wt]at Uu;have II:n.vars.length=n.Je.length+n.Ic.length+n.Gx.length:=by simp[G8.vars,BM];omega
 have Jg:n.all.length=n.vars.length:=by simp[G8.vars]
 have APJ:n.may.length<=n.vars.length:=by simp[G8.may]
 have PN:=AGc (nd:=i) hN _ n.vars n.may n.HE (Bd _) AA AA AA hn.len hn.HE e a;obtain⟨r,e1,a1,I5,d,rfl,hdl,h1⟩:=PN.pc
 obtain⟨K,k,hK⟩:=ADb (Q:=Q) (N:=N) (n:=n) (i:=i) (d:=d) (e0:=e1) AA AA (λe2 a2 h2=>AFI (Q:=Q) hn Pe fj hi λe3 a3 h3=>Ix e3 a3 λh=>by
  obtain⟨q1,q2,q3⟩:=h3 h;obtain⟨q4,q5⟩:=h1 (h2 q1);exact⟨he,hd he,by rw[show((i.toNat:Nat):Int)=i by omega];exact q5,q2,q3⟩) (n.all.length-n.Je.length) n.Je.length e1 a1 AA AA AA id
 refine⟨K,λba bn bv eo s h=>?_⟩;have hpp:=h.hp;have jF:=h.hc;have jK:=h.hn;have hvv:=h.hv;obtain⟨n1,n2⟩:=h.n0;obtain⟨v1,v2,v3⟩:=h.v0;obtain⟨l1,l2,l3⟩:=h.lt;unfold S4;refine zv ?_;refine Gw (λh9=>Zq he AJ) λ_=>?_;refine zv ?_;refine Gu (ABu (r1:=[]) (r2:=[]) (a:=some n.Je.length) (c:=none) rfl (by simp[SV,M0]) rfl (Bd _) AB (H8 Hi)) ?_
 have OS:((n.vars.map Gv).drop ((some n.Je.length).getD 0)).take ((none:ON).getD (n.vars.map Gv).length-(some n.Je.length).getD 0)=n.may.map Gv:=by
  simp only[Option.getD_some,Option.getD_none];rw[CJ AD];simp[G8.may,List.map_drop]
 rw[OS];refine zv ?_;refine AVt I5 rfl rfl AeD rfl ?_;simp only[BX];refine⟨k,hK ba s.next bn bv eo _ ((h.ck e1 a1).new _)⟩
end
end
section
open Go.Proofs
def ZN{l:List G8}{q:Nat}(h:q<l.length):l[q].wt<=A8 l:=by
 have h1:l=l.take q++l[q]::l.drop (q+1):=by
  rw[<- Bx h,CP]
 have h2:A8 l=A8 (l.take q)+(l[q].wt+A8 (l.drop (q+1))):=by
  have:=G8.Io (l.take q) (l[q]::l.drop (q+1));rw[<- h1]at this;simpa[A8]using this
 omega
attribute [local irreducible] WU YU S5 Ug S4 Uh
section
variable{N:List G8} {Q:PV->LLP->Prop}
def AKy(hN:N.length<=60)(hw:∀n∈N,n.WF)(Pe:A8 N<=20000)(hQ:∀e a,(e=0->∀(q:Nat) (h:q<N.length),Sq N q N[q])->Q (.tuple [I a,I e]) []):
  ∀(c:Nat) (i e a:Int),0<=i->i<=N.length->N.length-i<=c->(e=0->∀(q:Nat) (h:q<N.length),(q:Int)<i->Sq N q N[q])->qj N Q i e a:=by
 have done:∀(i e a:Int),0<=i->¬(i<N.length/\e=0)->(e=0->∀(q:Nat) (h:q<N.length),(q:Int)<i->Sq N q N[q])->qj N Q i e a:=by
  intro i e a h0 JU Ld;refine⟨1,λs h1 h2 h3=>?_⟩;show eN _ _ _ _ _ _ _ _;unfold eN;refine zv ?_;refine Tl zh ?_;refine AWI (λh9=>?_) ?_
  .exact AfK
  .exact AFX zh (hQ _ _ λhe q hq=>Ld he q hq (by by_cases hi:i<N.length;exact Zq ⟨hi,he⟩ JU;omega))
 intro c
 induction c with
 |zero=>exactλi e a h0 h1 hc Ld=>done i e a h0 AA Ld
 |succ c ih=>
  intro i e a h0 h1 hc Ld;by_cases JU:i<N.length/\e=0
  case neg=>exact done i e a h0 JU Ld
  obtain⟨H5,he⟩:=JU;have HV:=Te h0 H5;have jL:=hw (N[i.toNat]' AA) (Bl _);have Xl:=ZN (l:=N) (q:=i.toNat) AA;generalize hg:N[i.toNat]' AA=n at HV jL Xl;have AXb:=Xl;simp only[G8.wt]at AXb;have II:n.all.length=n.Je.length+n.Ic.length+n.Gx.length:=by simp[BM];omega
  obtain⟨rn,hrn,T9⟩:=tG N hN n.name i;have PO:n.Je.map Ao++n.Ic.map Ao++n.Gx.map Ao=n.all.map Ao:=by simp[BM]
  obtain⟨K,k,hK⟩:=AKs (Q:=Q) (N:=N) (A:=n.all) (i:=i) (Gy:=n.oo) (e0:=e) AA (λe1 a1 h=>ANP (Q:=Q) hN jL AA h0 AA (λhe=>(h he).2) (λe2 a2 ar=>hQ e2 a2 λh=>Zq h ar) λe2 a2 h2=>ih (i+1) e2 a2 AA AA AA λar q hq hqi=>by
   by_cases UQ:(q:Int)<i
   .exact Ld he q hq UQ
   .have:q=i.toNat:=AA;subst this;rw[hg];exact(h2 ar).2) n.all.length 0 e a AA AA AA (λh=>⟨h,λq hq hq0=>by omega⟩)
  refine⟨K+1,λs h1 h2 h3=>?_⟩;show eN _ _ _ _ _ _ _ _;unfold eN;refine zv ?_;refine Tl zh ?_;refine AWH ?_ λh9=>?_
  case refine_2=>simp[he]at h9;omega
  refine zv ?_;refine Gu Aei ?_;refine Gu AfA ?_;rw[G8.ZV];refine zv ?_;refine AbZ hrn ?_;refine AWG ?_ ?_
  .refine zv ?_;obtain⟨r,e1,a1,I5,rfl,h9,_⟩:=(JQ (N:=N) (e:=e) (a:=a) n.HI 20 AA).pc;refine Gz I5 rfl rfl AeD rfl ?_;exact AFX zh (hQ _ _ λh=>Zq h h9)
  .refine zv ?_;refine Aba AeC ?_;refine Aba Adl ?_;refine HA AeX ?_;rw[PO];refine zv ?_;refine⟨?_,?_⟩
   .simp only[Hj,Hz,Ni,Lu,dN,OC,Pf,CX,CL];simp[Ih,I6,Jv];exact⟨by kernel_rfl,by kernel_rfl,by kernel_rfl⟩
   refine zv ?_;have h8:=hK;simp only[Int.toNat_zero,List.take_zero]at h8;exact⟨k,h8 _ s.next _ 0 _ ⟨zh,zh,zh,zh,.inl rfl,AA,Abz,Abz⟩⟩
def za(hN:N.length<=60)(hw:∀n∈N,n.WF)(Pe:A8 N<=20000):∃a e:Int,PC BW 54 [.agg [.HC (N.map A2)]] [] (.tuple [I a,I e]) []/\(e=0->∀(q:Nat) (h:q<N.length),Sq N q N[q]):=by
 obtain⟨K,hK⟩:=AKy (N:=N) (Q:=λr c=>c=[]/\∃a e:Int,r=.tuple [I a,I e]/\(e=0->∀(q:Nat) (h:q<N.length),Sq N q N[q])) hN hw Pe (λe a h=>⟨rfl,a,e,rfl,h⟩) N.length 0 0 0 AA AA AA (λ_ q hq h0=>by omega)
 have:PQ BW 54 [.agg [.HC (N.map A2)]] [] (λr c=>c=[]/\∃a e:Int,r=.tuple [I a,I e]/\(e=0->∀(q:Nat) (h:q<N.length),Sq N q N[q])):=by
  refine ANd 0 rfl _ ?_;unfold c54;refine zv ?_;exact⟨K,hK _ zh zh (by simp only[Hj,I4,Hz];omega)⟩
 obtain⟨r,c,I5,rfl,a,e,rfl,h⟩:=this;exact⟨a,e,I5,h⟩
end
end
section
open Go.Proofs
def uG(V:List HM)(w:BA)(r:Int):Prop:=(0<=r/\∃v,V[r.toNat]?=some v/\v.name.toList=w.toList)\/(r= -1/\∀v∈V,v.name.toList≠w.toList)
def uG.Mf{V:List HM}{w:BA}{r:Int}(h:uG V w r)(hh:Vi.Mf (V.map Ap) w=true):0<=r/\r<V.length:=by
 obtain⟨x,hx,he⟩:=SF.1 hh;obtain⟨v,hv,rfl⟩:=B8.1 hx;rcases h with⟨h0,v',h1,h2⟩|⟨_,h1⟩
 .have:=(Bn.1 h1).1;exact⟨h0,AA⟩
 .exact Zq he (h1 v hv)
def JL(t:Int×Int):LP:=[I t.1,I t.2]
def Jm{l:List (Int×Int)}{i:Int}(h0:0<=i)(h:i<l.length):(l.map JL)[i.toNat]?=some (JL (l[i.toNat]' AA)):=Aih
def AHy{l:List (Int×Int)}:∀r∈l.map JL,r.length=2:=Agm
def jh(t u:Int×Int):Bool:= !((t.1==u.1)&&((t.2==u.2)&&true))
def AQl(a b c d:Int):al BW .neq 74 (.agg [I a,I b]) (.agg [I c,I d])=some (.bool (!((a==c)&&((b==d)&&true)))):=by kernel_rfl
def PW{t u:Int×Int}{s:St}:I0 (H7 BW .neq 74 (.agg (JL t)) (.agg (JL u))) s (.bool (jh t u)) s [] []:=Ho (AQl _ _ _ _)
def eg(V:List HM)(hV:V.length<=100000)(w:BA):∃r,PC BW 89 [.HC (V.map Ao),.HK w] [] (I r) []/\uG V w r:=by
 have loop:∀c:Nat,∃k,∀(i:Int) (s:St), -1<=i->i<V.length->i+1<=c->(∀(j:Nat) (h:j<V.length),i<j->V[j].name.toList≠w.toList)->HZ s (Bw 0)=some []->
   AAt 0 0 (λr c=>c=[]/\∃r':Int,r=I r'/\uG V w r') k (.HC (V.map Ao)) (.HK w) (I i) s:=by
  intro c
  induction c with
  |zero=>
   refine⟨1,λi s h0 h1 hc RT hs=>?_⟩;show lO _ _ _ _ _ _ _ _;unfold lO;refine zv ?_;refine Gw Ad2 λ_=>?_;exact AhG
  |succ c ih=>
   obtain⟨k,ih⟩:=ih;refine⟨k+1,λi s h0 h1 hc RT hs=>?_⟩;show lO _ _ _ _ _ _ _ _;unfold lO;refine zv ?_;refine Gw (λh=>?_) λh=>?_
   .have hi:0<=i:=Ot h;have hw:IntKind.i64.wrap (i-1)=i-1:=Hr AA AA;have jZ:V[i.toNat]?=some (V[i.toNat]' AA):=BZ AA;refine pQ_v (HU hi (JS hi h1) rfl) ?_;refine Gw (λh2=>?_) λh2=>?_
    .refine zv ?_;exact HB rfl rfl hs ⟨rfl,i,rfl,.inl ⟨hi,_,jZ,by simpa using h2⟩⟩
    .refine zv ?_;refine ih _ _ AA AA AA (λj hj sS=>?_) hs;by_cases pY:i<j
     .exact RT j hj pY
     .exact AkM
   .have:=Zy h;exact AhG
 have:PQ BW 89 [.HC (V.map Ao),.HK w] [] (λr c=>c=[]/\∃r':Int,r=I r'/\uG V w r'):=by
  refine ANz 0 rfl _ _ ?_;unfold c89;refine zv ?_;obtain⟨k,hk⟩:=loop V.length;have hw:IntKind.i64.wrap (((V.map Ao).length:Int)-1)=(V.length:Int)-1:=by rw[BX];exact Hr AA AA
  rw[hw];exact⟨k,hk _ _ AA AA AA (λj hj h=>by omega) rfl⟩
 exact Aj4
def R2:PC BW 90 [] [] (.agg [I 1,I 0]) []:=by
 have:PQ BW 90 [] [] (λr c=>c=[]/\r=.agg [I 1,I 0]):=by
  refine AN0 0 rfl ?_;unfold c90;refine zv ?_;exact HB AdY rfl rfl ⟨rfl,rfl⟩
 exact Afg
def xo(n:G8)(X:List HM)(hl:n.all.length+X.length<=100000):PC BW 40 [.agg n.oo,.HC (X.map Ao)] [] (.HC ((n.all++X).map Ao)) []:=by
 have II:n.all.length=n.Je.length+n.Ic.length+n.Gx.length:=by simp[BM];omega
 have PO:n.Je.map Ao++n.Ic.map Ao++n.Gx.map Ao=n.all.map Ao:=by simp[BM]
 have:PQ BW 40 [.agg n.oo,.HC (X.map Ao)] [] (λr c=>c=[]/\r=.HC ((n.all++X).map Ao)):=by
  refine ANY 0 rfl _ _ ?_;unfold c40;refine zv ?_;refine pQ_v AeC ?_;refine Aba Adl ?_;refine HA AeX ?_;rw[PO];refine zv ?_;refine⟨?_,?_⟩
  .exact zc
  refine zv ?_;refine pQ_v (KG rfl (H8 Ln) (Hl AB AA) (H8 Ln) (by rw[<- PO];simp only[Bf];exact zh) (.inr rfl)) ?_;rw[<- Br];refine HB rfl rfl rfl ⟨rfl,rfl⟩
 exact Afg
end
section
open Go.Proofs
def Sb(t:Int×Int):Prop:=0<=t.1/\t.1<=9
def HM.ty(v:HM):Int×Int:=(v.tk,v.tl)
structure di (N:List G8) (e a:Int) (xr:List PV) (n:G8) (s:St):Prop where
 h0:s.heap 0=some (.box (ck N e a))
 h1:s.heap 1=some (.box xr)
 h3:s.heap 3=some (.box n.oo)
 lt:4<s.next
attribute [local irreducible] Re R6 R5 R7 R4 Tu R9 R8 Qg R3
section
variable{N:List G8} {e a:Int} {f s1 tk tl i m HI:Int} {nm:BA} {kr:LLP} {n:G8} {Q:PV->LLP->Prop} {e0:Int}
def Sx(N:List G8)(e:Int)(Q:PV->LLP->Prop):Prop:=∀(e' a':Int) (T:List (Int×Int)),T.length<=100000->(∀t∈T,Sb t)->(e'=0->e=0)->Q (.HC (T.map JL)) [ck N e' a']
def AFc{xr:LP}(Rp:xr[8]?=some (I HI)){bad:Int}{T:List (Int×Int)}(hT:T.length<=100000)(hTy:∀t∈T,Sb t){out:PV}(ho:out=.HC (T.map JL)\/∃b,out=.H6 b (T.map JL))(hQ:Sx N e Q){s:St}(h:di N e a xr n s):
  Re 0 1 Q (.G5 0 0) (.G5 1 0) (I bad) out s:=by
 have Mt:=h.h0;have mU:=h.h1;have H5:=h.lt;unfold Re;refine zv ?_;refine AWI (λhb=>?_) ?_
 .exact Akj
 .rcases ho with rfl|⟨b,rfl⟩
  .exact AjZ
  .exact AjZ
def ALA{xr:LP}(Rp:xr[8]?=some (I HI))(hn:n.Ic.length<=20000)(hw:∀v∈n.Ic,v.WF){bad:Int}(hQ:Sx N e Q):
  ∀c:Nat,∃k,∀(j:Int) (b eo:Nat) (s:St),0<=j->j<=n.Ic.length->n.Ic.length-j<=c->di N e a xr n s->s.heap b=some (.Hm (((n.Ic.take j.toNat).map HM.ty).map JL).length eo)->((((n.Ic.take j.toNat).map HM.ty).map JL)=[]\/eo=2)->3<b->
   YG 0 1 Q k (.G5 0 0) (.G5 1 0) (.G5 3 0) (I bad) (.H6 b (((n.Ic.take j.toNat).map HM.ty).map JL)) (I j) s:=by
 have AZD:∀t∈n.Ic.map HM.ty,Sb t:=by
  intro t ht;obtain⟨v,hv,rfl⟩:=B8.1 ht;exact(hw v hv).tk
 have done:∀(j:Int) (b:Nat) (s:St) (k:Nat),0<=j->j=n.Ic.length->di N e a xr n s->
   YG 0 1 Q (k+1) (.G5 0 0) (.G5 1 0) (.G5 3 0) (I bad) (.H6 b (((n.Ic.take j.toNat).map HM.ty).map JL)) (I j) s:=by
  intro j b s k h0 hj h;have h33:=h.h3;show VS _ _ _ _ _ _ _ _ _ _ _;unfold VS;refine zv ?_;refine AWI (λh9=>?_) ?_
  .exact AfT
  .rw[CJ AA];exact AFc Rp AB AZD (.inr ⟨_,rfl⟩) hQ h
 intro c
 induction c with
 |zero=>exact⟨1,λj b eo s h0 h1 hc h hb ho Xp=>done j b s 0 h0 AA h⟩
 |succ c ih=>
  obtain⟨k,ih⟩:=ih;refine⟨k+1,λj b eo s h0 h1 hc h hb ho Xp=>?_⟩;by_cases H5:j<n.Ic.length
  case neg=>exact done j b s k h0 AA h
  have OA:=Abg j;have HV:=JS h0 H5;have II:((n.Ic.take j.toNat).map HM.ty).length<=20000:=by simp;omega
  have vl:(n.Ic.take (j+1).toNat).map HM.ty=(n.Ic.take j.toNat).map HM.ty++[(n.Ic[j.toNat]' AA).ty]:=by
   rw[show(j+1).toNat=j.toNat+1 by omega,Cp AA,Br];rfl
  have ih2:=ih (j+1) b 2;rw[vl]at ih2;generalize(n.Ic.take j.toNat).map HM.ty=T at hb ho II ih2⊢;have h33:=h.h3;have Mt:=h.h0;have mU:=h.h1;show VS _ _ _ _ _ _ _ _ _ _ _;unfold VS;refine zv ?_;refine AWH ?_ λh9=>?_
  case refine_2=>have:=Zy h9;rw[BX]at this;omega
  refine zv ?_;refine pQ_v AeM ?_;refine pQ_v (KG rfl rfl (Hl AB AA) (H8 AHy) zh (ho.imp (λh=>by rw[h];rfl) λh=>h.symm)) ?_;rw[OA];have M9:T.map JL++[JL (n.Ic[j.toNat]' AA).ty]=(T++[(n.Ic[j.toNat]' AA).ty]).map JL:=by rw[Br];rfl
  have h8:=ih2 (s.set b (.Hm ((T.map JL).length+1) 2)) AA AA AA ⟨zh,zh,zh,h.lt⟩ Abt (.inr rfl) Xp;rw[<- M9]at h8;exact h8
def APu{xr:LP}{K:List (Int×Int)}(hn:n.Je.length<=20000)(hK:n.Je.length<=K.length){b:Nat}
  (Ix:∀(bad:Int) (s:St),di N e a xr n s->s.heap b=some (.Hm 0 0)->R5 0 1 Q (.G5 0 0) (.HC (K.map JL)) (.G5 1 0) (.G5 3 0) (I bad) (.H6 b []) s):
  ∀c:Nat,∃k,∀(j bad:Int) (s:St),0<=j->j<=n.Je.length->n.Je.length-j<=c->di N e a xr n s->s.heap b=some (.Hm 0 0)->
   VT 0 1 Q k (.G5 0 0) (.HC (K.map JL)) (.G5 1 0) (.G5 3 0) (I bad) (.H6 b []) (I j) s:=by
 have done:∀(j bad:Int) (s:St) (k:Nat),0<=j->j=n.Je.length->di N e a xr n s->s.heap b=some (.Hm 0 0)->
   VT 0 1 Q (k+1) (.G5 0 0) (.HC (K.map JL)) (.G5 1 0) (.G5 3 0) (I bad) (.H6 b []) (I j) s:=by
  intro j bad s k h0 hj h hb;have h33:=h.h3;show VU _ _ _ _ _ _ _ _ _ _ _ _;unfold VU;refine zv ?_;refine Gw (λh9=>?_) λ_=>Ix bad s h hb;exact AfT
 intro c
 induction c with
 |zero=>exact⟨1,λj bad s h0 h1 hc h hb=>done j bad s 0 h0 AA h hb⟩
 |succ c ih=>
  obtain⟨k,ih⟩:=ih;refine⟨k+1,λj bad s h0 h1 hc h hb=>?_⟩;by_cases H5:j<n.Je.length
  case neg=>exact done j bad s k h0 AA h hb
  have OA:=Abg j;have HV:=JS h0 H5;have Ss:=Jm (l:=K) h0 AA;have h33:=h.h3;show VU _ _ _ _ _ _ _ _ _ _ _ _;unfold VU;refine zv ?_;refine AWH ?_ λh9=>?_
  case refine_2=>have:=Zy h9;rw[BX]at this;omega
  refine Aba AfB ?_;refine Aba AeM ?_;refine HA (PW (t:=K[j.toNat]' AA) (u:=(n.Je[j.toNat]' AA).ty)) ?_;refine⟨zc,?_⟩;refine AWG ?_ ?_
  .exact AjQ
  .exact AjQ
def AKg{xr:LP}(Uv:xr[0]?=some (I f))(Rp:xr[8]?=some (I HI)){K:List (Int×Int)}(hK:K.length<=100000)(hf:f=14->0<K.length)(hn:n.Ic.length<=20000)(hw:∀v∈n.Ic,v.WF)(hQ:Sx N e Q){bad:Int}{b:Nat}(Xp:3<b){s:St}(h:di N e a xr n s)(hb:s.heap b=some (.Hm 0 0)):
  R5 0 1 Q (.G5 0 0) (.HC (K.map JL)) (.G5 1 0) (.G5 3 0) (I bad) (.H6 b []) s:=by
 have tail:∀bad,R6 0 1 Q (.G5 0 0) (.G5 1 0) (.G5 3 0) (I bad) (.H6 b []) s:=by
  intro bad;obtain⟨k,hk⟩:=ALA (N:=N) (e:=e) (a:=a) (n:=n) (xr:=xr) (bad:=bad) Rp hn hw hQ n.Ic.length;unfold R6;exact⟨k,hk 0 b 0 s AA AA AA h AW (.inl rfl) Xp⟩
 have mU:=h.h1;unfold R5;refine zv ?_;refine Aba (G2 zh Uv) ?_;cases hf14:(f==14)
 .refine zv ?_;refine⟨zc,?_⟩;refine zv ?_;exact tail _
 .have OK:f=14:=by simpa using hf14
  have hk0:=hf OK;have hwk:IntKind.i64.wrap (((K.map JL).length:Int)-1)=(K.length:Int)-1:=by rw[BX];exact Hr AA AA
  refine zv ?_;rw[hwk];refine Aah (HU AA (Jm (l:=K) AA AA) rfl) ?_;refine AYi R2 ?_;refine Aah (PW (t:=K[((K.length:Int)-1).toNat]' AA) (u:=(1,0))) ?_;refine⟨zc,?_⟩;refine Gw (λ_=>tail _) λ_=>tail _
end
end
section
open Go.Proofs
attribute [local irreducible] Re R6 R5 R7 R4 Tu R9 R8 Qg R3
section
variable{N:List G8} {e a:Int} {f HI:Int} {n:G8} {Q:PV->LLP->Prop} {xr:LP} {K:List (Int×Int)}
def AQR(Rp:xr[8]?=some (I HI))(hK:0<K.length)(hn:n.Ic.length=1)(hw:∀v∈n.Ic,v.WF)(hQ:Sx N e Q){bad:Int}{s:St}(h:di N e a xr n s):
  Tu 0 1 Q (.G5 0 0) (.HC (K.map JL)) (.G5 1 0) (.G5 3 0) (I bad) s:=by
 have h33:=h.h3;have HV:=JS (l:=n.Ic) (i:=0) AA AA;have Ss:=Jm (l:=K) (i:=0) AA AA;have hv:(n.Ic[(0:Int).toNat]' AB).WF:=hw _ (Bl _);generalize n.Ic[(0:Int).toNat]' AB=v at HV hv;generalize K[(0:Int).toNat]' AB=t at Ss;unfold Tu;refine zv ?_;refine Aba (HU AA HV rfl) ?_;refine Aba (HU AA Ss rfl) ?_;refine⟨zc,?_⟩;exact AFc (T:=[(v.tk,t.2)]) Rp AD (by simpa[Sb]using hv.tk) (.inl rfl) hQ h
def AJp(Rp:xr[8]?=some (I HI))(hK:0<K.length)(hK2:K.length<=100000)(hi:n.Je.length=K.length)(hn:n.Ic.length=1)(hw:∀v∈n.Ic,v.WF)(hQ:Sx N e Q):
  ∀c:Nat,∃k,∀(j bad:Int) (s:St),0<=j->j<=K.length->K.length-j<=c->di N e a xr n s->
   Tv 0 1 Q k (.G5 0 0) (.HC (K.map JL)) (.G5 1 0) (.G5 3 0) (I bad) (I j) s:=by
 have done:∀(j bad:Int) (s:St) (k:Nat),0<=j->j=K.length->di N e a xr n s->
   Tv 0 1 Q (k+1) (.G5 0 0) (.HC (K.map JL)) (.G5 1 0) (.G5 3 0) (I bad) (I j) s:=by
  intro j bad s k h0 hj h;show VV _ _ _ _ _ _ _ _ _ _ _;unfold VV;refine zv ?_;refine Gw (λh9=>?_) λ_=>AQR Rp hK hn hw hQ h;exact AfT
 intro c
 induction c with
 |zero=>exact⟨1,λj bad s h0 h1 hc h=>done j bad s 0 h0 AA h⟩
 |succ c ih=>
  obtain⟨k,ih⟩:=ih;refine⟨k+1,λj bad s h0 h1 hc h=>?_⟩;by_cases H5:j<K.length
  case neg=>exact done j bad s k h0 AA h
  have OA:=Abg j;have HV:=JS (l:=n.Je) h0 AA;have Ss:=Jm (l:=K) h0 AA;have Kl:=Jm (l:=K) (i:=0) AA AA;generalize n.Je[j.toNat]' AA=v at HV;generalize K[j.toNat]' AA=t at Ss;generalize K[(0:Int).toNat]' AB=t0 at Kl;have h33:=h.h3
  have next:∀bad,R9 0 1 Q (Tv 0 1 Q k) (.G5 0 0) (.HC (K.map JL)) (.G5 1 0) (.G5 3 0) (I bad) (I j) s:=by
   intro bad;unfold R9;exact AkG
  show VV _ _ _ _ _ _ _ _ _ _ _;unfold VV;refine zv ?_;refine AWH ?_ λh9=>?_
  case refine_2=>have:=Zy h9;rw[BX]at this;omega
  refine zv ?_;refine Aba AeM ?_;cases TM:decide (v.tl>0)
  case true=>
   exact Ah5
  refine zv ?_;refine Aag AfB ?_;cases T7:(t.2==0)
  case true=>
   exact Ah5
  refine zv ?_;refine Aag AfB ?_;refine Aag (HU AA Kl rfl) ?_;cases xV:(t.2 !=t0.2)
  case true=>
   exact Ah5
  refine zv ?_;refine Aag AfB ?_;refine Aag AeM ?_;refine⟨zc,?_⟩;exact Gw (λ_=>next _) λ_=>next _
def call122(Uv:xr[0]?=some (I f))(Rp:xr[8]?=some (I HI))(hK:K.length<=100000)(ZB:n.Je.length<=20000)(hn:n.Ic.length<=20000)(hw:∀v∈n.Ic,v.WF)(hQ:Sx N e Q){QZ:Int}(AUO:n.Je.length<=QZ/\(f=14->0<QZ)){bad:Int}{b:Nat}(Xp:3<b){s:St}(h:di N e a xr n s)(hb:s.heap b=some (.Hm 0 0)):
  R4 0 1 Q (.G5 0 0) (.HC (K.map JL)) (.G5 1 0) (.G5 3 0) (I bad) (.H6 b []) (I QZ) s:=by
 have Mt:=h.h0;have mU:=h.h1;have H5:=h.lt;unfold R4;refine zv ?_;refine AWH ?_ λh9=>?_
 .obtain⟨r,e1,a1,I5,rfl,h2,_⟩:=(JQ (N:=N) (e:=e) (a:=a) HI 23 AA).pc;refine zv ?_;refine Gu (G2 zh Rp) ?_;exact Afs
 .have II:(K.length:Int)=QZ:=by simpa using h9
  obtain⟨k,hk⟩:=APu (N:=N) (e:=e) (a:=a) (n:=n) (xr:=xr) (K:=K) (b:=b) ZB AA (λbad s h hb=>AKg (Q:=Q) Uv Rp hK (λhf=>by have:=AUO.2 hf;omega) hn hw hQ Xp h hb) n.Je.length;exact⟨k,hk 0 bad s AA AA AA h hb⟩
def AOI(Rp:xr[8]?=some (I HI))(hQ:Sx N e Q){bad:Int}{b:Nat}{t:Int×Int}(ht:Sb t){s:St}(h:di N e a xr n s)(hb:s.heap b=some (.box (JL t))):
  Qg 0 1 Q (.G5 0 0) (.G5 1 0) (I bad) (.G5 b 0) s:=by
 unfold Qg;refine zv ?_;exact AFc (T:=[t]) Rp AD (by simpa using ht) (.inl rfl) hQ h
def AJf(Uv:xr[0]?=some (I f))(Rp:xr[8]?=some (I HI))(hf:f=13\/f=14\/f=18\/f=19)(hK:K.length<=100000)(h18:f=18->0<K.length)(h19:f=19->K.length=2)(ZB:n.Je.length<=20000)(hn:n.Ic.length<=20000)(dZ:∀v∈n.Je,v.WF)(hw:∀v∈n.Ic,v.WF)(hQ:Sx N e Q){s:St}(h:di N e a xr n s)(hb:s.heap 4=some (.Hm 0 0)):
  R3 0 1 Q (.G5 0 0) (.HC (K.map JL)) (.G5 1 0) (.G5 3 0) (I 0) (.H6 4 []) (I f) (.bool (f==13||f==14)) s:=by
 have Mt:=h.h0;have mU:=h.h1;have h33:=h.h3;have H5:=h.lt
 have fail:Hb BW 68 [.G5 0 0,I HI,I 23] s (λv348 AY9=>pQ (some (.Hm 0 0 λb=> .H6 b [])) AY9 λAZa AZA=>H2 (So [some AZa]) λl=>IN 0 1 (NF l) AZA Q):=by
  obtain⟨r,e1,a1,I5,rfl,h2,_⟩:=(JQ (N:=N) (e:=e) (a:=a) HI 23 AA).pc;exact Afs
 unfold R3;cases hc:(f==13||f==14)
 case true=>
  refine ct ?_;refine zv ?_;refine pQ_v (G2 zh Uv) ?_;cases h14:(f==14)
  .refine zv ?_;rw[BX];have:f≠14:=by simpa using h14
   exact call122 Uv Rp hK ZB hn hw hQ ⟨C3 _,λh=>Zq h this⟩ AA h hb
  .have hwk:IntKind.i64.wrap (((n.Je.map Ao).length:Int)+1)=(n.Je.length:Int)+1:=by rw[BX];exact Hr AA AA
   refine zv ?_;rw[hwk];exact call122 Uv Rp hK ZB hn hw hQ ⟨AA,λh=>by omega⟩ AA h hb
 case false=>
  simp only[Cn,beq_eq_false_iff_ne]at hc;refine cf ?_;refine zv ?_;cases h18':(f==18)
  case true=>
   have ASz:f=18:=by simpa using h18'
   have hk0:=h18 ASz;refine zv ?_;cases TM:(((n.Ic.map Ao).length:Int) !=1)
   case true=>
    exact Af4
   have Yz:n.Ic.length=1:=by simp at TM;omega
   refine zv ?_;refine AWH ?_ λT7=>?_
   .exact Af4
   .have fE:n.Je.length=K.length:=by simp at T7;omega
    have HV:=JS (l:=n.Ic) (i:=0) AA AA;generalize n.Ic[(0:Int).toNat]' AB=v at HV;obtain⟨k,hk⟩:=AJp (N:=N) (e:=e) (a:=a) (n:=n) (xr:=xr) (K:=K) (Q:=Q) Rp hk0 hK fE Yz hw hQ K.length
    have key:∀bad,R8 0 1 Q (.G5 0 0) (.HC (K.map JL)) (.G5 1 0) (.G5 3 0) (I bad) s:=by
     intro bad;unfold R8;exact⟨k,hk 0 bad s AA AA AA h⟩
    refine zv ?_;refine pQ_v (HU AA HV rfl) ?_;exact Gw (λ_=>key _) λ_=>key _
  case false=>
   have ASz:f≠18:=by simpa using h18'
   have AS0:f=19:=AA;have Jr:=h19 AS0;have AWX:(f==19)=true:=by simpa using AS0
   refine zv ?_;rw[AWX];refine zv ?_;cases TM:(((n.Ic.map Ao).length:Int) !=1)
   case true=>
    exact Af4
   have Yz:n.Ic.length=1:=by simp at TM;omega
   refine zv ?_;refine AWH ?_ λT7=>?_
   .exact Af4
   .have fE:n.Je.length=2:=by simp at T7;omega
    have Kl:=JS (l:=n.Je) (i:=0) AA AA;have PO:=JS (l:=n.Je) (i:=1) AA AA;have hwv:(n.Je[(0:Int).toNat]' AB).WF:=dZ _ (Bl _);have AMa:=JS (l:=n.Ic) (i:=0) AA AA;have Ss:=Jm (l:=K) (i:=0) AA AA;have zC:=Jm (l:=K) (i:=1) AA AA;generalize n.Je[(0:Int).toNat]' AB=v at Kl hwv;generalize n.Je[(1:Int).toNat]' AB=v1 at PO;generalize n.Ic[(0:Int).toNat]' AB=o at AMa;generalize K[(0:Int).toNat]' AB=t0 at Ss;generalize K[(1:Int).toNat]' AB=t1 at zC;refine zv ?_;refine pQ_v (HU AA Kl rfl) ?_;refine pQ_v (HU AA PO rfl) ?_
    have fin:∀bad,Qg 0 1 Q (.G5 0 0) (.G5 1 0) (I bad) (.G5 s.next 0) ((((s.new (BD [I 0,I 0])).set s.next (BD (List.take 2 (List.drop (0+1) v.Gy)))).new (BD [I 0,I 0])).set (s.next+1) (BD (List.take 2 (List.drop (0+1) v1.Gy)))):=by
     intro bad;exact AOI (t:=v.ty) Rp hQ hwv.tk ⟨zh,zh,zh,by simp only[Hj,Hz];omega⟩ zh
    cases xV:decide (v.tl>0)
    case true=>
     exact AhH
    refine zv ?_;cases hg4:decide (v1.tl>0)
    case true=>
     exact AhH
    refine zv ?_;refine Aag (HU AA AMa rfl) ?_;refine Aag (PW (t:=o.ty) (u:=v.ty)) ?_;cases hg5:jh o.ty v.ty
    case true=>
     exact AhH
    refine zv ?_;refine Aag (HU AA Ss rfl) ?_;refine Aag (PW (t:=t0) (u:=v.ty)) ?_;cases hg6:jh t0 v.ty
    case true=>
     exact AhH
    refine zv ?_;refine Aag (HU AA zC rfl) ?_;cases hg7:(t1.2==0)
    case true=>
     exact AhH
    refine zv ?_;refine Aag (HU AA zC rfl) ?_;exact⟨zc,Gw (λ_=>fin _) λ_=>fin _⟩
end
end
section
open Go.Proofs
def Hh.fX(x:Hh):x.Gy.all PV.Iu=true:=by rw[Hh.JP];rfl
def Qb.all{N:List G8}{w:BA}{nd r r':Int}(h:Qb N w nd r)(h0:0<=r)(h':Qb N w N.length r'):0<=r'/\r'<N.length:=by
 rcases h with⟨_,_,n,h1,h2⟩|⟨h1,_⟩
 .rcases h' with⟨h3,h4,_⟩|⟨_,h4⟩
  .exact⟨h3,h4⟩
  .have:=(Bn.1 h1).1;exact Zq h2 (h4 _ _ h1 AA)
 .omega
def QTy(e:Int)(r:PV)(e':Int):Prop:=∃T:List (Int×Int),r=.HC (T.map JL)/\T.length<=100000/\(∀t∈T,Sb t)/\(e'=0->e=0)
attribute [local irreducible] Re R6 R5 R7 R4 Tu R9 R8 Qg R3
section
variable{N:List G8} {nd:Int}
def ACm(hN:N.length<=60)(vN:∀n∈N,n.WF)(hNt:A8 N<=20000){f s1 tk tl i m HI:Int}{nm:BA}{G9:List Hh}(hf:f=13\/f=14\/f=18\/f=19){K:List (Int×Int)}(hK:K.length<=100000)(h18:f=18->0<K.length)(h19:f=19->K.length=2){r0:Int}(hr0:0<=r0)(ATz:Qb N nm nd r0)(e a:Int):
  CF N 113 [.agg (Hh.mk f s1 nm tk tl i m G9 HI).Gy,.HC (K.map JL)] e a λr e' a'=>QTy e r e':=by
 obtain⟨rn,hrn,T9⟩:=tG N hN nm N.length;obtain⟨g0,g1⟩:=ATz.all hr0 T9;have HV:=Te g0 g1;have jL:=vN (N[rn.toNat]' AA) (Bl _);have Xl:=ZN (l:=N) (q:=rn.toNat) AA;generalize N[rn.toNat]' AA=n at HV jL Xl;simp only[G8.wt]at Xl;refine AIv 0 rfl _ _ _ ?_;unfold ARm;refine Gu AeR ?_;simp only[Hh.Gy];refine zv ?_;rw[BX];refine AYi hrn ?_;refine HA (HU g0 HV (G8.HJ _)) ?_;refine HA AfA ?_;rw[G8.ZV];refine zv ?_;refine⟨zc,?_⟩;refine zv ?_;have key:=λ(s:St) (h:di N e a [I f,I s1,.HK nm,I tk,I tl,I i,I m,.HC (A4 G9),I HI] n s) (hb:s.heap 4=some (.Hm 0 0))=>AJf (f:=f) (HI:=HI) (Q:=λr c=>∃e' a',c=[ck N e' a']/\QTy e r e') rfl rfl hf hK h18 h19 AA AA jL.Je.all jL.Ic.all (λe' a' T h1 h2 h3=>⟨e',a',rfl,T,rfl,h1,h2,h3⟩) h hb;cases h13:(f==13)
 .rw[h13,Dj]at key;refine zv ?_;cases h14:(f==14)
  .rw[h14]at key;exact Agd
  .rw[h14]at key;exact Agd
 .rw[h13,Fc]at key;refine ct ?_;exact Agd
end
end
section
open Go.Proofs
structure ox (N:List G8) (e a:Int) (xr:List PV) (bt:Nat) (t:Int×Int) (s:St):Prop where
 h0:s.heap 0=some (.box (ck N e a))
 h1:s.heap 1=some (.box xr)
 ht:s.heap bt=some (.box (JL t))
 lt:1<bt/\bt<s.next
def ox.ty{N:List G8}{e a:Int}{xr:LP}{bt:Nat}{t:Int×Int}{s:St}(h:ox N e a xr bt t s)(u:Int×Int):ox N e a xr bt u (s.set bt (.box (JL u))):=
 have h1:=h.lt
 ⟨(Ar AA).trans h.h0,(Ar AA).trans h.h1,Ay,h.lt⟩
attribute [local irreducible] Mo S7 S8 S9 TB TC TD TE TF Um TG Ri Rj Qn TA eV
section
variable{N:List G8} {e a:Int} {HI:Int} {Q:PV->LLP->Prop} {xr:LP} {bt bk:Nat} {t:Int×Int} {s:St} {K:List (Int×Int)} {bad:Int}
def SE(Rp:xr[8]?=some (I HI))(hQ:Sx N e Q)(ht:Sb t)(h:ox N e a xr bt t s):Mo 0 1 Q (.G5 0 0) (.G5 1 0) (I bad) (.G5 bt 0) s:=by
 have Mt:=h.h0;have mU:=h.h1;have htt:=h.ht;have H5:=h.lt;unfold Mo;refine zv ?_;refine AWI (λhb=>?_) ?_
 .exact Akj
 .refine zv ?_;refine HB rfl rfl AdX (hQ _ _ [t] AD (by simpa using ht) id)
def yT(Rp:xr[8]?=some (I HI))(hQ:Sx N e Q)(hK:0<K.length)(RG:∀t∈K,Sb t)(h:ox N e a xr bt t s):S7 0 1 Q (.G5 0 0) (.G5 1 0) (.H6 bk (K.map JL)) (I bad) (.G5 bt 0) s:=by have HV:=Jm (l:=K) (i:=0) AA AA;have Ld:=RG (K[(0:Int).toNat]' AB) (Bl _);generalize K[(0:Int).toNat]' AB=u at HV Ld;have htt:=h.ht;unfold S7;exact AgZ
def AFU(Rp:xr[8]?=some (I HI))(hQ:Sx N e Q)(hK:0<K.length)(RG:∀t∈K,Sb t)(h:ox N e a xr bt t s):TB 0 1 Q (.G5 0 0) (.G5 1 0) (.H6 bk (K.map JL)) (I bad) (.G5 bt 0) s:=by have HV:=Jm (l:=K) (i:=0) AA AA;have Ld:=RG (K[(0:Int).toNat]' AB) (Bl _);generalize K[(0:Int).toNat]' AB=u at HV Ld;have htt:=h.ht;unfold TB;exact AgZ
def AFV(Rp:xr[8]?=some (I HI))(hQ:Sx N e Q)(hK:0<K.length)(RG:∀t∈K,Sb t)(h:ox N e a xr bt t s):TC 0 1 Q (.G5 0 0) (.G5 1 0) (.H6 bk (K.map JL)) (I bad) (.G5 bt 0) s:=by have HV:=Jm (l:=K) (i:=0) AA AA;have Ld:=RG (K[(0:Int).toNat]' AB) (Bl _);generalize K[(0:Int).toNat]' AB=u at HV Ld;have htt:=h.ht;unfold TC;exact AgZ
def yV(Rp:xr[8]?=some (I HI))(hQ:Sx N e Q)(hK:0<K.length)(RG:∀t∈K,Sb t)(h:ox N e a xr bt t s):TD 0 1 Q (.G5 0 0) (.G5 1 0) (.H6 bk (K.map JL)) (I bad) (.G5 bt 0) s:=by have HV:=Jm (l:=K) (i:=0) AA AA;have Ld:=RG (K[(0:Int).toNat]' AB) (Bl _);generalize K[(0:Int).toNat]' AB=u at HV Ld;have htt:=h.ht;unfold TD;exact AgZ
def yU(Rp:xr[8]?=some (I HI))(hQ:Sx N e Q)(hK:1<K.length)(RG:∀t∈K,Sb t)(h:ox N e a xr bt t s):S9 0 1 Q (.G5 0 0) (.G5 1 0) (.H6 bk (K.map JL)) (I bad) (.G5 bt 0) s:=by have HV:=Jm (l:=K) (i:=1) AA AA;have Ld:=RG (K[(1:Int).toNat]' AB) (Bl _);generalize K[(1:Int).toNat]' AB=u at HV Ld;have htt:=h.ht;unfold S9;exact AgZ
def rZ(Rp:xr[8]?=some (I HI))(hQ:Sx N e Q){kk:Int}(hk:0<=kk/\kk<=9)(h:ox N e a xr bt t s):S8 0 1 Q (.G5 0 0) (.G5 1 0) (I bad) (.G5 bt 0) (I kk) s:=by have htt:=h.ht;unfold S8;refine zv ?_;exact SE (t:=(kk,t.2)) Rp hQ hk (h.ty (kk,t.2))
def AFW{tk tl:Int}(hx3:Yk 2 xr 3=some (.agg (JL (tk,tl))))(Rp:xr[8]?=some (I HI))(hQ:Sx N e Q)(hk:0<=tk/\tk<=9)(h:ox N e a xr bt t s):TE 0 1 Q (.G5 0 0) (.G5 1 0) (I bad) (.G5 bt 0) s:=by have htt:=h.ht;have mU:=h.h1;unfold TE;refine zv ?_;refine pQ_v (Ph zh hx3) ?_;exact SE (t:=(tk,tl)) Rp hQ hk (h.ty (tk,tl))
def ra(Rp:xr[8]?=some (I HI))(hQ:Sx N e Q)(h:ox N e a xr bt t s):TF 0 1 Q (.G5 0 0) (.G5 1 0) (I bad) (.G5 bt 0) s:=by have htt:=h.ht;unfold TF;refine AbZ R2 ?_;exact SE (t:=(1,0)) Rp hQ ⟨AA,AA⟩ (h.ty (1,0))
def yW(Rp:xr[8]?=some (I HI))(hQ:Sx N e Q)(hK:0<K.length)(RG:∀t∈K,Sb t)(h:ox N e a xr bt t s):Ri 0 1 Q (.G5 0 0) (.G5 1 0) (.H6 bk (K.map JL)) (I bad) (.G5 bt 0) s:=by have HV:=Jm (l:=K) (i:=0) AA AA;have Ld:=RG (K[(0:Int).toNat]' AB) (Bl _);generalize K[(0:Int).toNat]' AB=u at HV Ld;have htt:=h.ht;unfold Ri;refine pQ_v AeF ?_;exact SE (t:=(u.1,t.2)) Rp hQ Ld (h.ty (u.1,t.2))
def re{i:Int}(hx5:xr[5]?=some (I i))(Rp:xr[8]?=some (I HI))(hQ:Sx N e Q)(hK:0<K.length)(RG:∀t∈K,Sb t)(h:ox N e a xr bt t s):Rj 0 1 Q (.G5 0 0) (.G5 1 0) (.H6 bk (K.map JL)) (I bad) (.G5 bt 0) s:=by have HV:=Jm (l:=K) (i:=0) AA AA;have Ld:=RG (K[(0:Int).toNat]' AB) (Bl _);generalize K[(0:Int).toNat]' AB=u at HV Ld;have htt:=h.ht;have mU:=h.h1;have H5:=h.lt;unfold Rj;refine Aba AeF ?_;refine Aba (G2 zh hx5) ?_;refine⟨?_,SE (t:=(u.1,i)) Rp hQ Ld (h.ty (u.1,i))⟩;simp only[Hz,dN,OC];simp[Ih,I6,Jv];exactλ_=>by omega
def AOH(Rp:xr[8]?=some (I HI))(hQ:Sx N e Q)(ht:Sb t)(h:ox N e a xr bt t s):Um 0 1 Q (.G5 0 0) (.G5 1 0) (.H6 bk (K.map JL)) (I bad) (.G5 bt 0) s:=by
 unfold Um;refine zv ?_;cases hb:(bad==0)
 .refine zv ?_;exact SE Rp hQ ht h
 .refine zv ?_;exact Gw (λ_=>SE Rp hQ ht h) λ_=>SE Rp hQ ht h
def ALS(Rp:xr[8]?=some (I HI))(hQ:Sx N e Q)(ht:Sb t)(hK:0<K.length)(hK2:K.length<=100000):
  ∀c:Nat,∃k,∀(j bad:Int) (s:St),0<=j->j<=K.length->K.length-j<=c->ox N e a xr bt t s->
   Wi 0 1 Q k (.G5 0 0) (.G5 1 0) (.H6 bk (K.map JL)) (I bad) (.G5 bt 0) (I j) s:=by
 have done:∀(j bad:Int) (s:St) (k:Nat),0<=j->j=K.length->ox N e a xr bt t s->
   Wi 0 1 Q (k+1) (.G5 0 0) (.G5 1 0) (.H6 bk (K.map JL)) (I bad) (.G5 bt 0) (I j) s:=by
  intro j bad s k h0 hj h;show Yc _ _ _ _ _ _ _ _ _ _ _;unfold Yc;refine zv ?_;refine Gw (λh9=>?_) λ_=>AOH Rp hQ ht h;exact AfT
 intro c
 induction c with
 |zero=>exact⟨1,λj bad s h0 h1 hc h=>done j bad s 0 h0 AA h⟩
 |succ c ih=>
  obtain⟨k,ih⟩:=ih;refine⟨k+1,λj bad s h0 h1 hc h=>?_⟩;by_cases H5:j<K.length
  case neg=>exact done j bad s k h0 AA h
  have OA:=Abg j;have Ss:=Jm (l:=K) h0 AA;have Kl:=Jm (l:=K) (i:=0) AA AA;generalize K[j.toNat]' AA=u at Ss;generalize K[(0:Int).toNat]' AB=t0 at Kl
  have next:∀bad,TG 0 1 Q (Wi 0 1 Q k) (.G5 0 0) (.G5 1 0) (.H6 bk (K.map JL)) (I bad) (.G5 bt 0) (I j) s:=by
   intro bad;unfold TG;exact AkG
  show Yc _ _ _ _ _ _ _ _ _ _ _;unfold Yc;refine zv ?_;refine AWH ?_ λh9=>?_
  case refine_2=>have:=Zy h9;rw[BX]at this;omega
  refine Aba (Ju h0 Ss rfl) ?_;refine Aba Adq ?_;refine HA (PW (t:=u) (u:=t0)) ?_;cases TM:jh u t0
  case true=>
   exact Ah5
  refine zv ?_;refine Aag (Ju h0 Ss rfl) ?_;exact⟨zc,Gw (λ_=>next _) λ_=>next _⟩
end
end
section
open Go.Proofs
def ACV:Prop:=∀op kd:Int,(op=1\/op=2)->0<=kd/\kd<=9->∃(r:Int) (b:Bool),PC BW 111 [I op,I kd,I 0] [] (.tuple [I r,.bool b]) []
def ot:Prop:=∀op kd:Int,3<=op/\op<=19->0<=kd/\kd<=9->∃(r k:Int) (b:Bool),PC BW 112 [I op,I kd,I 0,I 0] [] (.tuple [I r,I k,.bool b]) []/\0<=k/\k<=9
@[reducible]def Rb(f s1:Int)(nm:BA)(tk tl i m:Int)(G9:List Hh)(HI:Int):LP:=[I f,I s1,.HK nm,I tk,I tl,I i,I m,.HC (A4 G9),I HI]
attribute [local irreducible] Mo S7 S8 S9 TB TC TD TE TF Um TG Ri Rj Qn TA eV
section
variable{N:List G8} {nd:Int} {V:List HM} {e a:Int} {f s1 tk tl i m HI:Int} {nm:BA} {G9:List Hh} {e0:Int} {Q:PV->LLP->Prop} {bt bk:Nat} {t:Int×Int} {s:St} {K:List (Int×Int)}
def AFe(hN:N.length<=60)(vN:∀n∈N,n.WF)(hNt:A8 N<=20000)(hK:K.length=G9.length)(Sr:qw f G9.length)(RG:∀t∈K,Sb t)(ht:Sb t)
  (fI:MF f=true->∃r,0<=r/\Qb N nm nd r)(h18:f=14\/f=15\/f=18->0<G9.length)(hQ:∀r e' a',QTy e r e'->Q r [ck N e' a'])
  (h:ox N e a (Rb f s1 nm tk tl i m G9 HI) bt t s):Qn 0 1 Q (.G5 0 0) (.G5 1 0) (.H6 bk (K.map JL)) (I 0) (.G5 bt 0) (I f) (.bool (MF f)) s:=by
 have Xk:Sx N e Q:=λe' a' T h1 h2 h3=>hQ _ _ _ ⟨T,rfl,h1,h2,h3⟩;have Mt:=h.h0;have mU:=h.h1;have htt:=h.ht;have H5:=h.lt;unfold Qn;cases hc:MF f
 case true=>
  obtain⟨r0,hr0,T9⟩:=fI hc;have hf:f=13\/f=14\/f=18\/f=19:=by simp[MF]at hc;omega
  obtain⟨r,e1,a1,I5,hq⟩:=(ACm (K:=K) (s1:=s1) (tk:=tk) (tl:=tl) (i:=i) (m:=m) (G9:=G9) (HI:=HI) hN vN hNt hf AcI (λh=>by have:=h18 AA;omega) (λh=>by have:=Sr.2.1 AA;omega) hr0 T9 e a).pc;refine ct ?_;refine zv ?_;refine Gz I5 (Lh (x:=.mk f s1 nm tk tl i m G9 HI) rfl) rfl AdX rfl ?_;obtain⟨T,rfl,h1,h2,h3⟩:=hq;refine zv ?_;exact HB rfl rfl AdX (hQ _ _ _ ⟨T,rfl,h1,h2,h3⟩)
 case false=>
  refine cf ?_;refine zv ?_;cases h15:(f==15)
  case true=>
   have hk0:=h18 (by simp at h15;omega);have Kl:=Jm (l:=K) (i:=0) AA AA;have Ld:=RG (K[(0:Int).toNat]' AB) (Bl _);generalize K[(0:Int).toNat]' AB=t0 at Kl Ld;refine zv ?_;refine pQ_v Adq ?_;obtain⟨k,hk⟩:=ALS (N:=N) (e:=e) (a:=a) (xr:=Rb f s1 nm tk tl i m G9 HI) (bt:=bt) (t:=(t0.1,(K.length:Int))) (bk:=bk) (Q:=Q) (K:=K) rfl Xk Ld AA AcI K.length;refine⟨k,hk 0 0 _ AA AA AA ?_⟩;rw[BX];exact h.ty (t0.1,(K.length:Int))
  refine zv ?_;cases h16:(f==16)
  case true=>
   have Mv:=Sr.1 (by simp at h16;omega);have Kl:=Jm (l:=K) (i:=0) AA AA;generalize K[(0:Int).toNat]' AB=t0 at Kl;refine zv ?_;refine pQ_v Adq ?_;cases hg:(t0.2==0)
   .refine zv ?_;refine Aba Adq ?_;refine⟨zc,?_⟩;exact Gw (λ_=>yW rfl Xk AA RG h) (λ_=>yW rfl Xk AA RG h)
   .refine zv ?_;exact yW rfl Xk AA RG h
  refine zv ?_;cases h17:(f==17)
  case true=>
   have Mv:=Sr.1 (by simp at h17;omega);have Kl:=Jm (l:=K) (i:=0) AA AA;generalize K[(0:Int).toNat]' AB=t0 at Kl;refine zv ?_;refine pQ_v Adq ?_;cases hg:decide (t0.2>0)
   .refine zv ?_;cases T7:decide (i<1)
    .refine zv ?_;exact Gw (λ_=>re rfl rfl Xk AA RG h) (λ_=>re rfl rfl Xk AA RG h)
    .refine zv ?_;exact re rfl rfl Xk AA RG h
   .refine zv ?_;exact re rfl rfl Xk AA RG h
  refine zv ?_;exact SE rfl Xk ht h
end
end
section
open Go.Proofs
attribute [local irreducible] Mo S7 S8 S9 TB TC TD TE TF Um TG Ri Rj Qn TA eV
section
variable{N:List G8} {nd:Int} {V:List HM} {e a:Int} {f s1 tk tl i m HI:Int} {nm:BA} {G9:List Hh} {e0:Int} {Q:PV->LLP->Prop} {bt bk:Nat} {t:Int×Int} {s:St} {K:List (Int×Int)}
def AFd(hN:N.length<=60)(vN:∀n∈N,n.WF)(hNt:A8 N<=20000)(hV:V.length<=100000)(hK:K.length=G9.length)(Sr:qw f G9.length)(RG:∀t∈K,Sb t)(ht:Sb t)(tz:0<=tk/\tk<=9)
  (Vk:f=2\/f=9\/f=10->Mf (V.map Ap) nm=true)(fI:MF f=true->∃r,0<=r/\Qb N nm nd r)(h18:f=14\/f=15\/f=18->0<G9.length)(hQ:∀r e' a',QTy e r e'->Q r [ck N e' a'])
  (h:ox N e a (Rb f s1 nm tk tl i m G9 HI) bt t s):TA 0 1 Q (.G5 0 0) (.HC (V.map Ao)) (.G5 1 0) (.H6 bk (K.map JL)) (I 0) (.G5 bt 0) (I f) (.bool (f==7||f==8)) s:=by
 have Xk:Sx N e Q:=λe' a' T h1 h2 h3=>hQ _ _ _ ⟨T,rfl,h1,h2,h3⟩;have Mt:=h.h0;have mU:=h.h1;have htt:=h.ht;have H5:=h.lt;obtain⟨rv,hrv,oX⟩:=eg V hV nm;unfold TA;cases hc:(f==7||f==8)
 case true=>
  have Jr:=Sr.2.1 (by simp at hc;omega);have Kl:=Jm (l:=K) (i:=0) AA AA;have PO:=Jm (l:=K) (i:=1) AA AA;generalize K[(0:Int).toNat]' AB=t0 at Kl;generalize K[(1:Int).toNat]' AB=t1 at PO;refine ct ?_;refine Aba Adq ?_;refine Aba Ae1 ?_;refine HA (PW (t:=t0) (u:=t1)) ?_;refine⟨zc,?_⟩;exact Gw (λ_=>AFU rfl Xk AA RG h) (λ_=>AFU rfl Xk AA RG h)
 refine cf ?_;refine zv ?_;cases h9:(f==9)
 case true=>
  have Mv:=Sr.1 (by simp at h9;omega);obtain⟨g0,g1⟩:=oX.Mf (Vk (by simp at h9;omega));have HV:=JS g0 g1;generalize V[rv.toNat]' AA=v at HV;refine zv ?_;refine AYi hrv ?_;refine Aba (HU g0 HV rfl) ?_;refine AYi R2 ?_;refine HA (PW (t:=v.ty) (u:=(1,0))) ?_;refine⟨zc,?_⟩;exact Gw (λ_=>AFV rfl Xk AA RG h) (λ_=>AFV rfl Xk AA RG h)
 refine zv ?_;cases jD:(f==10)
 case true=>
  have Jr:=Sr.2.1 (by simp at jD;omega);have Kl:=Jm (l:=K) (i:=0) AA AA;have PO:=Jm (l:=K) (i:=1) AA AA;generalize K[(0:Int).toNat]' AB=t0 at Kl;generalize K[(1:Int).toNat]' AB=t1 at PO;obtain⟨g0,g1⟩:=oX.Mf (Vk (by simp at jD;omega));have HV:=JS g0 g1;generalize V[rv.toNat]' AA=v at HV;refine zv ?_;refine AYi hrv ?_;refine Aba (HU g0 HV rfl) ?_;refine AYi R2 ?_;refine HA (PW (t:=v.ty) (u:=(1,0))) ?_;cases hg:jh v.ty (1,0)
  case true=>
   refine zv ?_;refine⟨zc,?_⟩;exact ct (yV rfl Xk AA RG h)
  refine zv ?_;refine Aag Adq ?_;refine Aag Ae1 ?_;refine Aag (PW (t:=t0) (u:=t1)) ?_;refine⟨zc,?_⟩;exact Gw (λ_=>yV rfl Xk AA RG h) (λ_=>yV rfl Xk AA RG h)
 refine zv ?_;cases h11':(f==11)
 case true=>
  have Mv:=Sr.1 (by simp at h11';omega);have Kl:=Jm (l:=K) (i:=0) AA AA;generalize K[(0:Int).toNat]' AB=t0 at Kl;refine zv ?_;refine pQ_v Adq ?_;exact Gw (λ_=>AFW (tk:=tk) (tl:=tl) rfl rfl Xk tz h) λ_=>AFW (tk:=tk) (tl:=tl) rfl rfl Xk tz h
 refine zv ?_;cases h12:(f==12)
 case true=>
  refine zv ?_;cases TM:decide (i<1)
  case true=>
   refine zv ?_;exact ra rfl Xk h
  refine zv ?_;cases T7:decide (i>64)
  case true=>
   refine zv ?_;exact ra rfl Xk h
  refine zv ?_;exact Gw (λ_=>ra rfl Xk h) λ_=>ra rfl Xk h
 have key:=AFe (nd:=nd) (bk:=bk) hN vN hNt hK Sr RG ht fI h18 hQ h;refine zv ?_;cases h13:(f==13)
 case true=>
  rw[show MF f=true by simp[MF,h13]]at key;exact ct key
 refine zv ?_;cases h14:(f==14)
 case true=>
  rw[show MF f=true by simp[MF,h14]]at key;exact ct key
 refine zv ?_;cases h18':(f==18)
 case true=>
  rw[show MF f=true by simp[MF,h18']]at key;exact ct key
 refine zv ?_;rw[show MF f=(f==19) by simp[MF,h13,h14,h18']]at key;exact key
end
end
section
open Go.Proofs
attribute [local irreducible] Mo S7 S8 S9 TB TC TD TE TF Um TG Ri Rj Qn TA eV
section
variable{N:List G8} {nd:Int} {V:List HM} {e a:Int} {f s1 tk tl i m HI:Int} {nm:BA} {G9:List Hh} {e0:Int} {Q:PV->LLP->Prop} {bt bk:Nat} {t:Int×Int} {s:St} {K:List (Int×Int)}
def AON(hU:ACV)(hB:ot)(hN:N.length<=60)(vN:∀n∈N,n.WF)(hNt:A8 N<=20000)(hV:V.length<=100000)(hVw:∀v∈V,v.WF)(hK:e=0->K.length=G9.length)(Sr:qw f G9.length)(hs:f=3->s1=1\/s1=2)(vj:f=4->3<=s1/\s1<=19)(RG:∀t∈K,Sb t)(tz:0<=tk/\tk<=9)
  (Vk:f=2\/f=9\/f=10->Mf (V.map Ap) nm=true)(fI:MF f=true->∃r,0<=r/\Qb N nm nd r)(h18:f=14\/f=15\/f=18->0<G9.length)(hQ:∀r e' a',QTy e r e'->Q r [ck N e' a'])
  (h0:s.heap 0=some (.box (ck N e a)))(h1:s.heap 1=some (.box (Rb f s1 nm tk tl i m G9 HI)))(H5:3<s.next):eV 0 1 Q (.G5 0 0) (.HC (V.map Ao)) (.G5 1 0) (.H6 bk (K.map JL)) s:=by
 have Xk:Sx N e Q:=λe' a' T h1 h2 h3=>hQ _ _ _ ⟨T,rfl,h1,h2,h3⟩;obtain⟨rv,hrv,oX⟩:=eg V hV nm;unfold eV;refine zv ?_;refine Gw (λhb=>?_) λhb=>?_
 .have he:e≠0:=by simpa using hb
  refine zv ?_;exact HB rfl rfl AdX (hQ _ _ _ ⟨[],rfl,AD,AD,id⟩)
 have he:e=0:=by simpa using hb
 have hK:=hK he;refine zv ?_
 have h:ox N e a (Rb f s1 nm tk tl i m G9 HI) s.next (0,0) ((s.new (BD [I 0,I 0])).set s.next (BD [I 0,I 0])):=
  ⟨zh,zh,zh,by simp only[Hj,Hz];omega⟩
 generalize(s.new (BD [I 0,I 0])).set s.next (BD [I 0,I 0])=s' at h;have hbt:=h.lt;generalize s.next=bt at h hbt;have Mt:=h.h0;have mU:=h.h1;have htt:=h.ht;refine zv ?_;cases g1:(f==1)
 case true=>
  refine zv ?_;refine pQ_v (Ph (v:=.agg (JL (tk,tl))) zh rfl) ?_;exact SE (t:=(tk,tl)) rfl Xk tz (h.ty (tk,tl))
 refine zv ?_;cases g2:(f==2)
 case true=>
  obtain⟨q0,q1⟩:=oX.Mf (Vk (by simp at g2;omega));have HV:=JS q0 q1;have hvw:=hVw (V[rv.toNat]' AA) (Bl _);generalize V[rv.toNat]' AA=v at HV hvw;refine zv ?_;refine AbY hrv ?_;refine pQ_v (HU q0 HV rfl) ?_;exact SE (t:=v.ty) rfl Xk hvw.tk (h.ty v.ty)
 refine zv ?_;cases g3:(f==3)
 case true=>
  have Mv:=Sr.1 (by simp at g3;omega);have Kl:=Jm (l:=K) (i:=0) AA AA;have Ld:=RG (K[(0:Int).toNat]' AB) (Bl _);generalize K[(0:Int).toNat]' AB=t0 at Kl Ld;obtain⟨r,b,I5⟩:=hU s1 t0.1 (hs (by simpa using g3)) Ld;refine zv ?_;refine Aba Adq ?_;refine AYj I5 ?_;refine⟨zc,?_⟩;refine zv ?_;cases b
  .refine zv ?_;exact yT rfl Xk AA RG h
  .refine zv ?_;refine Aag Adq ?_;exact Gw (λ_=>yT rfl Xk AA RG h) (λ_=>yT rfl Xk AA RG h)
 refine zv ?_;cases g4:(f==4)
 case true=>
  have Jr:=Sr.2.1 (by simp at g4;omega);have Kl:=Jm (l:=K) (i:=0) AA AA;have PO:=Jm (l:=K) (i:=1) AA AA;have Ld:=RG (K[(0:Int).toNat]' AB) (Bl _);generalize K[(0:Int).toNat]' AB=t0 at Kl Ld;generalize K[(1:Int).toNat]' AB=t1 at PO;obtain⟨r,kk,b,I5,hkk⟩:=hB s1 t0.1 (vj (by simpa using g4)) Ld;refine zv ?_;refine Aba Adq ?_;refine AYj I5 ?_;refine⟨zc,?_⟩;refine zv ?_;cases b
  .exact Aji
  .refine zv ?_;refine Aag Adq ?_;cases g5:decide (t0.2>0)
   .refine zv ?_;refine Aag Ae1 ?_;refine Aag Adq ?_;refine Aag (PW (t:=t1) (u:=t0)) ?_;refine⟨zc,?_⟩;exact Gw (λ_=>rZ rfl Xk hkk h) λ_=>rZ rfl Xk hkk h
   .exact Aji
 refine zv ?_;cases g5:(f==5)
 case true=>
  have bP:=Sr.2.2.1 (by simp at g5;omega);have Kl:=Jm (l:=K) (i:=0) AA AA;have PO:=Jm (l:=K) (i:=1) AA AA;have M9:=Jm (l:=K) (i:=2) AA AA;generalize K[(0:Int).toNat]' AB=t0 at Kl;generalize K[(1:Int).toNat]' AB=t1 at PO;generalize K[(2:Int).toNat]' AB=t2 at M9;refine zv ?_;refine Aba Adq ?_;refine AYi R2 ?_;refine HA (PW (t:=t0) (u:=(1,0))) ?_;cases g6:jh t0 (1,0)
  .refine zv ?_;refine Aag Ae1 ?_;refine Aag (Ju AA M9 rfl) ?_;refine Aag (PW (t:=t1) (u:=t2)) ?_;refine⟨zc,?_⟩;exact Gw (λ_=>yU rfl Xk AA RG h) (λ_=>yU rfl Xk AA RG h)
  .refine zv ?_;refine⟨zc,?_⟩;exact ct (yU rfl Xk AA RG h)
 refine zv ?_;cases g6:(f==6)
 case true=>
  have Mv:=Sr.1 (by simp at g6;omega);have Kl:=Jm (l:=K) (i:=0) AA AA;have Ld:=RG (K[(0:Int).toNat]' AB) (Bl _);generalize K[(0:Int).toNat]' AB=t0 at Kl Ld;refine zv ?_;refine pQ_v Adq ?_;exact SE rfl Xk Ld (h.ty t0)
 have key:=AFd (nd:=nd) (bk:=bk) hN vN hNt hV hK Sr RG (t:=(0,0)) ⟨AA,AA⟩ tz Vk fI h18 hQ h;refine zv ?_;cases g7:(f==7)
 case true=>
  rw[g7,Fc]at key;exact ct key
 refine zv ?_;rw[g7,Dj]at key;exact key
end
end
section
open Go.Proofs
def ft(N:List G8)(V:List HM)(x:Hh):Prop:=∀e a,CF N 92 [.agg x.Gy,.HC (V.map Ao)] e a λr e' a'=>QTy e r e'
def AIb(N:List G8)(V:List HM)(x:Hh):Prop:=∀e a,CF N 110 [.agg x.Gy,.HC (V.map Ao)] e a λr e' a'=>∃t,r=.agg (JL t)/\Sb t/\(e'=0->e=0)
def Hh.r8(x:Hh):∃HI,x.Gy[8]?=some (I HI):=by rw[Hh.JP];exact⟨_,rfl⟩
structure ART (N:List G8) (e a:Int) (xr:List PV) (T:List (Int×Int)) (eo:Nat) (s:St):Prop where
 h0:s.heap 0=some (.box (ck N e a))
 h1:s.heap 1=some (.box xr)
 h3:s.heap 3=some (.Hm (T.map JL).length eo)
 ho:T.map JL=[]\/eo=2
 lt:3<s.next
attribute [local irreducible] Zk eV
section
variable{N:List G8} {nd:Int} {V:List HM} {e a:Int} {Q:PV->LLP->Prop}
def zr{x:Hh}(hT:ft N V x):AIb N V x:=by
 intro e a;obtain⟨r,e1,a1,I5,T,rfl,hTl,hTy,he⟩:=(hT e a).pc;obtain⟨HI,hr8⟩:=x.r8;have hsc:=x.fX;have hxl:=x.HJ;refine AIu 0 rfl _ _ _ ?_;unfold ARl;refine pQ_v AeR ?_;refine Gu (Ii zh hxl) ?_;refine AVt I5 (Lh rfl) rfl AdX rfl ?_
 have fin:∀(e2 a2:Int) (s:St),s.heap 0=some (.box (ck N e2 a2))->s.heap 2=some (.box [I 0,I 0])->(e2=0->e=0/\T.length=1)->Zk 0 1 (λr c=>∃e' a',c=[ck N e' a']/\∃t,r=.agg (JL t)/\Sb t/\(e'=0->e=0)) (.G5 0 0) (.G5 2 0) (.HC (T.map JL)) s:=by
  intro e2 a2 s h0 h2 Ld;unfold Zk;refine zv ?_;refine Gw (λhb=>?_) λhb=>?_
  .have MK:e2≠0:=by simpa using hb
   refine zv ?_;exact HB AdY rfl AdX ⟨_,_,rfl,(0,0),rfl,⟨AA,AA⟩,λh=>Zq h MK⟩
  .have MK:e2=0:=by simpa using hb
   obtain⟨q1,q2⟩:=Ld MK;have HV:=Jm (l:=T) (i:=0) AA AA;have Ld:=hTy (T[(0:Int).toNat]' AB) (Bl _);generalize T[(0:Int).toNat]' AB=t at HV Ld;refine pQ_v (HU AA HV rfl) ?_;exact HB AdY rfl AdX ⟨_,_,rfl,t,rfl,Ld,λh=>q1⟩
 cases hg:(e1==0)
 case false=>
  refine zv ?_;exact fin e1 a1 _ zh zh λh=>by simp[h]at hg
 have TM:e1=0:=by simpa using hg
 refine zv ?_;refine AWH ?_ λhb=>?_
 .obtain⟨r,e2,a2,Jh,rfl,h2,_⟩:=(JQ (N:=N) (e:=e1) (a:=a1) HI 23 AA).pc;refine zv ?_;refine Gu (G2 zh hr8) ?_;refine Gz Jh rfl rfl AdX rfl ?_;exact fin e2 a2 _ zh zh λh=>Zq h h2
 .exact fin e1 a1 _ zh zh λ_=>⟨he TM,Int.ofNat.inj (show(T.length:Int)=1 by simpa using hb)⟩
def ff(hU:ACV)(hB:ot)(hN:N.length<=60)(vN:∀n∈N,n.WF)(hNt:A8 N<=20000)(hV:V.length<=100000)(hVw:∀v∈V,v.WF){x:Hh}(hw:x.WF):Qc N (V.map Ap) nd x->ft N V x:=by
 induction hw with
 |mk f s1 nm tk tl i m G9 HI Sr hf hs vj ht hk ih=>
 intro fI e a;obtain⟨Vk,Vf,h18,vU⟩:=fI.pw;have fk:G9.length<=100000:=Sr.2.2.2.2;have mc:(A4 G9).length=G9.length:=by rw[Hh.Jc,BX]
 have loop:∀c:Nat,∀(e1 a1:Int) (j:Int) (T:List (Int×Int)),0<=j->j<=G9.length->G9.length-j<=c->(T.length:Int)=j->(∀t∈T,Sb t)->(e1=0->e=0)->∃k,∀(eo:Nat) (s:St),ART N e1 a1 (Rb f s1 nm tk tl i m G9 HI) T eo s->
   eW 0 1 (λr c=>∃e' a',c=[ck N e' a']/\QTy e r e') k (.G5 0 0) (.HC (V.map Ao)) (.G5 1 0) (.H6 3 (T.map JL)) (I j) s:=by
  have done:∀(e1 a1:Int) (j:Int) (T:List (Int×Int)),0<=j->¬(j<G9.length/\e1=0)->j<=G9.length->(T.length:Int)=j->(∀t∈T,Sb t)->(e1=0->e=0)->∃k,∀(eo:Nat) (s:St),ART N e1 a1 (Rb f s1 nm tk tl i m G9 HI) T eo s->
    eW 0 1 (λr c=>∃e' a',c=[ck N e' a']/\QTy e r e') k (.G5 0 0) (.HC (V.map Ao)) (.G5 1 0) (.H6 3 (T.map JL)) (I j) s:=by
   intro e1 a1 j T h0 JU h1 hT RG he;refine⟨1,λeo s h=>?_⟩;have Mt:=h.h0;have mU:=h.h1;show Yd _ _ _ _ _ _ _ _ _ _;unfold Yd;refine zv ?_;refine JG zh ?_;refine AWI (λh9=>?_) ?_
   .exact Agy
   .exact AON (nd:=nd) hU hB hN vN hNt hV hVw (λh=>by have:¬j<G9.length:=λh2=>JU ⟨h2,h⟩;omega) Sr hs vj RG ht Vk Vf h18 (λr e' a' h=>⟨e',a',rfl,by
     obtain⟨T,q1,q2,q3,q4⟩:=h;exact⟨T,q1,q2,q3,λh=>he (q4 h)⟩⟩) h.h0 h.h1 h.lt
  intro c
  induction c with
  |zero=>exactλe1 a1 j T h0 h1 hc hT RG he=>done e1 a1 j T h0 AA h1 hT RG he
  |succ c kA=>
   intro e1 a1 j T h0 h1 hc hT RG he;by_cases JU:j<G9.length/\e1=0
   case neg=>exact done e1 a1 j T h0 JU h1 hT RG he
   obtain⟨H5,OR⟩:=JU;have OA:=Abg j;have Kk:G9[j.toNat]' AA∈G9:=Bl _;obtain⟨r,e2,a2,I5,t,rfl,UB,ar⟩:=((zr (ih _ Kk (vU _ Kk))) e1 a1).pc
   obtain⟨k,Jr⟩:=kA e2 a2 (j+1) (T++[t]) AA AA AA AB (by
    intro u hu;rcases Bg.1 hu with h|h
    .exact RG u h
    .rw[CS.1 h];exact UB) λh=>he (ar h)
   refine⟨k+1,λeo s h=>?_⟩;have Mt:=h.h0;have mU:=h.h1;have h33:=h.h3;have AF6:=h.lt;show Yd _ _ _ _ _ _ _ _ _ _;unfold Yd;refine zv ?_;refine JG zh ?_;refine AWH ?_ λh9=>?_
   case refine_2=>simp[OR,mc]at h9;omega
   refine zv ?_;refine Gu Adn ?_;refine Gu Aea ?_;refine AVt I5 (Lh rfl) rfl AdX rfl ?_;refine pQ_v (KG rfl rfl (Hl AB AA) (H8 AHy) zh (h.ho.imp (λh=>by rw[h];rfl) λh=>h.symm)) ?_;rw[OA];have M9:T.map JL++[JL t]=(T++[t]).map JL:=by rw[Br];rfl
   have h8:=Jr 2 ((s.set 0 (.box (ck N e2 a2))).set 3 (.Hm ((T.map JL).length+1) 2)) ⟨zh,zh,Abt,.inr rfl,AF6⟩;rw[<- M9]at h8;exact h8
 obtain⟨k,Jr⟩:=loop G9.length e a 0 [] AA AA AA rfl AD id;refine AN2 0 rfl _ _ _ ?_;unfold c92;refine pQ_v AeR ?_;exact⟨k,Jr 0 _ ⟨zh,zh,zh,.inl rfl,by simp[Hj,I4]⟩⟩
end
end
section
open Go.Proofs
attribute [local irreducible] rM gN gU
section
variable{N:List G8} {V:List HM} {Q:PV->LLP->Prop}
def wy{l:List HM}(hl:l.length<=100000)(e a:Int):CF N 55 [.HC (l.map Ao)] e a λr _ _=>r=.tuple []:=by
 have loop:∀c:Nat,∃k,∀(j:Int) (s:St),0<=j->j<=l.length->l.length-j<=c->s.heap 0=some (.box (ck N e a))->
   AAm 0 1 (λr c=>∃e' a',c=[ck N e' a']/\r=.tuple []) k (.G5 0 0) (.HC (l.map Ao)) (I j) s:=by
  intro c
  induction c with
  |zero=>
   refine⟨1,λj s h0 h1 hc h=>?_⟩;show ku _ _ _ _ _ _ _ _;unfold ku;refine zv ?_;refine AWI (λh9=>?_) ?_
   .exact AfT
   .exact AgU
  |succ c ih=>
   obtain⟨k,ih⟩:=ih;refine⟨k+1,λj s h0 h1 hc h=>?_⟩;show ku _ _ _ _ _ _ _ _;unfold ku;refine zv ?_;refine AWI (λh9=>?_) ?_
   .have H5:j<l.length:=by have:=Ot h9;rw[BX]at this;omega
    have OA:=Abg j;have HV:=JS h0 H5;generalize l[j.toNat]' AA=v at HV;refine pQ_v AeM ?_;refine AWG ?_ ?_
    .refine pQ_v AeM ?_;obtain⟨r,e2,a2,Jh,rfl,h2,_⟩:=(JQ (N:=N) (e:=e) (a:=a) v.HI 23 AA).pc;exact Akz
    .refine zv ?_;rw[OA];exact ih _ s AA AA AA h
   .exact AgU
 refine ANe 0 rfl _ _ ?_;unfold c55;obtain⟨k,hk⟩:=loop l.length;exact⟨k,hk 0 _ AA AA AA zh⟩
def iz(hV:V.length<=100000){l:List HM}(hl:l.length<=100000)(hc:∀v∈l,Ry (V.map Ap) v)(RF:∀v∈l,v.HH.length<=17)(e a:Int):CF N 56 [.HC (l.map Ao),.HC (V.map Ao)] e a λr _ _=>r=.tuple []:=by
 have pq:∀{Q:PV->LLP->Prop} (w:PV->PV->PV->F1) (i:Int) (fj:0<=i) (hi:i<l.length) (v:HM) (HV:(l.map Ao)[i.toNat]?=some v.Gy) (II:v.HH.length<=17) (iE:Ry (V.map Ap) v),(∀e a s,s.heap 0=some (.box (ck N e a))->w (.G5 0 0) (.HC (l.map Ao)) (.HC (V.map Ao)) (I (i+1)) s)->
   ∀c:Nat,∃k,∀(j e a:Int) (s:St),0<=j->j<=v.HH.length->v.HH.length-j<=c->s.heap 0=some (.box (ck N e a))->b8 0 1 Q w k (.G5 0 0) (.HC (l.map Ao)) (.HC (V.map Ao)) (I i) (I j) s:=by
  intro Q w i fj hi v HV II iE TN;have dZ:=Abg i
  have done:∀(j e a:Int) (s:St) (k:Nat),0<=j->¬(j<v.HH.length/\e=0)->s.heap 0=some (.box (ck N e a))->b8 0 1 Q w (k+1) (.G5 0 0) (.HC (l.map Ao)) (.HC (V.map Ao)) (I i) (I j) s:=by
   intro j e a s k h0 JU h;show eO _ _ _ _ _ _ _ _ _ _ _;unfold eO;refine pQ_v Adi ?_;refine JG zh ?_;refine AWI (λh9=>?_) ?_
   .exact AfK
   .unfold rM;refine zv ?_;rw[dZ];exact TN e a s h
  intro c
  induction c with
  |zero=>exact⟨1,λj e a s h0 h1 hc h=>done j e a s 0 h0 AA h⟩
  |succ c ih=>
   obtain⟨k,ih⟩:=ih;refine⟨k+1,λj e a s h0 h1 hc h=>?_⟩;by_cases JU:j<v.HH.length/\e=0
   case neg=>exact done j e a s k h0 JU h
   obtain⟨H5,he⟩:=JU;have OA:=Abg j;have Pd:=Zx h0 H5;have Yw:=iE (v.HH[j.toNat]' AA) (Bl _);generalize v.HH[j.toNat]' AA=g at Pd Yw;obtain⟨rv,hrv,oX⟩:=eg V hV g.name;obtain⟨q0,q1⟩:=oX.Mf Yw;have vh:=JS q0 q1;generalize V[rv.toNat]' AA=u at vh
   have next:∀e a s,s.heap 0=some (.box (ck N e a))->gN 0 1 Q w (b8 0 1 Q w k) (.G5 0 0) (.HC (l.map Ao)) (.HC (V.map Ao)) (I i) (I j) s:=by
    intro e a s h;unfold gN;exact Aj6
   show eO _ _ _ _ _ _ _ _ _ _ _;unfold eO;refine pQ_v Adi ?_;refine JG zh ?_;refine AWH ?_ λh9=>?_
   case refine_2=>simp[he]at h9;omega
   refine Aba Adi ?_;refine Aba Ae9 ?_;refine AYi hrv ?_;refine Aba (HU q0 vh rfl) ?_;refine AYi R2 ?_;refine HA (PW (t:=u.ty) (u:=(1,0))) ?_;refine⟨zc,?_⟩;refine AWH ?_ λ_=>next e a _ h;refine pQ_v Adi ?_;obtain⟨r,e2,a2,Jh,rfl,h2,_⟩:=(JQ (N:=N) (e:=e) (a:=a) v.HI 22 AA).pc;exact Ajh
 have wX:∀c:Nat,∃k,∀(i e a:Int) (s:St),0<=i->i<=l.length->l.length-i<=c->s.heap 0=some (.box (ck N e a))->
   bD 0 1 (λr c=>∃e' a',c=[ck N e' a']/\r=.tuple []) k (.G5 0 0) (.HC (l.map Ao)) (.HC (V.map Ao)) (I i) s:=by
  have done:∀(i e a:Int) (s:St) (k:Nat),0<=i->¬(i<l.length/\e=0)->s.heap 0=some (.box (ck N e a))->
    bD 0 1 (λr c=>∃e' a',c=[ck N e' a']/\r=.tuple []) (k+1) (.G5 0 0) (.HC (l.map Ao)) (.HC (V.map Ao)) (I i) s:=by
   intro i e a s k h0 JU h;show ky _ _ _ _ _ _ _ _ _;unfold ky;exact Akp
  intro c
  induction c with
  |zero=>exact⟨1,λi e a s h0 h1 hc h=>done i e a s 0 h0 AA h⟩
  |succ c ih=>
   obtain⟨k,ih⟩:=ih;refine⟨k+1,λi e a s h0 h1 jF h=>?_⟩;by_cases JU:i<l.length/\e=0
   case neg=>exact done i e a s k h0 JU h
   obtain⟨H5,he⟩:=JU;have hm:l[i.toNat]' AA∈l:=Bl _;obtain⟨k2,Jr⟩:=pq (Q:=λr c=>∃e' a',c=[ck N e' a']/\r=.tuple []) (bD 0 1 _ k) i h0 H5 _ (JS h0 H5) (RF _ hm) (hc _ hm) (λe a s h=>ih (i+1) e a s AA AA AA h) (l[i.toNat]' AA).HH.length;show ky _ _ _ _ _ _ _ _ _;unfold ky;exact Agl
 refine ANf 0 rfl _ _ _ ?_;unfold c56;exact AjR
def uo{l:List Hc}(hl:l.length<=100000)(ho:∀t∈l,AIb N V t.cond)(e a:Int):CF N 91 [.HC (l.map Ax),.HC (V.map Ao)] e a λr _ _=>r=.tuple []:=by
 have done:∀(i e a:Int) (k:Nat),0<=i->¬(i<l.length/\e=0)->∀s,Xo N e a s->
   iw 0 1 (λr c=>∃e' a',c=[ck N e' a']/\r=.tuple []) (k+1) (.G5 0 0) (.HC (l.map Ax)) (.HC (V.map Ao)) (I i) s:=by
  intro i e a k h0 JU s h;have Mt:=h.h0;show cE _ _ _ _ _ _ _ _ _;unfold cE;exact Akp
 have loop:∀(c:Nat) (i e a:Int),0<=i->i<=l.length->l.length-i<=c->∃k,∀s,Xo N e a s->
   iw 0 1 (λr c=>∃e' a',c=[ck N e' a']/\r=.tuple []) k (.G5 0 0) (.HC (l.map Ax)) (.HC (V.map Ao)) (I i) s:=by
  intro c
  induction c with
  |zero=>exactλi e a h0 h1 hc=>⟨1,done i e a 0 h0 AA⟩
  |succ c ih=>
   intro i e a h0 h1 hc;by_cases JU:i<l.length/\e=0
   case neg=>exact⟨1,done i e a 0 h0 JU⟩
   obtain⟨H5,he⟩:=JU;have dZ:=Abg i;have HV:=UK h0 H5;have hoo:=ho (l[i.toNat]' AA) (Bl _);generalize l[i.toNat]' AA=t at HV hoo;obtain⟨r,e1,a1,I5,ty,rfl,UB,OR⟩:=(hoo e a).pc;obtain⟨r,e2,a2,Jh,rfl,h2,_⟩:=(JQ (N:=N) (e:=e1) (a:=a1) t.HI 22 AA).pc
   have next:∀(k:Nat) (e1 a1:Int),(∀s,Xo N e1 a1 s->iw 0 1 (λr c=>∃e' a',c=[ck N e' a']/\r=.tuple []) k (.G5 0 0) (.HC (l.map Ax)) (.HC (V.map Ao)) (I (i+1)) s)->∀s,Xo N e1 a1 s->gU 0 1 (λr c=>∃e' a',c=[ck N e' a']/\r=.tuple []) (iw 0 1 (λr c=>∃e' a',c=[ck N e' a']/\r=.tuple []) k) (.G5 0 0) (.HC (l.map Ax)) (.HC (V.map Ao)) (I i) s:=by
    intro k e1 a1 hk s h;unfold gU;refine zv ?_;rw[dZ];exact hk s h
   by_cases hf:e1=0/\jh ty (1,0)=true
   .obtain⟨Nm,OK⟩:=hf;obtain⟨k1,Mv⟩:=ih (i+1) e2 a2 AA AA AA;refine⟨k1+1,λs h=>?_⟩;have Mt:=h.h0;have APF:=h.lt;show cE _ _ _ _ _ _ _ _ _;unfold cE;refine zv ?_;refine JG zh ?_;refine AWH ?_ λh9=>?_
    case refine_2=>simp[he]at h9;omega
    refine pQ_v Adh ?_;refine Gu (OD t.cut) ?_;refine AVt I5 (Lh rfl) rfl AdX rfl ?_;rw[show(e1==0)=true by simpa using Nm];refine OJ (Ii zh rfl) ?_;refine AJ0 ?_;refine AYi R2 ?_;refine OJ (PW (t:=ty) (u:=(1,0))) ?_;rw[OK];refine zv ?_;refine⟨?_,?_⟩
    .exact zc
    refine zv ?_;refine pQ_v Adh ?_;refine Gu (IM t.r11) ?_;refine Gz Jh rfl rfl (Lo (cs:=ck N e1 a1) Aco rfl) rfl ?_;refine next k1 e2 a2 Mv _ ⟨zh,by simp only[Hj,Hz,OG,Hu,NN,Lu];omega⟩
   .obtain⟨k1,Mv⟩:=ih (i+1) e1 a1 AA AA AA;refine⟨k1+1,λs h=>?_⟩;have Mt:=h.h0;have APF:=h.lt;show cE _ _ _ _ _ _ _ _ _;unfold cE;refine zv ?_;refine JG zh ?_;refine AWH ?_ λh9=>?_
    case refine_2=>simp[he]at h9;omega
    refine pQ_v Adh ?_;refine Gu (OD t.cut) ?_;refine AVt I5 (Lh rfl) rfl AdX rfl ?_;cases hg:(e1==0)
    case false=>
     refine zv ?_;refine⟨?_,?_⟩
     .exact zc
     refine zv ?_;exact next k1 e1 a1 Mv _ ⟨(by simp only[OG,NN];exact zh),by simp only[Hj,Hz,OG,NN,Lu];omega⟩
    refine OJ (Ii zh rfl) ?_;refine AJ0 ?_;refine AYi R2 ?_;refine OJ (PW (t:=ty) (u:=(1,0))) ?_
    rw[show jh ty (1,0)=false by
     cases h9:jh ty (1,0)
     .rfl
     .exact Zq ⟨by simpa using hg,h9⟩ hf]
    refine zv ?_;refine⟨?_,?_⟩
    .exact zc
    refine zv ?_;exact next k1 e1 a1 Mv _ ⟨Aco,by simp only[Hj,Hz,OG,NN,Lu];omega⟩
 refine AN1 0 rfl _ _ _ ?_;unfold c91;obtain⟨k,hk⟩:=loop l.length 0 e a AA AA AA;exact⟨k,hk _ ⟨zh,by simp[I4]⟩⟩
end
end
section
open Go.Proofs
structure qp (N:List G8) (e a:Int) (bx:Nat) (Gy:List PV) (s:St):Prop where
 h0:s.heap 0=some (.box (ck N e a))
 hx:s.heap bx=some (.box Gy)
 x0:bx≠0
 lt:bx<s.next
def qp.ck{N:List G8}{e a:Int}{bx:Nat}{Gy:LP}{s:St}(h:qp N e a bx Gy s)(e' a':Int):qp N e' a' bx Gy (s.set 0 (.box (ck N e' a'))):=⟨Ay,(Ar h.x0).trans h.hx,h.x0,h.lt⟩
def qq(N:List G8)(V:List HM)(l:List Item):Prop:=∀e a,CF N 57 [.HC (l.map Aq),.HC (V.map Ao)] e a λr _ _=>r=.tuple []
attribute [local irreducible] cA WW cB YX
section
variable{N:List G8} {V:List HM} {Q:PV->LLP->Prop} {l:List Item} {x:Item} {i:Int}
def kL(N:List G8)(V:List HM)(Q:PV->LLP->Prop)(l:List Item)(i:Int):Prop:=∀e a,∃K,∀s,Xo N e a s->PK 0 1 Q K (.G5 0 0) (.HC (l.map Aq)) (.HC (V.map Ao)) (I i) s
def AGr(hi:0<=i)(O4:i<=100000)(Ix:kL N V Q l (i+1))(e a:Int):∃K,∀s,Xo N e a s->cA 0 1 Q (PK 0 1 Q K) (.G5 0 0) (.HC (l.map Aq)) (.HC (V.map Ao)) (I i) s:=by have dZ:=Abg i;obtain⟨K,hK⟩:=Ix e a;refine⟨K,λs h=>?_⟩;unfold cA;refine zv ?_;rw[dZ];exact hK s h
def AKt(hV:V.length<=100000)(hi:0<=i)(O4:i<=100000)(Ix:kL N V Q l (i+1))(Pz:x.G6.length<=100000)(sX:∀w∈x.G6,Mf (V.map Ap) w=true){T:List (Int×Int)}:
  ∀(c:Nat) (j e a:Int),0<=j->j<=x.G6.length->x.G6.length-j<=c->(e=0->T.length=x.G6.length)->
   ∃K k,∀(bx:Nat) (s:St),qp N e a bx x.Gy s->YZ 0 1 Q (PK 0 1 Q K) k (.G5 0 0) (.HC (l.map Aq)) (.HC (V.map Ao)) (I i) (.G5 bx 0) (.HC (T.map JL)) (I j) s:=by
 have done:∀(j e a:Int),0<=j->¬(j<x.G6.length/\e=0)->
   ∃K k,∀(bx:Nat) (s:St),qp N e a bx x.Gy s->YZ 0 1 Q (PK 0 1 Q K) k (.G5 0 0) (.HC (l.map Aq)) (.HC (V.map Ao)) (I i) (.G5 bx 0) (.HC (T.map JL)) (I j) s:=by
  intro j e a h0 JU;obtain⟨K,hK⟩:=AGr hi O4 Ix e a;refine⟨K,1,λbx s h=>?_⟩;have Mt:=h.h0;have iH:=h.hx;have H5:=h.lt;show eQ _ _ _ _ _ _ _ _ _ _ _ _ _;unfold eQ;refine zv ?_;refine pQ_v Ad0 ?_;refine JG zh ?_;refine Gw (λh9=>?_) (λ_=>hK s ⟨h.h0,AA⟩);exact AfK
 intro c
 induction c with
 |zero=>exactλj e a h0 h1 hc hT=>done j e a h0 AA
 |succ c ih=>
  intro j e a h0 h1 hc hT;by_cases JU:j<x.G6.length/\e=0
  case neg=>exact done j e a h0 JU
  obtain⟨H5,he⟩:=JU;have hT:=hT he;have OA:=Abg j;have pk:=Mj h0 H5;have Yw:=sX (x.G6[j.toNat]' AA) (Bl _);generalize x.G6[j.toNat]' AA=w at pk Yw;obtain⟨rv,hrv,oX⟩:=eg V hV w;obtain⟨q0,q1⟩:=oX.Mf Yw;have vh:=JS q0 q1;generalize V[rv.toNat]' AA=u at vh;have AMb:=Jm (l:=T) h0 AA;generalize T[j.toNat]' AA=t at AMb;obtain⟨r,e2,a2,Jh,rfl,h2,_⟩:=(JQ (N:=N) (e:=e) (a:=a) x.HI 22 AA).pc
  have next:∀(K k:Nat) (bx:Nat) (s:St),YZ 0 1 Q (PK 0 1 Q K) k (.G5 0 0) (.HC (l.map Aq)) (.HC (V.map Ao)) (I i) (.G5 bx 0) (.HC (T.map JL)) (I (j+1)) s->WW 0 1 Q (PK 0 1 Q K) (YZ 0 1 Q (PK 0 1 Q K) k) (.G5 0 0) (.HC (l.map Aq)) (.HC (V.map Ao)) (I i) (.G5 bx 0) (.HC (T.map JL)) (I j) s:=by
   intro K k bx s h;unfold WW;refine zv ?_;rw[OA];exact h
  have step:∃e3 a3,(jh u.ty t=true/\e3=e2/\a3=a2\/jh u.ty t=false/\e3=e/\a3=a):=by
   cases jh u.ty t
   .exact⟨e,a,.inr ⟨rfl,rfl,rfl⟩⟩
   .exact⟨e2,a2,.inl ⟨rfl,rfl,rfl⟩⟩
  obtain⟨e3,a3,KH⟩:=step;obtain⟨K,k,hK⟩:=ih (j+1) e3 a3 AA AA AA λ_=>hT;refine⟨K,k+1,λbx s h=>?_⟩;have Mt:=h.h0;have iH:=h.hx;have Uv:=h.x0;show eQ _ _ _ _ _ _ _ _ _ _ _ _ _;unfold eQ;refine zv ?_;refine pQ_v Ad0 ?_;refine JG zh ?_;refine AWH ?_ λh9=>?_
  case refine_2=>simp[he]at h9;omega
  refine zv ?_;refine HA Ad0 ?_;refine Aba (HU h0 pk rfl) ?_;refine AYi hrv ?_;refine Aba (HU q0 vh rfl) ?_;refine Aba (HU h0 AMb rfl) ?_;refine HA (PW (t:=u.ty) (u:=t)) ?_;refine⟨zc,?_⟩;rcases KH with⟨g1,rfl,rfl⟩|⟨g1,rfl,rfl⟩
  .rw[g1];refine ct ?_;refine zv ?_;refine Gu AeS ?_;refine Gz Jh rfl rfl AdX rfl ?_;exact next K k bx _ (hK bx _ (h.ck _ _))
  .rw[g1];refine cf ?_;exact next K k bx _ (hK bx _ h)
def APx(hV:V.length<=100000)(hi:0<=i)(O4:i<=100000)(Ix:kL N V Q l (i+1))(hw:x.WF)(ht:x.G0=[]->ft N V x.e/\∀w∈x.G6,Mf (V.map Ap) w=true)(e a:Int):
  ∃K,∀(bx:Nat) (s:St),qp N e a bx x.Gy s->YX 0 1 Q (PK 0 1 Q K) (.G5 0 0) (.HC (l.map Aq)) (.HC (V.map Ao)) (I i) (.G5 bx 0) s:=by
 by_cases hs:x.G0=[]
 case neg=>
  obtain⟨K,hK⟩:=AGr hi O4 Ix e a;refine⟨K,λbx s h=>?_⟩;have iH:=h.hx;have H5:=h.lt;have OS:0<x.G0.length:=List.length_pos_iff.2 hs;unfold YX;refine zv ?_;refine pQ_v Ad6 ?_;refine Gw (λ_=>hK s ⟨h.h0,AA⟩) λh9=>?_;have:=Zy h9;rw[BX]at this;omega
 case pos=>
  obtain⟨htc,sX⟩:=ht hs;have Pz:x.G6.length<=100000:=by cases hw with|mk _ _ _ _ h1 _ _ _=>exact h1
  obtain⟨r,e1,a1,I5,T,rfl,hTl,hTy,OR⟩:=(htc e a).pc;obtain⟨r,e2,a2,Jh,rfl,h2,_⟩:=(JQ (N:=N) (e:=e1) (a:=a1) x.HI 23 AA).pc
  have start:∀(e a:Int),(e=0->T.length=x.G6.length)->∃K,∀(bx:Nat) (s:St),qp N e a bx x.Gy s->cB 0 1 Q (PK 0 1 Q K) (.G5 0 0) (.HC (l.map Aq)) (.HC (V.map Ao)) (I i) (.G5 bx 0) (.HC (T.map JL)) s:=by
   intro e a hT;obtain⟨K,k,hK⟩:=AKt (x:=x) hV hi O4 Ix Pz sX (T:=T) x.G6.length 0 e a AA AA AA hT;refine⟨K,λbx s h=>?_⟩;unfold cB;exact⟨k,hK bx s h⟩
  have hb:(List.map BC x.G0).length=0:=by rw[hs];rfl
  by_cases hf:e1=0/\T.length≠x.G6.length
  .obtain⟨K,hK⟩:=start e2 a2 λh=>Zq h h2;refine⟨K,λbx s h=>?_⟩;have Mt:=h.h0;have iH:=h.hx;have Uv:=h.x0;unfold YX;refine zv ?_;refine pQ_v Ad6 ?_;rw[hb];refine zv ?_;refine Gu Aej ?_;refine AVt I5 (Lh rfl) rfl AdX rfl ?_;rw[show(e1==0)=true by simpa using hf.1];refine zv ?_;refine Aah Ad0 ?_;refine AWH ?_ λh9=>?_
   .refine zv ?_;refine Gu AeS ?_;refine Gz Jh rfl rfl AdX rfl ?_;exact hK bx _ ((h.ck e1 a1).ck e2 a2)
   .simp at h9;exact Zq AA hf.2
  .obtain⟨K,hK⟩:=start e1 a1 (λh=>by
    by_cases h9:T.length=x.G6.length
    .exact h9
    .exact Zq ⟨h,h9⟩ hf)
   refine⟨K,λbx s h=>?_⟩;have Mt:=h.h0;have iH:=h.hx;have Uv:=h.x0;unfold YX;refine zv ?_;refine pQ_v Ad6 ?_;rw[hb];refine zv ?_;refine Gu Aej ?_;refine AVt I5 (Lh rfl) rfl AdX rfl ?_;cases hg:(e1==0)
   .refine zv ?_;exact hK bx _ (h.ck e1 a1)
   .refine zv ?_;refine Aah Ad0 ?_;refine Gw (λh9=>?_) λh9=>?_
    .exfalso;simp at h9 hg;exact hf ⟨hg,λh=>h9 AA⟩
    .exact hK bx _ (h.ck e1 a1)
end
end
section
open Go.Proofs
structure xl (N:List G8) (V:List HM) (st:HF):Prop where
 loc:st.Gx.length<=20000
 AQn:st.Lm.length<=100000
 AQo:st.LR.length<=100000
 clk:∀v∈st.Gx,Ry ((V++st.Gx).map Ap) v
 cl:∀v∈st.Gx,v.HH.length<=17
 Lm:∀t∈st.Lm,AIb N V t.cond
 LR:∀t∈st.LR,AIb N (V++st.Gx) t.cond
 HE:qq N (V++st.Gx) st.HE
attribute [local irreducible] cA WW cB YX
section
variable{N:List G8} {V:List HM} {Q:PV->LLP->Prop} {l:List Item} {x:Item} {i:Int}
def AD7(hV:V.length<=70000)(hi:0<=i)(O4:i<=100000)(Ix:kL N V Q l (i+1))(hw:x.WF)(ht:x.G0=[]->ft N V x.e/\∀w∈x.G6,Mf (V.map Ap) w=true)(OS:x.G0.length<=100000)(KH:∀st∈x.G0,xl N V st):
  ∀(c:Nat) (j e a:Int),0<=j->j<=x.G0.length->x.G0.length-j<=c->
   ∃K k,∀(bx:Nat) (s:St),qp N e a bx x.Gy s->eP 0 1 Q (PK 0 1 Q K) k (.G5 0 0) (.HC (l.map Aq)) (.HC (V.map Ao)) (I i) (.G5 bx 0) (I j) s:=by
 have done:∀(j e a:Int),0<=j->¬(j<x.G0.length/\e=0)->
   ∃K k,∀(bx:Nat) (s:St),qp N e a bx x.Gy s->eP 0 1 Q (PK 0 1 Q K) k (.G5 0 0) (.HC (l.map Aq)) (.HC (V.map Ao)) (I i) (.G5 bx 0) (I j) s:=by
  intro j e a h0 JU;obtain⟨K,hK⟩:=APx (x:=x) AA hi O4 Ix hw ht e a;refine⟨K,1,λbx s h=>?_⟩;have Mt:=h.h0;have iH:=h.hx;show YY _ _ _ _ _ _ _ _ _ _ _ _;unfold YY;refine zv ?_;refine pQ_v Ad6 ?_;refine JG zh ?_;refine Gw (λh9=>?_) λ_=>hK bx s h;exact AfK
 intro c
 induction c with
 |zero=>exactλj e a h0 h1 hc=>done j e a h0 AA
 |succ c ih=>
  intro j e a h0 h1 hc;by_cases JU:j<x.G0.length/\e=0
  case neg=>exact done j e a h0 JU
  obtain⟨H5,he⟩:=JU;have OA:=Abg j;have Pd:=QB h0 H5;have mn:=KH (x.G0[j.toNat]' AA) (Bl _);generalize x.G0[j.toNat]' AA=st at Pd mn;obtain⟨nm,Lm,LR,Gx,HE,HI⟩:=st;have mi:(HF.mk nm Lm LR Gx HE HI).Gy=[.HK nm,.HC (Lm.map Ax),.HC (LR.map Ax),.HC (Gx.map Ao),.HC (HE.map Aq),I HI]:=by rw[HF.JP];rfl
  have Xs:Gx.length<=20000:=mn.loc;have T9:V.map Ao++Gx.map Ao=(V++Gx).map Ao:=by rw[Br]
  obtain⟨r,e1,a1,K4,rfl⟩:=(wy (N:=N) (l:=Gx) AA e a).pc;obtain⟨r,e2,a2,Jh,rfl⟩:=(iz (N:=N) (V:=V++Gx) (l:=Gx) AB AA mn.clk mn.cl e1 a1).pc;obtain⟨r,e3,a3,VA,rfl⟩:=(uo (N:=N) (V:=V) (l:=Lm) mn.AQn mn.Lm e2 a2).pc;obtain⟨r,e4,a4,vf,rfl⟩:=(mn.HE e3 a3).pc;obtain⟨r,e5,a5,APX,rfl⟩:=(uo (N:=N) (V:=V++Gx) (l:=LR) mn.AQo mn.LR e4 a4).pc;simp only[HF.Gx,HF.HE]at vf;obtain⟨K,k,hK⟩:=ih (j+1) e5 a5 AA AA AA;refine⟨K,k+1,λbx s h=>?_⟩;have Mt:=h.h0;have iH:=h.hx;have Uv:=h.x0;have hl0:=h.lt;show YY _ _ _ _ _ _ _ _ _ _ _ _;unfold YY;refine zv ?_;refine pQ_v Ad6 ?_;refine JG zh ?_;refine AWH ?_ λh9=>?_
  case refine_2=>simp[he]at h9;omega
  refine zv ?_;refine Gu Ad6 ?_;refine Gu Ae0 ?_;refine Gu AfF ?_;rw[mi];refine zv ?_;refine Aba AeC ?_;refine HA Adl ?_;rw[T9];refine zv ?_;refine⟨?_,?_⟩
  .exact AjT
  refine zv ?_;refine AVt K4 rfl rfl AdX rfl ?_;refine AVt Jh rfl rfl AdX rfl ?_;refine AVt VA rfl rfl AdX rfl ?_;refine AVt vf rfl rfl AdX rfl ?_;refine AVt APX rfl rfl AdX rfl ?_;rw[OA];exact hK bx _ ⟨zh,zh,Uv,by simp only[Hj,Hz,Hu,NN];omega⟩
def AKe(hV:V.length<=70000)(hl:l.length<=100000)(hw:∀x∈l,x.WF)(ht:∀x∈l,x.G0=[]->ft N V x.e/\∀w∈x.G6,Mf (V.map Ap) w=true)(KH:∀x∈l,∀st∈x.G0,xl N V st)
  (hQ:∀e' a',Q (.tuple []) [ck N e' a']):∀(c:Nat) (i:Int),0<=i->i<=l.length->l.length-i<=c->kL N V Q l i:=by
 have done:∀(i e a:Int),0<=i->¬(i<l.length/\e=0)->∃K,∀s,Xo N e a s->PK 0 1 Q K (.G5 0 0) (.HC (l.map Aq)) (.HC (V.map Ao)) (I i) s:=by
  intro i e a h0 JU;refine⟨1,λs h=>?_⟩;have Mt:=h.h0;show kz _ _ _ _ _ _ _ _ _;unfold kz;refine zv ?_;refine JG zh ?_;refine Gw (λh9=>?_) λ_=>HB rfl rfl AdX (hQ _ _);exact AfK
 intro c
 induction c with
 |zero=>exactλi h0 h1 hc e a=>done i e a h0 AA
 |succ c ih=>
  intro i h0 h1 hc e a;by_cases JU:i<l.length/\e=0
  case neg=>exact done i e a h0 JU
  obtain⟨H5,he⟩:=JU;have HV:=Vm h0 H5;have Kk:l[i.toNat]' AA∈l:=Bl _;generalize l[i.toNat]' AA=x at HV Kk
  have OS:x.G0.length<=100000:=by
   cases hw x Kk with|mk _ _ _ _ _ _ h3 _=>exact h3
  obtain⟨K,k,hK⟩:=AD7 (x:=x) (Q:=Q) hV h0 AA (ih (i+1) AA AA AA) (hw x Kk) (ht x Kk) OS (KH x Kk) x.G0.length 0 e a AA AA AA;refine⟨K+1,λs h=>?_⟩;have Mt:=h.h0;have hl0:=h.lt;show kz _ _ _ _ _ _ _ _ _;unfold kz;refine zv ?_;refine JG zh ?_;refine AWH ?_ λh9=>?_
  case refine_2=>simp[he]at h9;omega
  refine Gu Aez ?_;refine pQ_v (Jo (BI _)) ?_;refine Gu AeA ?_;refine⟨k,hK s.next _ ⟨zh,zh,AA,by simp only[Hj,Hz];omega⟩⟩
def qb(hV:V.length<=70000)(hl:l.length<=100000)(hw:∀x∈l,x.WF)(ht:∀x∈l,x.G0=[]->ft N V x.e/\∀w∈x.G6,Mf (V.map Ap) w=true)(KH:∀x∈l,∀st∈x.G0,xl N V st):qq N V l:=by intro e a;obtain⟨K,hK⟩:=AKe (Q:=λr c=>∃e' a',c=[ck N e' a']/\r=.tuple []) hV hl hw ht KH (λe' a'=>⟨e',a',rfl,rfl⟩) l.length 0 AA AA AA e a;refine ANg 0 rfl _ _ _ ?_;unfold c57;exact⟨K,hK _ ⟨zh,by simp[I4]⟩⟩
end
end
section
open Go.Proofs
def Ww{A B:List BA}{w:BA}:Mf (A++B) w=(Mf A w||Mf B w):=by simp[Mf,List.any_append]
def NI.sl{N:List G8}{nd:Int}{S M:List BA}{x:Item}(h:NI N nd S M x)(hs:x.G0=[]):(∀n∈x.G6,Mf M n=true)/\Qc N S nd x.e:=by
 cases h with
 |eq _ _ _ _ _ h1 h2=>exact⟨h1,h2⟩
 |AIk=>cases hs
def NI.vy{N:List G8}{nd:Int}{S M:List BA}{x:Item}(h:NI N nd S M x):∀s∈x.G0,NS N nd S M s:=by
 cases h with
 |eq _ _ _ _ _ h1 h2=>intro s hs;cases hs
 |AIk _ _ _ _ _ _ _ h1=>exact h1
def xR.pw{S:List BA}{x:Item}(h:xR S x):∀s∈x.G0,NCS S s:=by cases h with|mk _ _ _ _ _ h1=>exact h1
attribute [local irreducible] kh
section
variable{N:List G8} {nd:Int} {Q:PV->LLP->Prop}
def AAV(hU:ACV)(hB:ot)(hN:N.length<=60)(vN:∀n∈N,n.WF)(hNt:A8 N<=20000):∀(c:Nat) (V:List HM) (M:List BA) (l:List Item),As l<=c->V.length+As l<=70000->As l<=20000->l.length<=100000->(∀v∈V,v.WF)->(∀x∈l,x.WF)->(∀w,Mf M w=true->Mf (V.map Ap) w=true)->(∀x∈l,NI N nd (V.map Ap) M x)->(∀x∈l,xR (V.map Ap) x)->qq N V l:=by
 intro c
 induction c with
 |zero=>
  intro V M l hl hV hc Xs hVw hw hMS ZB hnc;refine qb AA Xs hw (λx hx hs=>?_) λx hx st KH=>?_
  .exact AgR
  .exfalso;obtain⟨q,hq,si⟩:=By hx;have h1:=PJ hq;have h2:As l=As (l.take q)+As (l.drop q):=by rw[<- Item.Io,CP]
   rw[si]at h1;obtain⟨G6,ex,G0,HI⟩:=x;cases G0 with
   |nil=>exact Zq KH AcD
   |cons st r=>cases st;simp only[BE,A7,BK]at h1;omega
 |succ c ih=>
  intro V M l hl hV hc Xs hVw hw hMS ZB hnc;refine qb AA Xs hw (λx hx hs=>?_) λx hx st KH=>?_
  .exact AgR
  .have hxw:=hw x hx;have hns:=(ZB x hx).vy st KH;have APP:=(hnc x hx).pw st KH;obtain⟨q,hq,si⟩:=By hx;have h1:=PJ hq;have h2:As l=As (l.take q)+As (l.drop q):=by rw[<- Item.Io,CP]
   rw[si]at h1;obtain⟨q2,UQ,hqs⟩:=By KH;have h3:=XS UQ;rw[hqs]at h3
   have h4:A7 x.G0<=x.wt:=by
    exact Af6
   have zH:st.WF:=by
    exact Ajw
   obtain⟨nm,Lm,LR,Gx,HE,HI⟩:=st;cases zH with|mk _ _ _ _ _ _ w1 w2 w3 w4 w5=>
   cases hns with|mk _ _ _ _ _ _ _ _ n1 n2 n3 n4=>
   cases APP with|mk _ _ _ _ _ _ _ k1 k2=>
   simp only[BK]at h3;have ATA:∀v∈V++Gx,v.WF:=λv hv=>(Bg.1 hv).elim (hVw v) (w3.all v);have hS:List.map Ap (V++(HF.mk nm Lm LR Gx HE HI).Gx)=V.map Ap++Gx.map Ap:=Br;refine⟨by simp only[HF.Gx];omega,w1.len,w2.len,by rw[hS];exact k1,λv hv=>(w3.all v hv).HH,λt ht=>zr (ff hU hB hN vN hNt AA hVw (w1.all t ht) (n1 t ht)),λt ht=>zr (ff hU hB hN vN hNt (by rw[Bf];omega) ATA (w2.all t ht) (nd:=nd) Aj),?_⟩
   exact ih _ (M++Gx.map Ap) HE AA Acw AA w4 ATA w5 (λw hw=>by
    rw[hS,Ww];rw[Ww]at hw;cases hm:Mf M w
    .rw[hm,Dj]at hw;rw[hw,Bool.or_true]
    .rw[hMS w hm,Fc]) (by rw[hS];exact n2) (by rw[hS];exact k2)
def AEo(N:List G8)(Q:PV->LLP->Prop)(i e a:Int):Prop:=∃K,∀s,s.heap 0=some (.box [.HC (N.map A2)])->s.heap 1=some (.box (ck N e a))->1<s.next->rL 0 0 Q K (.G5 0 0) (.G5 1 0) (I i) s
def ASh{e a:Int}{s:St}(h:s.heap 1=some (.box (ck N e a)))(hQ:Q (.tuple [I a,I e]) []):kh 0 0 Q (.G5 1 0) s:=by unfold kh;exact Afy
def ABj{n:G8}(w:BA)(h:Mf n.may w=true):Mf n.vars w=true:=by obtain⟨x,hx,he⟩:=SF.1 h;exact SF.2 ⟨x,List.mem_of_mem_drop hx,he⟩
def AKx(hU:ACV)(hB:ot)(hN:N.length<=60)(hw:∀n∈N,n.WF)(Pe:A8 N<=20000)(jK:∀(q:Nat) (h:q<N.length),Sq N q N[q])(hQ:∀e a:Int,Q (.tuple [I a,I e]) []):
  ∀(c:Nat) (i e a:Int),0<=i->i<=N.length->N.length-i<=c->AEo N Q i e a:=by
 have done:∀(i e a:Int),0<=i->¬(i<N.length/\e=0)->AEo N Q i e a:=by
  intro i e a h0 JU;refine⟨1,λs h1 h2 h3=>?_⟩;show eI _ _ _ _ _ _ _ _;unfold eI;refine zv ?_;refine Tl zh ?_;refine Gw (λh9=>?_) λ_=>ASh zh (hQ _ _);exact AfK
 intro c
 induction c with
 |zero=>exactλi e a h0 h1 hc=>done i e a h0 AA
 |succ c ih=>
  intro i e a h0 h1 hc;by_cases JU:i<N.length/\e=0
  case neg=>exact done i e a h0 JU
  obtain⟨H5,he⟩:=JU;have dZ:=Abg i;have HV:=Te h0 H5;have jL:=hw (N[i.toNat]' AA) (Bl _);have Xl:=ZN (l:=N) (q:=i.toNat) AA;have RT:=jK i.toNat AA;generalize N[i.toNat]' AA=n at HV jL Xl RT;simp only[G8.wt]at Xl;have II:n.all.length=n.Je.length+n.Ic.length+n.Gx.length:=by simp[BM];omega
  have Jg:=xo n [] AB;rw[CL]at Jg
  have haw:∀v∈n.all,v.WF:=by
   intro v hv;simp only[BM,Bg]at hv;rcases hv with(hv|hv)|hv
   .exact jL.Je.all v hv
   .exact jL.Ic.all v hv
   .exact jL.Gx.all v hv
  obtain⟨r,e1,a1,K4,rfl⟩:=(wy (N:=N) (l:=n.all) AA e a).pc;obtain⟨r,e2,a2,Jh,rfl⟩:=(iz (N:=N) (V:=n.all) (l:=n.Gx) AA AA RT.clk (λv hv=>(jL.Gx.all v hv).HH) e1 a1).pc;obtain⟨r,e3,a3,VA,rfl⟩:=((AAV hU hB hN hw Pe _ n.all n.may n.HE (Bd _) AA AA jL.len haw jL.HE ABj RT.HE RT.AFG) e2 a2).pc;obtain⟨K,hK⟩:=ih (i+1) e3 a3 AA AA AA;refine⟨K+1,λs h1 h2 h3=>?_⟩;show eI _ _ _ _ _ _ _ _;unfold eI;refine zv ?_;refine Tl zh ?_;refine AWH ?_ λh9=>?_
  case refine_2=>simp[he]at h9;omega
  refine zv ?_;refine Gu Aei ?_;refine Gu AfA ?_;rw[G8.ZV];refine zv ?_;refine AbZ Jg ?_;refine AVt K4 rfl rfl (gb1 (cs:=ck N e a) (by simp only[Mk,Lu];exact zh) rfl) rfl ?_;refine AVt Jh rfl rfl AeD rfl ?_;refine AVt VA rfl rfl AeD rfl ?_;rw[dZ];exact hK _ (by simp only[Mk,Hu,Lu,NN];exact zh) zh (by simp only[Hj,Hz,Hu,Mk,NN,Lu];omega)
def AAY(hU:ACV)(hB:ot)(hN:N.length<=60)(hw:∀n∈N,n.WF)(Pe:A8 N<=20000)(jK:∀(q:Nat) (h:q<N.length),Sq N q N[q]):∃a e:Int,PC BW 35 [.agg [.HC (N.map A2)]] [] (.tuple [I a,I e]) []:=by
 obtain⟨K,hK⟩:=AKx (N:=N) (Q:=λr c=>c=[]/\∃a e:Int,r=.tuple [I a,I e]) hU hB hN hw Pe jK (λe a=>⟨rfl,a,e,rfl⟩) N.length 0 0 0 AA AA AA
 have:PQ BW 35 [.agg [.HC (N.map A2)]] [] (λr c=>c=[]/\∃a e:Int,r=.tuple [I a,I e]):=by
  refine ANX 0 rfl _ ?_;unfold c35;refine zv ?_;exact⟨K,hK _ zh zh AcJ⟩
 exact Ah6
end
end
end Go.Vi
