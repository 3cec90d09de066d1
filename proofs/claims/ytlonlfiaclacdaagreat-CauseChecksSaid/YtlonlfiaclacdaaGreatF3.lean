/- Part of the proof of CauseChecks (own work, made small). -/
import Derived.Test.YtlonlfiaclacdaaGreatF2
set_option linter.all false
set_option maxRecDepth 100000
open Bool renaming and_eq_true->Bo,false_or->Di,true_or->Du
open Go renaming FuncId->B9
open Go.Proofs.Tryz renaming prog->BZ
open Go.Vi.Edge renaming GG->A9
open Go.Vi.GD renaming GG->A8,GX->BP,wt->BG,HS->Ax
open Go.Vi.GO renaming GG->Ay,HS->BC
open Go.Vi.Ge renaming name->Ao,GG->Am
open Go.Vi.Gj renaming GG->Aw
open Go.Vi.Gw renaming GK->BB
open Go.Vi.Item renaming r0->BU,Vj->BR,GG->Aq,GX->BK,wt->BF,HS->As
open Go.Vi.Obj renaming box->BI
open Go.Vi.St renaming Gg->Ar,HJ->A4
open List renaming append_nil->CG,drop_eq_getElem_cons->Bt,getElem?_eq_getElem->Bc,getElem?_map->CV,getElem_mem->Bl,getElem_of_mem->B4,length_append->Bd,length_cons->CE,length_map->Bb,map_append->Bu,mem_append->Bf,mem_cons->Bm,mem_map->B8,mem_singleton->By,nil_append->CC,range->CS,set_cons_succ->Cb,set_cons_zero->Ca,take_append_drop->CX
open Nat renaming le_refl->Bg
namespace Go.Vi
attribute [local irreducible] H0 HR Gp Ht Gf Hu GJ GM Gc HK HC JI G6 Hs Hq Ho JZ Jd Ip JN JW G2 Gq Hb pQ I2 Ic Gn Gb Gs HA HZ H8 Int.instDecidableEq Int.decEq instBEqOfDecidableEq
section
open Go.Proofs
def ACU(a c:BA)(b d:Bool):SP BZ .neq 80 (.agg [.Gh a,.bool b]) (.agg [.Gh c,.bool d])=some (.bool (!((a.toList==c.toList)&&((b==d)&&true)))):=by kernel_rfl
def AUC(t u:Edge):Bool:= !((t.name.toList==u.name.toList)&&((t.on==u.on)&&true))
def ANd{t u:Edge}{s:St}:H8 (HC BZ .neq 80 (.agg t.GG) (.agg u.GG)) s (.bool (AUC t u)) s [] []:=Gt (ACU _ _ _ _)
def uj{l:List Edge}:∀r∈l.map A9,r.length=2:=Aeg
def p6(A B:List Edge)(hA:A.length<=100000):∃b,PC BZ 66 [.GV (A.map A9),.GV (B.map A9)] [] (.bool b) []:=by
 have loop:A.length=B.length->∀c:Nat,∃k,∀(i:Int) (s:St),0<=i->i<=A.length->A.length-i<=c->Gv s (CS 0)=some []->
   xM 0 0 (λr c=>c=[]/\∃b,r=.bool b) k (.GV (A.map A9)) (.GV (B.map A9)) (I i) s:=by
  intro hAB c
  induction c with
  |zero=>
   refine⟨1,λi s h0 h1 hc hs=>?_⟩;show iM _ _ _ _ _ _ _ _;unfold iM;refine zv ?_;refine AT7 (λh=>?_) ?_
   .have:=Ot h;rw[Bb]at this;omega
   .unfold xL;exact AeM
  |succ c ih=>
   obtain⟨k,ih⟩:=ih;refine⟨k+1,λi s h0 h1 hc hs=>?_⟩;show iM _ _ _ _ _ _ _ _;unfold iM;refine zv ?_;refine AT7 (λh=>?_) ?_
   .have G7:i<A.length:=by have:=Ot h;rw[Bb]at this;omega
    have Zt:=AZi i;refine AZc (Gk h0 (Xi h0 G7) rfl) ?_;refine AZc (Gk h0 (Xi (l:=B) h0 AA) rfl) ?_;refine GR (ANd (t:=A[i.toNat]' AA) (u:=B[i.toNat]' AA)) ?_;refine⟨zc,?_⟩;refine AT5 ?_ ?_
    .exact AeM
    .refine zv ?_;rw[Zt];exact ih _ s AA AA AA hs
   .unfold xL;exact AeM
 have:PQ BZ 66 [.GV (A.map A9),.GV (B.map A9)] [] (λr c=>c=[]/\∃b,r=.bool b):=by
  refine AK7 0 rfl _ _ ?_;unfold c66;refine zv ?_;refine AT6 ?_ λh=>?_
  .exact Ad6
  .obtain⟨k,hk⟩:=loop (by simp at h;omega) A.length;exact⟨k,hk 0 _ AA AA AA rfl⟩
 exact Af8
def Jv(b:Bool)(E:List Edge):LP:=[.bool b,.GV (E.map A9)]
def XF(a b:Bool)(A B:List Edge)(hA:A.length<=100000):∃r,PC BZ 74 [.agg (Jv a A),.agg (Jv b B)] [] (.bool r) []:=by
 obtain⟨q,hq⟩:=p6 A B hA
 have:PQ BZ 74 [.agg (Jv a A),.agg (Jv b B)] [] (λr c=>c=[]/\∃b,r=.bool b):=by
  refine ALF 0 rfl _ _ ?_;unfold c74;unfold Jv;refine zv ?_;cases a
  .refine zv ?_;cases b
   .refine zv ?_;refine AWe hq ?_;exact Ad6
   .exact Ahr
  .exact Ahr
 exact Af8
def qK(A:List Edge)(w:BA)(on:Bool)(hA:A.length<=1000):PC BZ 102 [.GV (A.map A9),.Gh w,.bool on] [] (.GV ((A++[Edge.mk w on]).map A9)) []:=by
 have:PQ BZ 102 [.GV (A.map A9),.Gh w,.bool on] [] (λr c=>c=[]/\r=.GV ((A++[Edge.mk w on]).map A9)):=by
  refine AFy 0 rfl _ _ _ ?_;unfold AO3;refine zv ?_;refine pQ_v (Mw rfl (HQ uj) (G4 AB AA) zn) ?_;refine pQ_v (Jp rfl rfl (G4 AB AA) (HQ uj) zh (.inr rfl)) ?_;rw[show A.map A9++[[.Gh w,.bool on]]=(A++[Edge.mk w on]).map A9 by rw[Bu];rfl];exact Adx
 exact Adh
def Oj{V:List Ge}(hV:V.length<=100000)(Rk:∀v∈V,v.Ga.length<=17){w:BA}(h:Kv (V.map Ao) w=true):∃E:List Edge,PC BZ 67 [.GV (V.map Am),.Gh w] [] (.GV (E.map A9)) []/\E.length<=17:=by
 obtain⟨rv,hrv,lS⟩:=an V hV w;obtain⟨q0,q1⟩:=lS.Kv h;have Gl:=Io q0 q1;have hl:=Rk (V[rv.toNat]' AA) (Bl _);generalize V[rv.toNat]' AA=v at Gl hl
 have:PQ BZ 67 [.GV (V.map Am),.Gh w] [] (λr c=>c=[]/\r=.GV (v.Ga.map A9)):=by
  refine AK8 0 rfl _ _ ?_;unfold c67;refine zv ?_;refine AZa hrv ?_;refine pQ_v (Gk q0 Gl rfl) ?_;exact Adx
 obtain⟨r,c,IE,rfl,rfl⟩:=this;exact⟨_,IE,hl⟩
end
section
open Go.Proofs
def QCk(r:PV):Prop:=∃(b:Bool) (E:List Edge),r=.agg (Jv b E)/\E.length<=18
def Ow(k:Bool×List Edge):LP:=Jv k.1 k.2
def xV{l:List (Bool×List Edge)}{i:Int}(h0:0<=i)(h:i<l.length):(l.map Ow)[i.toNat]?=some (Ow (l[i.toNat]' AA)):=AgH
def zk{l:List (Bool×List Edge)}:∀r∈l.map Ow,r.length=2:=Aeg
structure tn (N:List GO) (e a:Int) (xr:List PV) (s:St):Prop where
 h0:s.heap 0=some (.box (ck N e a))
 h1:s.heap 1=some (.box xr)
 h2:s.heap 2=some (.box [.bool false,.nil])
 lt:3<s.next
def tn.ck{N:List GO}{e a:Int}{xr:LP}{s:St}(h:tn N e a xr s)(e' a':Int):tn N e' a' xr (s.set 0 (.box (ck N e' a'))):=⟨A4,(Ar AA).trans h.h1,(Ar AA).trans h.h2,h.lt⟩
attribute [local irreducible] Yv Sp UP UQ Sq Yu mK
section
variable{N:List GO} {V:List Ge} {e a:Int} {Q:PV->LLP->Prop} {xr:LP} {s:St} {K:List (Bool×List Edge)} {bk:Nat} {f s1 tk tl i m GY:Int} {nm:BA} {GP:List Gw}
def Q73(N:List GO)(Q:PV->LLP->Prop):Prop:=∀(r:PV) (e' a':Int),QCk r->Q r [ck N e' a']
def AJC{nb:Nat}{E:List Edge}(hQ:Q73 N Q)(hE:E.length<=17)(h:tn N e a (QE f s1 nm tk tl i m GP GY) s)(hb:s.heap nb=some (.box (Jv false E))):Yv 0 1 Q (.GN 1 0) (.GN 2 0) (.GN nb 0) s:=by have Ls:=h.h0;have jh:=h.h1;have h22:=h.h2;unfold Jv at hb;unfold Yv;refine zv ?_;refine AZb (qK E nm (i==1) AA) ?_;exact GW AbR rfl AbQ (hQ _ _ _ ⟨false,_,rfl,by simp;omega⟩)
def ACZ{E:List Edge}(hQ:Q73 N Q)(hE:E.length<=17)(h:tn N e a xr s):Sp 0 1 Q (.GN 2 0) (.GV (E.map A9)) s:=by have Ls:=h.h0;have h22:=h.h2;unfold Sp;refine zv ?_;exact AhF
def wx(cs:LP)(b:Bool)(E:List Edge):Prop:=cs=Jv b E\/(cs=[.bool b,.nil]/\E=[])
def ALY{nb:Nat}{cs:LP}{b:Bool}{E:List Edge}(hQ:Q73 N Q)(hE:E.length<=18)(hm:wx cs b E)(h:tn N e a xr s)(hb:s.heap nb=some (.box cs)):UP 0 1 Q (.GN 2 0) (.GN nb 0) s:=by
 have Ls:=h.h0;have h22:=h.h2;rcases hm with rfl|⟨rfl,rfl⟩
 .unfold Jv at hb;unfold UP;refine zv ?_;exact GW AbR rfl AbQ (hQ _ _ _ ⟨b,E,rfl,hE⟩)
 .unfold UP;refine zv ?_;exact GW AbR rfl AbQ (hQ _ _ _ ⟨b,[],rfl,AD⟩)
def AHs(hQ:Q73 N Q)(QQ:xr[8]?=some (I GY))(hK:K.length<=100000)(hKE:∀k∈K,k.2.length<=18){nb:Nat}(hnb:2<nb):
  ∀c:Nat,∃k,∀(j e a:Int) (s:St) (cs:LP) (b:Bool) (E:List Edge),0<=j->j<=K.length->K.length-j<=c->tn N e a xr s->s.heap nb=some (.box cs)->wx cs b E->E.length<=18->
   QK 0 1 Q k (.GN 0 0) (.GN 1 0) (.GN 2 0) (.HL bk (K.map Ow)) (.GN nb 0) (I j) s:=by
 have done:∀(k:Nat) (j e a:Int) (s:St) (cs:LP) (b:Bool) (E:List Edge),0<=j->j=K.length->tn N e a xr s->s.heap nb=some (.box cs)->wx cs b E->E.length<=18->
   QK 0 1 Q (k+1) (.GN 0 0) (.GN 1 0) (.GN 2 0) (.HL bk (K.map Ow)) (.GN nb 0) (I j) s:=by
  intro k j e a s cs b E h0 hj h hb hm hE;show Wa _ _ _ _ _ _ _ _ _ _ _;unfold Wa;refine zv ?_;refine GF (λh9=>?_) λ_=>ALY hQ hE hm h hb;exact Adb
 intro c
 induction c with
 |zero=>exact⟨1,λj e a s cs b E h0 h1 hc h hb hm hE=>done 0 j e a s cs b E h0 AA h hb hm hE⟩
 |succ c ih=>
  obtain⟨k,ih⟩:=ih;refine⟨k+1,λj e a s cs b E h0 h1 hc h hb hm hE=>?_⟩;by_cases G7:j<K.length
  case neg=>exact done k j e a s cs b E h0 AA h hb hm hE
  have OH:=AZi j;have Gl:=xV h0 G7;have hkE:=hKE (K[j.toNat]' AA) (Bl _);generalize K[j.toNat]' AA=u at Gl hkE;obtain⟨ub,uE⟩:=u;obtain⟨r,hr⟩:=XF b ub E uE AA
  have next:∀(e a:Int) (s:St),tn N e a xr s->s.heap nb=some (.box cs)->Sq 0 1 Q (QK 0 1 Q k) (.GN 0 0) (.GN 1 0) (.GN 2 0) (.HL bk (K.map Ow)) (.GN nb 0) (I j) s:=by
   intro e a s h hb;have Ls:=h.h0;have jh:=h.h1;have h22:=h.h2
   have inc:∀(s:St) (cs:LP) (b:Bool) (E:List Edge),tn N e a xr s->s.heap nb=some (.box cs)->wx cs b E->E.length<=18->UQ 0 1 Q (QK 0 1 Q k) (.GN 0 0) (.GN 1 0) (.GN 2 0) (.HL bk (K.map Ow)) (.GN nb 0) (I j) s:=by
    intro s cs b E h hb hm hE;unfold UQ;refine zv ?_;rw[OH];exact ih _ e a s cs b E AA AA AA h hb hm hE
   unfold Sq;rcases hm with rfl|⟨rfl,rfl⟩
   .unfold Jv at hb;refine zv ?_;cases b
    .refine zv ?_;exact inc s _ false E h hb (.inl rfl) hE
    .exact AfM
   .refine zv ?_;cases b
    .refine zv ?_;exact inc s _ false [] h hb (.inr ⟨rfl,rfl⟩) hE
    .exact AfM
  have fail:Gn BZ 68 [.GN 0 0,I GY,I 27] s (λv303 AW1=>Sq 0 1 Q (QK 0 1 Q k) (.GN 0 0) (.GN 1 0) (.GN 2 0) (.HL bk (K.map Ow)) (.GN nb 0) (I j) AW1):=by
   have Ls:=h.h0;obtain⟨r,e2,a2,I4,rfl,h2,_⟩:=(Ik (N:=N) (e:=e) (a:=a) GY 27 AA).pc;refine GI I4 rfl rfl AbQ rfl ?_;exact next e2 a2 _ (h.ck e2 a2) zh
  have Ls:=h.h0;have jh:=h.h1;show Wa _ _ _ _ _ _ _ _ _ _ _;unfold Wa;refine zv ?_;refine AT6 ?_ λh9=>?_
  case refine_2=>have:=Zy h9;rw[Bb]at this;omega
  rcases hm with JK|⟨JK,rfl⟩
  .rw[JK]at hb;unfold Jv at hb;exact Ahm
  .rw[JK]at hb;exact Ahm
end
end
section
open Go.Proofs
attribute [local irreducible] Yv Sp UP UQ Sq Yu mK
section
variable{N:List GO} {V:List Ge} {e a:Int} {Q:PV->LLP->Prop} {s:St} {K:List (Bool×List Edge)} {bk:Nat} {f s1 tk tl i m GY:Int} {nm:BA} {GP:List Gw} {nd:Int}
def AG0(hV:V.length<=100000)(Rk:∀v∈V,v.Ga.length<=17)(hK:K.length=GP.length)(Qz:Zz f GP.length)(hKE:∀k∈K,k.2.length<=18)(Tq:f=2\/f=9\/f=10->Kv (V.map Ao) nm=true)(hQ:Q73 N Q)
  (h:tn N e a (QE f s1 nm tk tl i m GP GY) s):Yu 0 1 Q (.GN 0 0) (.GV (V.map Am)) (.GN 1 0) (.GN 2 0) (.HL bk (K.map Ow)) (I f) (.bool (f==1||f==12)) s:=by
 have Ls:=h.h0;have jh:=h.h1;have h22:=h.h2;have G7:=h.lt;unfold Yu;cases hc:(f==1||f==12)
 case true=>
  refine ct ?_;exact Agd
 refine cf ?_;refine zv ?_;cases g2:(f==2)
 case true=>
  obtain⟨E,hE,lp⟩:=Oj hV Rk (Tq (by simp at g2;omega));refine zv ?_;refine AZb hE ?_;exact AhF
 refine zv ?_;cases g9:(f==9)
 case true=>
  have LX:=Qz.1 (by simp at g9;omega);obtain⟨E,hE,lp⟩:=Oj hV Rk (Tq (by simp at g9;omega));have Gl:=xV (l:=K) (i:=0) AA AA;have hkE:=hKE (K[(0:Int).toNat]' AB) (Bl _);generalize K[(0:Int).toNat]' AB=u at Gl hkE;obtain⟨ub,uE⟩:=u;obtain⟨r,hr⟩:=XF ub false uE E AbC;refine zv ?_;refine AZb hE ?_;refine AZc Ab3 ?_;refine AWe hr ?_;refine⟨zc,?_⟩;have hL:tn N e a (QE f s1 nm tk tl i m GP GY) ((s.new (BI [.bool false,.nil])).set s.next (BI (Jv false E))):=⟨zh,zh,zh,by simp only[G1,HI];omega⟩
  have hb:((s.new (BI [.bool false,.nil])).set s.next (BI (Jv false E))).heap s.next=some (.box (Jv false E)):=zh;refine AT6 ?_ λ_=>AJC hQ lp hL hb;refine zv ?_;obtain⟨r,e2,a2,I4,rfl,h2,_⟩:=(Ik (N:=N) (e:=e) (a:=a) GY 27 AA).pc;refine GI I4 rfl rfl (Kj hL.h0 rfl) rfl ?_;exact AJC hQ lp (hL.ck e2 a2) ((Ar AA).trans hb)
 refine zv ?_;cases g10:(f==10)
 case true=>
  have Jm:=Qz.2.1 (by simp at g10;omega);obtain⟨E,hE,lp⟩:=Oj hV Rk (Tq (by simp at g10;omega));have Gl:=xV (l:=K) (i:=0) AA AA;have hkE:=hKE (K[(0:Int).toNat]' AB) (Bl _);generalize K[(0:Int).toNat]' AB=u at Gl hkE;obtain⟨ub,uE⟩:=u;have OE:=xV (l:=K) (i:=1) AA AA;have AQ8:=hKE (K[(1:Int).toNat]' AB) (Bl _);generalize K[(1:Int).toNat]' AB=u1 at OE AQ8;obtain⟨ub1,uE1⟩:=u1;obtain⟨r,hr⟩:=XF ub false uE (E++[Edge.mk nm true]) AbC;obtain⟨r1,VO⟩:=XF ub1 false uE1 (E++[Edge.mk nm false]) (by simp only at AQ8;omega);refine zv ?_;refine AZa hE ?_;simp only[Ld,Jl];refine zv ?_;refine AZa (qK E nm true AA) ?_;simp only[Ld,Jl];refine zv ?_;refine AZa (qK E nm false AA) ?_;simp only[Ld,Jl];refine zv ?_;refine AZc Ab3 ?_;refine AWd hr ?_;simp only[MK,Jl];refine zv ?_;have hL:tn N e a (QE f s1 nm tk tl i m GP GY) ((((s.new (BI [.bool false,.nil])).set s.next (BI (Jv false (E++[Edge.mk nm true])))).new (BI [.bool false,.nil])).set (s.next+1) (BI (Jv false (E++[Edge.mk nm false])))):=⟨zh,zh,zh,by simp only[G1,HI];omega⟩
  have fail:Gn BZ 68 [.GN 0 0,I GY,I 27] ((((s.new (BI [.bool false,.nil])).set s.next (BI (Jv false (E++[Edge.mk nm true])))).new (BI [.bool false,.nil])).set (s.next+1) (BI (Jv false (E++[Edge.mk nm false])))) (λv219 AWz=>Sp 0 1 Q (.GN 2 0) (.GV (E.map A9)) AWz):=by
   obtain⟨r,e2,a2,I4,rfl,h2,_⟩:=(Ik (N:=N) (e:=e) (a:=a) GY 27 AA).pc;refine GI I4 rfl rfl (Kj hL.h0 rfl) rfl ?_;exact ACZ hQ lp (hL.ck e2 a2)
  cases r
  .refine zv ?_;refine⟨zc,?_⟩;refine zv ?_;exact fail
  .refine zv ?_;refine AYn Ac0 ?_;refine AWd VO ?_;simp only[MK,Jl];refine zv ?_;refine⟨zc,?_⟩;refine AT6 ?_ λ_=>ACZ hQ lp hL;refine zv ?_;exact fail
 refine zv ?_;obtain⟨k,hk⟩:=AHs (N:=N) (Q:=Q) (K:=K) (bk:=bk) (xr:=QE f s1 nm tk tl i m GP GY) hQ rfl AaI hKE (nb:=s.next) AA K.length;exact⟨k,hk 0 e a _ [.bool true,.nil] true [] AA AA AA ⟨zh,zh,zh,by simp only[G1,HI];omega⟩ zh (.inr ⟨rfl,rfl⟩) AD⟩
def AG1(hV:V.length<=100000)(Rk:∀v∈V,v.Ga.length<=17)(hK:e=0->K.length=GP.length)(Qz:Zz f GP.length)(hKE:∀k∈K,k.2.length<=18)(Tq:f=2\/f=9\/f=10->Kv (V.map Ao) nm=true)(hQ:Q73 N Q)
  (h:tn N e a (QE f s1 nm tk tl i m GP GY) s):mK 0 1 Q (.GN 0 0) (.GV (V.map Am)) (.GN 1 0) (.GN 2 0) (.HL bk (K.map Ow)) s:=by
 have Ls:=h.h0;have jh:=h.h1;have h22:=h.h2;unfold mK;refine zv ?_;refine GF (λhb=>?_) λhb=>?_
 .exact Agd
 have he:e=0:=by simpa using hb
 have key:=AG0 (bk:=bk) hV Rk (hK he) Qz hKE Tq hQ h;refine zv ?_;cases g1:(f==1)
 case true=>
  rw[g1,Du]at key;exact ct key
 refine zv ?_;rw[g1,Di]at key;exact key
def th(N:List GO)(V:List Ge)(x:Gw):Prop:=∀e a,CF N 73 [.agg x.GG,.GV (V.map Am)] e a λr _ _=>QCk r
structure AOq (N:List GO) (e a:Int) (xr:List PV) (T:List (Bool×List Edge)) (eo:Nat) (s:St):Prop where
 i:tn N e a xr s
 h3:s.heap 3=some (.HE (T.map Ow).length eo)
 ho:T.map Ow=[]\/eo=2
def ACI(hV:V.length<=100000)(Rk:∀v∈V,v.Ga.length<=17){x:Gw}(hw:x.WF):OM N (V.map Ao) nd x->th N V x:=by
 induction hw with
 |mk f s1 nm tk tl i m GP GY Qz hf hs td ht hk ih=>
 intro bM e a;obtain⟨Tq,Tk,xo,rR⟩:=bM.K5;have fQ:GP.length<=100000:=Qz.2.2.2.2;have jr:(BB GP).length=GP.length:=by rw[Gw.Iu,Bb]
 have hQ:Q73 N (λr c=>∃e' a',c=[ck N e' a']/\QCk r):=λr e' a' h=>⟨e',a',rfl,h⟩
 have done:∀(k:Nat) (e1 a1:Int) (j:Int) (T:List (Bool×List Edge)) (eo:Nat) (s:St),0<=j->¬(j<GP.length/\e1=0)->j<=GP.length->(T.length:Int)=j->(∀t∈T,t.2.length<=18)->AOq N e1 a1 (QE f s1 nm tk tl i m GP GY) T eo s->
   aX 0 1 (λr c=>∃e' a',c=[ck N e' a']/\QCk r) (k+1) (.GN 0 0) (.GV (V.map Am)) (.GN 1 0) (.GN 2 0) (.HL 3 (T.map Ow)) (I j) s:=by
  intro k e1 a1 j T eo s h0 Iz h1 hT Pu h;have Ls:=h.i.h0;have jh:=h.i.h1;show Wb _ _ _ _ _ _ _ _ _ _ _;unfold Wb;refine zv ?_;refine IU zh ?_;refine AT7 (λh9=>?_) ?_
  .exact Aeq
  .exact AG1 hV Rk (λh=>by have:¬j<GP.length:=λh2=>Iz ⟨h2,h⟩;omega) Qz Pu Tq hQ h.i
 have loop:∀c:Nat,∃k,∀(e1 a1:Int) (j:Int) (T:List (Bool×List Edge)) (eo:Nat) (s:St),0<=j->j<=GP.length->GP.length-j<=c->(T.length:Int)=j->(∀t∈T,t.2.length<=18)->AOq N e1 a1 (QE f s1 nm tk tl i m GP GY) T eo s->
   aX 0 1 (λr c=>∃e' a',c=[ck N e' a']/\QCk r) k (.GN 0 0) (.GV (V.map Am)) (.GN 1 0) (.GN 2 0) (.HL 3 (T.map Ow)) (I j) s:=by
  intro c
  induction c with
  |zero=>exact⟨1,λe1 a1 j T eo s h0 h1 hc hT Pu h=>done 0 e1 a1 j T eo s h0 AA h1 hT Pu h⟩
  |succ c Xy=>
   obtain⟨k,Xy⟩:=Xy;refine⟨k+1,λe1 a1 j T eo s h0 h1 hc hT Pu h=>?_⟩;by_cases Iz:j<GP.length/\e1=0
   case neg=>exact done k e1 a1 j T eo s h0 Iz h1 hT Pu h
   obtain⟨G7,Nl⟩:=Iz;have OH:=AZi j;have Jr:GP[j.toNat]' AA∈GP:=Bl _;obtain⟨r,e2,a2,IE,b,E,rfl,lp⟩:=((ih _ Jr (rR _ Jr)) e1 a1).pc;have Ls:=h.i.h0;have jh:=h.i.h1;have h22:=h.i.h2;have h33:=h.h3;have ADM:=h.i.lt;show Wb _ _ _ _ _ _ _ _ _ _ _;unfold Wb;refine zv ?_;refine IU zh ?_;refine AT6 ?_ λh9=>?_
   case refine_2=>simp[Nl,jr]at h9;omega
   refine zv ?_;refine Fy Abf ?_;refine Fy AcT ?_;refine ATj IE (KX rfl) rfl AbQ rfl ?_;refine pQ_v (Jp rfl rfl (G4 AB AA) (HQ zk) zh (h.ho.imp (λh=>by rw[h];rfl) λh=>h.symm)) ?_;rw[OH];have L7:T.map Ow++[Ow (b,E)]=(T++[(b,E)]).map Ow:=by rw[Bu];rfl
   have h8:=Xy e2 a2 (j+1) (T++[(b,E)]) 2 ((s.set 0 (.box (ck N e2 a2))).set 3 (.HE ((T.map Ow).length+1) 2)) AA AA AA AB (by
    intro u hu;rcases Bf.1 hu with h|h
    .exact Pu u h
    .rw[By.1 h];exact lp) ⟨⟨zh,zh,zh,ADM⟩,AZq,.inr rfl⟩
   rw[<- L7]at h8;exact h8
 obtain⟨k,Jm⟩:=loop GP.length;refine ALE 0 rfl _ _ _ ?_;unfold c73;refine pQ_v AcJ ?_;exact⟨k,Jm e a 0 [] 0 _ AA AA AA rfl AD ⟨⟨zh,zh,zh,by simp[G1,IG]⟩,zh,.inl rfl⟩⟩
end
end
section
open Go.Proofs
def ACi{l:List Gw}{q:Nat}(h:q<l.length):l[q].wt+Gw.HS (l.drop (q+1))=Gw.HS (l.drop q):=by rw[Bt h];simp[Gw.HS]
def Ri{x:Gw}:JA [.agg x.GG] 0=some ([.agg x.GG],[]):=by simp[JA,PV.lI,x.JC]
attribute [local irreducible] iS mJ cx cq
section
variable{N:List GO} {V:List Ge} {S:List BA} {nd:Int}
def AIl{x:Gw}(hw:x.WF):OM N S nd x->x.wt<=20000->∃U:List BA,PC BZ 72 [.agg x.GG] [] (.HL 1 (U.map GC)) []/\U.length<=x.wt/\∀w∈U,Kv S w=true:=by
 induction hw with
 |mk f s1 nm tk tl i m GP GY Qz hf hs td ht hk ih=>
 intro bM Pv;obtain⟨Tq,Tk,xo,rR⟩:=bM.K5;simp only[Gw.wt]at Pv⊢;have fQ:GP.length<=100000:=Qz.2.2.2.2;have jr:(BB GP).length=GP.length:=by rw[Gw.Iu,Bb]
 have loop:∀(W:Nat),W<=20000->∀(c:Nat) (j:Int) (U:List BA),0<=j->j<=GP.length->GP.length-j<=c->U.length+Gw.HS (GP.drop j.toNat)<=W->(∀w∈U,Kv S w=true)->∃k,∀(eo:Nat) (s:St),s.heap 0=some (.box (QE f s1 nm tk tl i m GP GY))->s.heap 2=some (.HE (U.map GC).length eo)->(U.map GC=[]\/eo=1)->2<s.next->
   oN 1 0 (λr c=>c=[]/\∃U:List BA,r=.HL 1 (U.map GC)/\U.length<=W/\∀w∈U,Kv S w=true) k (.GN 0 0) (.HL 2 (U.map GC)) (I j) s:=by
  intro W hW c
  induction c with
  |zero=>
   intro j U h0 h1 hc hU hUS;exact Ad0
  |succ c Xy=>
   intro j U h0 h1 hc hU hUS;by_cases G7:j<GP.length
   case neg=>
    exact Ad0
   have OH:=AZi j;have Jr:GP[j.toNat]' AA∈GP:=Bl _;have hwm:=ACi (l:=GP) (q:=j.toNat) AA;obtain⟨U1,IE,hU1,AUY⟩:=ih _ Jr (rR _ Jr) AA;obtain⟨k,Jm⟩:=Xy (j+1) (U++U1) AA AA AA (by rw[show(j+1).toNat=j.toNat+1 by omega,Bd];omega) λw hw=>(Bf.1 hw).elim (hUS w) (AUY w);rw[Bu]at Jm;refine⟨k+1,λeo s hx h2 ho hl=>?_⟩;show UO _ _ _ _ _ _ _ _;unfold UO;refine zv ?_;refine AT6 ?_ λh9=>?_
   case refine_2=>have:=Zy h9;rw[jr]at this;omega
   refine zv ?_;refine Fy Abf ?_;refine Fy AcT ?_;refine GI IE Ri rfl rfl rfl ?_;simp only[KB,Jl];refine pQ_v Abl ?_;rw[OH];exact Jm 1 _ zh AaP (.inr rfl) AZn
 have:PQ BZ 72 [.agg (Gw.mk f s1 nm tk tl i m GP GY).GG] [] (λr c=>c=[]/\∃U:List BA,r=.HL 1 (U.map GC)/\U.length<=(if f=0 then 0 else 1)+Gw.HS GP/\∀w∈U,Kv S w=true):=by
  refine ALD 1 rfl _ ?_;unfold c72;simp only[Gw.GG];refine zv ?_;refine eG (GG:=QE f s1 nm tk tl i m GP GY) rfl rfl ?_;refine eG (GG:=QE f s1 nm tk tl i m GP GY) rfl rfl ?_;refine AT7 (λh9=>?_) ?_
  .have Tl:f=2\/f=9\/f=10:=by simp at h9;omega
   have hh:=Tq Tl;have hf0:¬f=0:=AA;rw[Ng hf0];rw[Ng hf0]at Pv;obtain⟨k,Jm⟩:=loop (1+Gw.HS GP) Pv GP.length 0 [nm] AA AA AA AD (by simpa using hh);refine zv ?_;refine pQ_v AcF ?_;unfold mJ;exact⟨k,Jm 1 _ zh zh (.inr rfl) (by simp[G1,HI,IG])⟩
  .obtain⟨k,Jm⟩:=loop ((if f=0 then 0 else 1)+Gw.HS GP) Pv GP.length 0 [] AA AA AA AD AD;unfold mJ;exact⟨k,Jm 0 _ zh zh (.inl rfl) (by simp[G1,IG])⟩
 obtain⟨r,c,IE,rfl,U,rfl,h1,h2⟩:=this;exact⟨U,IE,h1,h2⟩
def Zd(hV:V.length<=100000)(Rk:∀v∈V,v.Ga.length<=17){U O:List BA}(hU:U.length<=100000)(hO:O.length<=100000)(hUV:∀w∈U,Kv (V.map Ao) w=true)(GY:Int)(e a:Int):
  CF N 71 [.GV (U.map GC),.GV (V.map Am),.GV (O.map GC),I GY] e a λr _ _=>r=.tuple []:=by
 have done:∀(k:Nat) (j e a:Int) (s:St),0<=j->¬(j<U.length/\e=0)->s.heap 0=some (.box (ck N e a))->
   iQ 0 1 (λr c=>∃e' a',c=[ck N e' a']/\r=.tuple []) (k+1) (.GN 0 0) (.GV (U.map GC)) (.GV (V.map Am)) (.GV (O.map GC)) (I GY) (I j) s:=by
  intro k j e a s h0 Iz h;show iR _ _ _ _ _ _ _ _ _ _ _;unfold iR;exact Ahj
 have loop:∀c:Nat,∃k,∀(j e a:Int) (s:St),0<=j->j<=U.length->U.length-j<=c->s.heap 0=some (.box (ck N e a))->
   iQ 0 1 (λr c=>∃e' a',c=[ck N e' a']/\r=.tuple []) k (.GN 0 0) (.GV (U.map GC)) (.GV (V.map Am)) (.GV (O.map GC)) (I GY) (I j) s:=by
  intro c
  induction c with
  |zero=>exact⟨1,λj e a s h0 h1 hc h=>done 0 j e a s h0 AA h⟩
  |succ c ih=>
   obtain⟨k,ih⟩:=ih;refine⟨k+1,λj e a s h0 h1 hc h=>?_⟩;by_cases Iz:j<U.length/\e=0
   case neg=>exact done k j e a s h0 Iz h
   obtain⟨G7,he⟩:=Iz;have OH:=AZi j;have Gl:=Lc h0 G7;have Wt:=hUV (U[j.toNat]' AA) (Bl _);generalize U[j.toNat]' AA=w at Gl Wt;obtain⟨E,hE,lp⟩:=Oj hV Rk Wt
   have next:∀(e a:Int) (s:St),s.heap 0=some (.box (ck N e a))->cx 0 1 (λr c=>∃e' a',c=[ck N e' a']/\r=.tuple []) (iQ 0 1 (λr c=>∃e' a',c=[ck N e' a']/\r=.tuple []) k) (.GN 0 0) (.GV (U.map GC)) (.GV (V.map Am)) (.GV (O.map GC)) (I GY) (I j) s:=by
    intro e a s h;unfold cx;exact AhJ
   show iR _ _ _ _ _ _ _ _ _ _ _;unfold iR;refine zv ?_;refine IU zh ?_;refine AT6 ?_ λh9=>?_
   case refine_2=>simp[he]at h9;omega
   refine pQ_v AcE ?_;refine AZb (Ly O w AA) ?_;cases hh:Kv O w
   .refine zv ?_;refine AYo AcE ?_;refine AWe hE ?_;refine AT6 ?_ λ_=>next e a s h;obtain⟨r,e2,a2,I4,rfl,h2,_⟩:=(Ik (N:=N) (e:=e) (a:=a) GY 27 AA).pc;exact Agu
   .refine zv ?_;exact next e a s h
 obtain⟨k,hk⟩:=loop U.length;refine ALC 0 rfl _ _ _ _ _ ?_;unfold c71;exact⟨k,hk 0 e a _ AA AA AA zh⟩
def rE(hV:V.length<=100000)(Rk:∀v∈V,v.Ga.length<=17){l:List Ge}(hl:l.length<=100000)(Pq:∀v∈l,v.Ga.length<=17)(hc:∀v∈l,QU (V.map Ao) v)(e a:Int):
  CF N 41 [.GV (l.map Am),.GV (V.map Am)] e a λr _ _=>r=.tuple []:=by
 have ev:∀{Q:PV->LLP->Prop} (w:PV->PV->PV->F1) (i:Int) (cK:0<=i) (hi:i<l.length) (v:Ge) (Gl:(l.map Am)[i.toNat]?=some v.GG) (HM:v.Ga.length<=17) (lO:QU (V.map Ao) v),(∀e a s,s.heap 0=some (.box (ck N e a))->w (.GN 0 0) (.GV (l.map Am)) (.GV (V.map Am)) (I (i+1)) s)->
   ∀c:Nat,∃k,∀(j e a:Int) (s:St),0<=j->j<=v.Ga.length->v.Ga.length-j<=c->s.heap 0=some (.box (ck N e a))->iF 0 1 Q w k (.GN 0 0) (.GV (l.map Am)) (.GV (V.map Am)) (I i) (I j) s:=by
  intro Q w i cK hi v Gl HM lO SY;have Zt:=AZi i
  have out:∀e a s,s.heap 0=some (.box (ck N e a))->cq 0 1 Q w (.GN 0 0) (.GV (l.map Am)) (.GV (V.map Am)) (I i) s:=by
   intro e a s h;unfold cq;refine zv ?_;rw[Zt];exact SY e a s h
  have done:∀(j e a:Int) (s:St) (k:Nat),0<=j->j=v.Ga.length->s.heap 0=some (.box (ck N e a))->iF 0 1 Q w (k+1) (.GN 0 0) (.GV (l.map Am)) (.GV (V.map Am)) (I i) (I j) s:=by
   intro j e a s k h0 hj h;show aP _ _ _ _ _ _ _ _ _ _ _;unfold aP;refine pQ_v Abb ?_;refine GF (λh9=>?_) λ_=>out e a s h;exact Adb
  intro c
  induction c with
  |zero=>exact⟨1,λj e a s h0 h1 hc h=>done j e a s 0 h0 AA h⟩
  |succ c ih=>
   obtain⟨k,ih⟩:=ih;refine⟨k+1,λj e a s h0 h1 hc h=>?_⟩;by_cases G7:j<v.Ga.length
   case neg=>exact done j e a s k h0 AA h
   have OH:=AZi j;have OX:=Xi h0 G7;have Wt:=lO (v.Ga[j.toNat]' AA) (Bl _);generalize v.Ga[j.toNat]' AA=g at OX Wt;obtain⟨E,hE,lp⟩:=Oj hV Rk Wt;obtain⟨r,hr⟩:=p6 E (v.Ga.take j.toNat) AA;show aP _ _ _ _ _ _ _ _ _ _ _;unfold aP;refine pQ_v Abb ?_;refine AT6 ?_ λh9=>?_
   case refine_2=>have:=Zy h9;rw[Bb]at this;omega
   refine AZc Abb ?_;refine AZc AdK ?_;refine AWd hE ?_;refine AZc Abb ?_;refine GR (ya (r1:=[I j]) (r2:=[]) (a:=none) (c:=some j.toNat) rfl rfl Aas AB AD (HQ uj)) ?_
   have La:((v.Ga.map A9).drop ((none:ON).getD 0)).take ((some j.toNat).getD (v.Ga.map A9).length-(none:ON).getD 0)=(v.Ga.take j.toNat).map A9:=by
    simp[List.map_take]
   rw[La];refine AWe hr ?_;refine⟨zc,?_⟩;refine AT5 ?_ ?_
   .refine pQ_v Abb ?_;obtain⟨r,e2,a2,I4,rfl,h2,_⟩:=(Ik (N:=N) (e:=e) (a:=a) v.GY 27 AA).pc;refine GI I4 rfl rfl AbQ rfl ?_;exact out e2 a2 _ zh
   .refine zv ?_;rw[OH];exact ih _ e a _ AA AA AA h
 have sX:∀c:Nat,∃k,∀(i e a:Int) (s:St),0<=i->i<=l.length->l.length-i<=c->s.heap 0=some (.box (ck N e a))->
   ea 0 1 (λr c=>∃e' a',c=[ck N e' a']/\r=.tuple []) k (.GN 0 0) (.GV (l.map Am)) (.GV (V.map Am)) (I i) s:=by
  have done:∀(i e a:Int) (s:St) (k:Nat),0<=i->¬(i<l.length/\e=0)->s.heap 0=some (.box (ck N e a))->
    ea 0 1 (λr c=>∃e' a',c=[ck N e' a']/\r=.tuple []) (k+1) (.GN 0 0) (.GV (l.map Am)) (.GV (V.map Am)) (I i) s:=by
   intro i e a s k h0 Iz h;show iE _ _ _ _ _ _ _ _ _;unfold iE;exact Ahj
  intro c
  induction c with
  |zero=>exact⟨1,λi e a s h0 h1 hc h=>done i e a s 0 h0 AA h⟩
  |succ c ih=>
   obtain⟨k,ih⟩:=ih;refine⟨k+1,λi e a s h0 h1 er h=>?_⟩;by_cases Iz:i<l.length/\e=0
   case neg=>exact done i e a s k h0 Iz h
   obtain⟨G7,he⟩:=Iz;have hm:l[i.toNat]' AA∈l:=Bl _;obtain⟨k2,Jm⟩:=ev (Q:=λr c=>∃e' a',c=[ck N e' a']/\r=.tuple []) (ea 0 1 _ k) i h0 G7 _ (Io h0 G7) (Pq _ hm) (hc _ hm) (λe a s h=>ih (i+1) e a s AA AA AA h) (l[i.toNat]' AA).Ga.length;show iE _ _ _ _ _ _ _ _ _;unfold iE;exact Aef
 refine AKx 0 rfl _ _ _ ?_;unfold c41;exact Agk
end
end
section
open Go.Proofs
structure ng (N:List GO) (V:List Ge) (x:Gw):Prop where
 AW9:∃U:List ByteArray,PC BZ 72 [.agg x.GG] [] (.HL 1 (U.map GC)) []/\U.length<=20000/\∀w∈U,Kv (V.map Ao) w=true
 Ga:th N V x
attribute [local irreducible] cw
section
variable{N:List GO} {V:List Ge}
def mP(hV:V.length<=100000)(Rk:∀v∈V,v.Ga.length<=17){O:List BA}(hO:O.length<=100000){l:List Gj}(hl:l.length<=100000)(ho:∀t∈l,ng N V t.cond)(e a:Int):CF N 70 [.GV (l.map Aw),.GV (V.map Am),.GV (O.map GC)] e a λr _ _=>r=.tuple []:=by
 have done:∀(k:Nat) (i e a:Int) (s:St),0<=i->¬(i<l.length/\e=0)->Vc N e a s->
   iO 0 1 (λr c=>∃e' a',c=[ck N e' a']/\r=.tuple []) (k+1) (.GN 0 0) (.GV (l.map Aw)) (.GV (V.map Am)) (.GV (O.map GC)) (I i) s:=by
  intro k i e a s h0 Iz h;have Ls:=h.h0;show iP _ _ _ _ _ _ _ _ _ _;unfold iP;exact Ahj
 have loop:∀(c:Nat),∃k,∀(i e a:Int) (s:St),0<=i->i<=l.length->l.length-i<=c->Vc N e a s->
   iO 0 1 (λr c=>∃e' a',c=[ck N e' a']/\r=.tuple []) k (.GN 0 0) (.GV (l.map Aw)) (.GV (V.map Am)) (.GV (O.map GC)) (I i) s:=by
  intro c
  induction c with
  |zero=>exact⟨1,λi e a s h0 h1 hc h=>done 0 i e a s h0 AA h⟩
  |succ c ih=>
   obtain⟨k,ih⟩:=ih;refine⟨k+1,λi e a s h0 h1 hc h=>?_⟩;by_cases Iz:i<l.length/\e=0
   case neg=>exact done k i e a s h0 Iz h
   obtain⟨G7,he⟩:=Iz;have Zt:=AZi i;have Gl:=SM h0 G7;obtain⟨⟨U,hU,hUl,hUS⟩,lO⟩:=ho (l[i.toNat]' AA) (Bl _);generalize l[i.toNat]' AA=t at Gl hU lO;obtain⟨r,e1,a1,IE,rfl⟩:=(Zd (N:=N) hV Rk (U:=U) (O:=O) AA hO hUS t.GY e a).pc;obtain⟨r,e2,a2,I4,b,E,rfl,lp⟩:=(lO e1 a1).pc
   have next:∀(e a:Int) (s:St),Vc N e a s->cw 0 1 (λr c=>∃e' a',c=[ck N e' a']/\r=.tuple []) (iO 0 1 (λr c=>∃e' a',c=[ck N e' a']/\r=.tuple []) k) (.GN 0 0) (.GV (l.map Aw)) (.GV (V.map Am)) (.GV (O.map GC)) (I i) s:=by
    intro e a s h;unfold cw;refine zv ?_;rw[Zt];exact ih _ e a s AA AA AA h
   have Ls:=h.h0;have hl0:=h.lt;show iP _ _ _ _ _ _ _ _ _ _;unfold iP;refine zv ?_;refine IU zh ?_;refine AT6 ?_ λh9=>?_
   case refine_2=>simp[he]at h9;omega
   refine AZc AbZ ?_;refine GR (MB t.cut) ?_;refine Gy hU Ri rfl rfl rfl ?_;simp only[KB,Jl];refine AZc AbZ ?_;refine GR (Hg t.wF) ?_;refine Gy IE rfl rfl AbQ rfl ?_;simp only[Gx,MQ];refine⟨?_,?_⟩
   .simp only[G1,HI,dN,M5,OY,CC,CG];simp[Hl,IA,Iy];exactλ_=>by omega
   refine zv ?_;refine GF (λ_=>GW rfl rfl AbQ ⟨_,_,rfl,rfl⟩) λ_=>?_;refine pQ_v AbZ ?_;refine Fy (MB t.cut) ?_;refine GI I4 (KX rfl) rfl AbQ rfl ?_;simp only[ND,MQ];unfold Jv;refine zv ?_;have hL:Vc N e2 a2 (((((s.new (Obj.HE (U.map GC).length 1)).set 0 (BI (ck N e1 a1))).set 0 (BI (ck N e2 a2))).new (BI [.bool false,.nil])).set (s.next+1) (BI (Jv b E))):=⟨zh,by simp only[G1,HI];omega⟩
   cases hg:(e2==0)
   .refine zv ?_;exact next e2 a2 _ hL
   cases b
   .refine zv ?_;refine AT6 ?_ λ_=>next e2 a2 _ hL;refine pQ_v AbZ ?_;refine Fy (Hg t.wF) ?_;obtain⟨r,e3,a3,TJ,rfl,h3,_⟩:=(Ik (N:=N) (e:=e2) (a:=a2) t.GY 27 AA).pc;refine GI TJ rfl rfl (Kj hL.h0 rfl) rfl ?_;exact next e3 a3 _ ⟨A4,hL.lt⟩
   .refine zv ?_;exact next e2 a2 _ hL
 refine ALB 0 rfl _ _ _ _ ?_;unfold c70;obtain⟨k,hk⟩:=loop l.length;exact Afu
end
end
section
open Go.Proofs
attribute [local irreducible] TC PK TD UK RH Sk
section
variable{N:List GO} {V:List Ge} {Q:PV->LLP->Prop} {l:List Item} {x:Item} {i:Int} {Ut:Bool} {O:List BA}
def W42(V:List Ge)(Q:PV->LLP->Prop)(l:List Item)(Ut:Bool)(O:List BA)(K:Nat)(i:Int)(s:St):Prop:=JX 0 1 Q K (.GN 0 0) (.GV (l.map Aq)) (.GV (V.map Am)) (.bool Ut) (.GV (O.map GC)) (I i) s
def vi(hi:0<=i)(Ml:i<=100000){K:Nat}(ID:∀e a s,Vc N e a s->W42 V Q l Ut O K (i+1) s){e a:Int}{s:St}(h:Vc N e a s):TC 0 1 Q (JX 0 1 Q K) (.GN 0 0) (.GV (l.map Aq)) (.GV (V.map Am)) (.bool Ut) (.GV (O.map GC)) (I i) s:=by have Zt:=AZi i;unfold TC;refine zv ?_;rw[Zt];exact ID e a s h
def AD4(hV:V.length<=100000)(Rk:∀v∈V,v.Ga.length<=17)(hi:0<=i)(Ml:i<=100000){K:Nat}(ID:∀e a s,Vc N e a s->W42 V Q l Ut O K (i+1) s)(Pr:x.GL.length<=100000)(Vh:∀w∈x.GL,Kv (V.map Ao) w=true){b:Bool}{E:List Edge}(hE:E.length<=18):
  ∀c:Nat,∃k,∀(j e a:Int) (bx bt:Nat) (s:St),0<=j->j<=x.GL.length->x.GL.length-j<=c->nj N e a bx x.GG s->s.heap bt=some (.box (Jv b E))->bt≠0->
   Sl 0 1 Q (JX 0 1 Q K) k (.GN 0 0) (.GV (l.map Aq)) (.GV (V.map Am)) (.bool Ut) (.GV (O.map GC)) (I i) (.GN bx 0) (.GN bt 0) (I j) s:=by
 have done:∀(k:Nat) (j e a:Int) (bx bt:Nat) (s:St),0<=j->¬(j<x.GL.length/\e=0)->nj N e a bx x.GG s->
   Sl 0 1 Q (JX 0 1 Q K) (k+1) (.GN 0 0) (.GV (l.map Aq)) (.GV (V.map Am)) (.bool Ut) (.GV (O.map GC)) (I i) (.GN bx 0) (.GN bt 0) (I j) s:=by
  intro k j e a bx bt s h0 Iz h;have Ls:=h.h0;have dt:=h.hx;have G7:=h.lt;show WL _ _ _ _ _ _ _ _ _ _ _ _ _ _ _;unfold WL;refine zv ?_;refine pQ_v Abp ?_;refine IU zh ?_;refine GF (λh9=>?_) (λ_=>vi hi Ml ID (e:=e) (a:=a) ⟨h.h0,AA⟩);exact AdV
 intro c
 induction c with
 |zero=>exact⟨1,λj e a bx bt s h0 h1 hc h hb rN=>done 0 j e a bx bt s h0 AA h⟩
 |succ c ih=>
  obtain⟨k,ih⟩:=ih;refine⟨k+1,λj e a bx bt s h0 h1 hc h hb rN=>?_⟩;by_cases Iz:j<x.GL.length/\e=0
  case neg=>exact done k j e a bx bt s h0 Iz h
  obtain⟨G7,he⟩:=Iz;have OH:=AZi j;have mw:=Lc h0 G7;have Jn:=Lc (S:=x.GL) (i:=0) AA AA;have Wt:=Vh (x.GL[j.toNat]' AA) (Bl _);have AJc:=Vh (x.GL[(0:Int).toNat]' AB) (Bl _);generalize x.GL[j.toNat]' AA=w at mw Wt;generalize x.GL[(0:Int).toNat]' AB=w0 at Jn AJc;obtain⟨E1,hE1,hE1l⟩:=Oj hV Rk Wt;obtain⟨E0,hE0,hE0l⟩:=Oj hV Rk AJc;obtain⟨r,hr⟩:=XF b false E E1 AA;obtain⟨r2,ju⟩:=p6 E1 E0 AA
  have next:∀(e a:Int) (s:St),nj N e a bx x.GG s->s.heap bt=some (.box (Jv b E))->PK 0 1 Q (JX 0 1 Q K) (Sl 0 1 Q (JX 0 1 Q K) k) (.GN 0 0) (.GV (l.map Aq)) (.GV (V.map Am)) (.bool Ut) (.GV (O.map GC)) (I i) (.GN bx 0) (.GN bt 0) (I j) s:=by
   intro e a s h hb;unfold PK;refine zv ?_;rw[OH];exact ih _ e a bx bt s AA AA AA h hb rN
  have Ls:=h.h0;have dt:=h.hx;have Tt:=h.x0;have L0:=hb;unfold Jv at L0
  have fail:Gn BZ 68 [.GN 0 0,I x.GY,I 27] s (λv254 AW0=>PK 0 1 Q (JX 0 1 Q K) (Sl 0 1 Q (JX 0 1 Q K) k) (.GN 0 0) (.GV (l.map Aq)) (.GV (V.map Am)) (.bool Ut) (.GV (O.map GC)) (I i) (.GN bx 0) (.GN bt 0) (I j) AW0):=by
   obtain⟨r,e2,a2,I4,rfl,h2,_⟩:=(Ik (N:=N) (e:=e) (a:=a) x.GY 27 AA).pc;refine GI I4 rfl rfl AbQ rfl ?_;exact next e2 a2 _ (h.ck e2 a2) ((Ar rN).trans hb)
  show WL _ _ _ _ _ _ _ _ _ _ _ _ _ _ _;unfold WL;refine zv ?_;refine pQ_v Abp ?_;refine IU zh ?_;refine AT6 ?_ λh9=>?_
  case refine_2=>simp[he]at h9;omega
  refine zv ?_;refine GR Abp ?_;refine AZc (Gk h0 mw rfl) ?_;refine AWd hE1 ?_;simp only[Ld,Jl];refine zv ?_;refine AWd hr ?_;simp only[MK,Jl];refine zv ?_;cases r
  .refine zv ?_;refine⟨zc,?_⟩;refine zv ?_;refine Fy AcS ?_;exact fail
  .refine zv ?_;refine AYn Abp ?_;refine AYn (Gk h0 mw rfl) ?_;refine AWd hE1 ?_;simp only[Ld,Jl];refine zv ?_;refine KS Abp ?_;refine AYn (Gk AA Jn rfl) ?_;refine AWd hE0 ?_;simp only[Ld,Jl];refine zv ?_;refine AWd ju ?_;simp only[MK,Jl];refine zv ?_;refine⟨zc,?_⟩;refine AT6 ?_ λ_=>next e a s h hb;refine zv ?_;refine Fy AcS ?_;exact fail
end
end
section
open Go.Proofs
attribute [local irreducible] TC PK TD UK RH Sk
section
variable{N:List GO} {V:List Ge} {Q:PV->LLP->Prop} {l:List Item} {x:Item} {i:Int} {Ut:Bool} {O:List BA}
def ADo(hV:V.length<=100000)(Rk:∀v∈V,v.Ga.length<=17)(hi:0<=i)(Ml:i<=100000){K:Nat}(ID:∀e a s,Vc N e a s->W42 V Q l Ut O K (i+1) s)(hQ:∀e' a',Q (.tuple []) [ck N e' a'])(Pr:x.GL.length<=100000)(Vh:∀w∈x.GL,Kv (V.map Ao) w=true)(lO:th N V x.e){e a:Int}{bx:Nat}{s:St}(h:nj N e a bx x.GG s):
  TD 0 1 Q (JX 0 1 Q K) (.GN 0 0) (.GV (l.map Aq)) (.GV (V.map Am)) (.bool Ut) (.GV (O.map GC)) (I i) (.GN bx 0) s:=by
 have Ls:=h.h0;have dt:=h.hx;have Tt:=h.x0;have G7:=h.lt;obtain⟨r,e2,a2,I4,b,E,rfl,lp⟩:=(lO e a).pc;obtain⟨k,hk⟩:=AD4 (x:=x) (Q:=Q) (b:=b) (E:=E) hV Rk hi Ml ID Pr Vh lp x.GL.length;unfold TD;refine zv ?_;refine GF (λ_=>GW rfl rfl AbQ (hQ _ _)) λ_=>?_;refine zv ?_;refine Fy Ace ?_;refine GI I4 (KX rfl) rfl AbQ rfl ?_;simp only[ND,MQ];unfold Jv;refine zv ?_;refine⟨k,hk 0 e2 a2 bx s.next _ AA AA AA ⟨zh,zh,Tt,by simp only[G1,HI];omega⟩ zh AA⟩
def AHj(hV:V.length<=100000)(Rk:∀v∈V,v.Ga.length<=17)(hi:0<=i)(Ml:i<=100000){K:Nat}(ID:∀e a s,Vc N e a s->W42 V Q l Ut O K (i+1) s)(hQ:∀e' a',Q (.tuple []) [ck N e' a'])(hO:O.length<=100000)(Pr:x.GL.length<=20000)
  (hx:x.GB=[]->(∀w∈x.GL,Kv (V.map Ao) w=true)/\ng N V x.e){e a:Int}{bx:Nat}{s:St}(h:nj N e a bx x.GG s):
  UK 0 1 Q (JX 0 1 Q K) (.GN 0 0) (.GV (l.map Aq)) (.GV (V.map Am)) (.bool Ut) (.GV (O.map GC)) (I i) (.GN bx 0) s:=by
 have Ls:=h.h0;have dt:=h.hx;have Tt:=h.x0;have G7:=h.lt;have hL:Vc N e a s:=⟨h.h0,AA⟩
 unfold UK;refine zv ?_;refine pQ_v Abu ?_;by_cases hs:x.GB=[]
 case neg=>
  have La:0<x.GB.length:=List.length_pos_iff.2 hs;rw[show decide (((x.GB.map A8).length:Int)>0)=true by simp;omega];refine zv ?_;exact vi hi Ml ID hL
 case pos=>
  obtain⟨Vh,hec⟩:=hx hs;obtain⟨U,hU,hUl,hUS⟩:=hec.AW9;rw[show decide (((x.GB.map A8).length:Int)>0)=false by rw[hs];rfl];refine zv ?_;refine GF (λ_=>vi hi Ml ID hL) λ_=>?_;cases Ut
  .refine cf ?_;exact ADo hV Rk hi Ml ID hQ AA Vh hec.Ga h
  .refine ct ?_;refine zv ?_;refine GR Ace ?_;refine Gy hU Ri rfl rfl rfl ?_;simp only[KB,Jl];refine zv ?_;refine GR Abp ?_;refine GR AbY ?_;rw[<- Bu];refine zv ?_;refine GR AcS ?_;obtain⟨r,e1,a1,IE,rfl⟩:=(Zd (N:=N) hV Rk (U:=U++x.GL) (O:=O) AB hO (λw hw=>(Bf.1 hw).elim (hUS w) (Vh w)) x.GY e a).pc;refine Gy IE rfl rfl AbQ rfl ?_;simp only[Gx,MQ];refine⟨?_,?_⟩
   .simp only[G1,HI,dN,M5,OY,CC,CG];simp[Hl,IA,Iy];exact⟨λ_=>by omega,λ_=>by omega,⟨λ_=>by omega,by kernel_rfl,λ_=>by omega⟩,⟨λ_=>by omega,λ_=>by omega⟩,λ_=>by omega,λ_=>by omega,λ_=>by omega,λ_=>by omega,λ_=>by omega⟩
   exact ADo hV Rk hi Ml ID hQ AA Vh hec.Ga (e:=e1) (a:=a1) ⟨zh,zh,Tt,by simp only[G1,HI];omega⟩
end
end
section
open Go.Proofs
structure L42 (N:List GO) (e a:Int) (bx:Nat) (GG:List PV) (bs:Nat) (Pl:List PV) (s:St):Prop where
 i:nj N e a bx GG s
 hs:s.heap bs=some (.box Pl)
 s0:bs≠0
def L42.ck{N:List GO}{e a:Int}{bx:Nat}{GG:LP}{bs:Nat}{Pl:LP}{s:St}(h:L42 N e a bx GG bs Pl s)(e' a':Int):L42 N e' a' bx GG bs Pl (s.set 0 (.box (ck N e' a'))):=⟨h.i.ck e' a',(Ar h.s0).trans h.hs,h.s0⟩
def Zv(N:List GO)(V:List Ge)(l:List Item):Prop:=∀(Ut:Bool) (O:List BA),O.length<=100000->∀e a,CF N 42 [.GV (l.map Aq),.GV (V.map Am),.bool Ut,.GV (O.map GC)] e a λr _ _=>r=.tuple []
structure ABc (N:List GO) (V:List Ge) (st:GD):Prop where
 loc:st.GA.length<=20000
 AN8:st.JB.length<=100000
 AN9:st.Jg.length<=100000
 clk:∀v∈st.GA,QU ((V++st.GA).map Ao) v
 cl:∀v∈st.GA,v.Ga.length<=17
 JB:∀t∈st.JB,ng N V t.cond
 Jg:∀t∈st.Jg,ng N (V++st.GA) t.cond
 GQ:Zv N (V++st.GA) st.GQ
attribute [local irreducible] TC PK TD UK RH Sk
section
variable{N:List GO} {V W:List Ge} {Q:PV->LLP->Prop} {l:List Item} {i:Int} {Ut:Bool} {O:List BA} {GG:LP} {K k2:Nat}
def ALZ{nm:BA}{JB Jg:List Gj}{GA:List Ge}{GQ:List Item}{GY:Int}(hV:V.length<=100000)(Rk:∀v∈V,v.Ga.length<=17)(hM:GA.length<=20000)(Zs:Zv N V GQ)(hul:Jg.length<=100000)(hun:∀t∈Jg,ng N V t.cond){k:Int}(hk0:0<=k)(hk:k<=100000){bi bm:Nat}
  (ID:∀e a bx s,nj N e a bx GG s->LQ 0 1 Q (JX 0 1 Q K) k2 (.GN 0 0) (.GV (l.map Aq)) (.GV (W.map Am)) (.bool Ut) (.GV (O.map GC)) (I i) (.GN bx 0) (I (k+1)) s){e a:Int}{bx bs:Nat}{s:St}
  (h:L42 N e a bx GG bs [.Gh nm,.GV (JB.map Aw),.GV (Jg.map Aw),.GV (GA.map Am),.GV (GQ.map Aq),I GY] s):
  RH 0 1 Q (JX 0 1 Q K) (LQ 0 1 Q (JX 0 1 Q K) k2) (.GN 0 0) (.GV (l.map Aq)) (.GV (W.map Am)) (.bool Ut) (.GV (O.map GC)) (I i) (.GN bx 0) (I k) (.GN bs 0) (.HL bi (V.map Am)) (.HL bm ((GA.map Ao).map GC)) s:=by
 have hwk:=AZi k;obtain⟨r,e1,a1,Jy,rfl⟩:=(Zs true (GA.map Ao) AB e a).pc;obtain⟨r,e2,a2,I4,rfl⟩:=(mP (N:=N) hV Rk (O:=GA.map Ao) AB hul hun e1 a1).pc;have Ls:=h.i.h0;have lE:=h.hs;have gK:=h.s0;unfold RH;refine zv ?_;refine GI Jy rfl rfl AbQ rfl ?_;simp only[Gx,MQ];refine zv ?_;refine GI I4 rfl rfl AbQ rfl ?_;simp only[Gx,MQ];refine zv ?_;rw[hwk];exact ID e2 a2 bx _ ((h.ck e1 a1).ck e2 a2).i
def ALT{nm:BA}{JB Jg:List Gj}{GA:List Ge}{GQ:List Item}{GY:Int}(hV:V.length<=100000)(Rk:∀v∈V,v.Ga.length<=17)(hM:GA.length<=20000){AIp:PV->PV->PV->PV->PV->PV->PV->PV->PV->PV->PV->F1}{v:Ge}{j k:Int}(hj:0<=j)(hj2:j<=100000)(Gl:(GA.map Am)[j.toNat]?=some v.GG)(hvc:v.Ga.length<=17)(lO:QU (V.map Ao) v){bi bm bx bs:Nat}
  (ID:∀e a s,L42 N e a bx GG bs [.Gh nm,.GV (JB.map Aw),.GV (Jg.map Aw),.GV (GA.map Am),.GV (GQ.map Aq),I GY] s->AIp (.GN 0 0) (.GV (l.map Aq)) (.GV (W.map Am)) (.bool Ut) (.GV (O.map GC)) (I i) (.GN bx 0) (I k) (.GN bs 0) (.HL bi (V.map Am)) (.HL bm ((GA.map Ao).map GC)) (I (j+1)) s):
  ∀c:Nat,∃k3,∀(g e a:Int) (s:St),0<=g->g<=v.Ga.length->v.Ga.length-g<=c->L42 N e a bx GG bs [.Gh nm,.GV (JB.map Aw),.GV (Jg.map Aw),.GV (GA.map Am),.GV (GQ.map Aq),I GY] s->
   aQ 0 1 Q (JX 0 1 Q K) (LQ 0 1 Q (JX 0 1 Q K) k2) AIp k3 (.GN 0 0) (.GV (l.map Aq)) (.GV (W.map Am)) (.bool Ut) (.GV (O.map GC)) (I i) (.GN bx 0) (I k) (.GN bs 0) (.HL bi (V.map Am)) (.HL bm ((GA.map Ao).map GC)) (I j) (I g) s:=by
 have OH:=AZi j
 have done:∀(k3:Nat) (g e a:Int) (s:St),0<=g->g=v.Ga.length->L42 N e a bx GG bs [.Gh nm,.GV (JB.map Aw),.GV (Jg.map Aw),.GV (GA.map Am),.GV (GQ.map Aq),I GY] s->
   aQ 0 1 Q (JX 0 1 Q K) (LQ 0 1 Q (JX 0 1 Q K) k2) AIp (k3+1) (.GN 0 0) (.GV (l.map Aq)) (.GV (W.map Am)) (.bool Ut) (.GV (O.map GC)) (I i) (.GN bx 0) (I k) (.GN bs 0) (.HL bi (V.map Am)) (.HL bm ((GA.map Ao).map GC)) (I j) (I g) s:=by
  intro k3 g e a s h0 hg h;have lE:=h.hs;show WO _ _ _ _ _ _ _ _ _ _ _ _ _ _ _ _ _ _ _ _ _;unfold WO;refine zv ?_;refine pQ_v AdN ?_;refine AT7 (λh9=>?_) ?_
  .exact Adb
  .unfold Sk;refine zv ?_;rw[OH];exact ID e a s h
 intro c
 induction c with
 |zero=>exact⟨1,λg e a s h0 h1 hc h=>done 0 g e a s h0 AA h⟩
 |succ c ih=>
  obtain⟨k3,ih⟩:=ih;refine⟨k3+1,λg e a s h0 h1 hc h=>?_⟩;by_cases G7:g<v.Ga.length
  case neg=>exact done k3 g e a s h0 AA h
  have hwg:=AZi g;have AJl:=Xi h0 G7;have Wt:=lO (v.Ga[g.toNat]' AA) (Bl _);generalize v.Ga[g.toNat]' AA=u at AJl Wt;obtain⟨r,e1,a1,IE,rfl⟩:=(Zd (N:=N) hV Rk (U:=[u.name]) (O:=GA.map Ao) AD AB (by simpa using Wt) v.GY e a).pc;have Ls:=h.i.h0;have lE:=h.hs;have gK:=h.s0;show WO _ _ _ _ _ _ _ _ _ _ _ _ _ _ _ _ _ _ _ _ _;unfold WO;refine zv ?_;refine pQ_v AdN ?_;refine AT6 ?_ λh9=>?_
  case refine_2=>have:=Zy h9;rw[Bb]at this;omega
  refine zv ?_;refine AZc AdN ?_;refine AZc (Gk h0 AJl rfl) ?_;refine AZc AdN ?_;refine Gy IE rfl rfl AbQ rfl ?_;simp only[Gx,MQ];refine⟨?_,?_⟩
  .simp only[HI,dN,M5,CG];simp[Hl,IA,Iy];exact⟨λ_=>by omega,λ_=>by omega⟩
  refine zv ?_;rw[hwg];exact ih _ e1 a1 _ AA AA AA (h.ck e1 a1)
end
end
section
open Go.Proofs
attribute [local irreducible] TC PK TD UK RH Sk
section
variable{N:List GO} {V W:List Ge} {Q:PV->LLP->Prop} {l:List Item} {x:Item} {i:Int} {Ut:Bool} {O:List BA} {GG:LP} {K k2:Nat}
def AHr{nm:BA}{JB Jg:List Gj}{GA:List Ge}{GQ:List Item}{GY:Int}(hV:V.length<=100000)(Rk:∀v∈V,v.Ga.length<=17)(hM:GA.length<=20000)(Zs:Zv N V GQ)(hul:Jg.length<=100000)(hun:∀t∈Jg,ng N V t.cond)(AQi:∀v∈GA,QU (V.map Ao) v)(Pq:∀v∈GA,v.Ga.length<=17){k:Int}(hk0:0<=k)(hk:k<=100000)
  (ID:∀e a bx s,nj N e a bx GG s->LQ 0 1 Q (JX 0 1 Q K) k2 (.GN 0 0) (.GV (l.map Aq)) (.GV (W.map Am)) (.bool Ut) (.GV (O.map GC)) (I i) (.GN bx 0) (I (k+1)) s):
  ∀c:Nat,∃k3,∀(j e a:Int) (bi bm bx bs:Nat) (s:St),0<=j->j<=GA.length->GA.length-j<=c->L42 N e a bx GG bs [.Gh nm,.GV (JB.map Aw),.GV (Jg.map Aw),.GV (GA.map Am),.GV (GQ.map Aq),I GY] s->
   Sm 0 1 Q (JX 0 1 Q K) (LQ 0 1 Q (JX 0 1 Q K) k2) k3 (.GN 0 0) (.GV (l.map Aq)) (.GV (W.map Am)) (.bool Ut) (.GV (O.map GC)) (I i) (.GN bx 0) (I k) (.GN bs 0) (.HL bi (V.map Am)) (.HL bm ((GA.map Ao).map GC)) (I j) s:=by
 have done:∀(k3:Nat) (j e a:Int) (bi bm bx bs:Nat) (s:St),0<=j->¬(j<GA.length/\e=0)->L42 N e a bx GG bs [.Gh nm,.GV (JB.map Aw),.GV (Jg.map Aw),.GV (GA.map Am),.GV (GQ.map Aq),I GY] s->
   Sm 0 1 Q (JX 0 1 Q K) (LQ 0 1 Q (JX 0 1 Q K) k2) (k3+1) (.GN 0 0) (.GV (l.map Aq)) (.GV (W.map Am)) (.bool Ut) (.GV (O.map GC)) (I i) (.GN bx 0) (I k) (.GN bs 0) (.HL bi (V.map Am)) (.HL bm ((GA.map Ao).map GC)) (I j) s:=by
  intro k3 j e a bi bm bx bs s h0 Iz h;have Ls:=h.i.h0;have lE:=h.hs;show WN _ _ _ _ _ _ _ _ _ _ _ _ _ _ _ _ _ _ _;unfold WN;refine zv ?_;refine IU zh ?_;refine GF (λh9=>?_) λ_=>ALZ hV Rk hM Zs hul hun hk0 hk ID h;exact AdV
 intro c
 induction c with
 |zero=>exact⟨1,λj e a bi bm bx bs s h0 h1 hc h=>done 0 j e a bi bm bx bs s h0 AA h⟩
 |succ c ih=>
  obtain⟨k3,ih⟩:=ih;refine⟨k3+1,λj e a bi bm bx bs s h0 h1 hc h=>?_⟩;by_cases Iz:j<GA.length/\e=0
  case neg=>exact done k3 j e a bi bm bx bs s h0 Iz h
  obtain⟨G7,he⟩:=Iz;have OH:=AZi j;have Gl:=Io h0 G7;have Jr:GA[j.toNat]' AA∈GA:=Bl _
  have La:((GA.map Am).drop ((some j.toNat).getD 0)).take ((some (j+1).toNat).getD (GA.map Am).length-(some j.toNat).getD 0)=[GA[j.toNat]' AA].map Am:=by
   simp only[Option.getD_some];rw[show(j+1).toNat-j.toNat=1 by omega,Bt AB];simp
  generalize GA[j.toNat]' AA=v at Gl Jr La;obtain⟨r,e1,a1,IE,rfl⟩:=(rE (N:=N) hV Rk (l:=[v]) AD (by simpa using Pq v Jr) (by simpa using AQi v Jr) e a).pc;obtain⟨k4,me⟩:=ALT (N:=N) (W:=W) (Q:=Q) (l:=l) (i:=i) (Ut:=Ut) (O:=O) (GG:=GG) (K:=K) (k2:=k2) (nm:=nm) (JB:=JB) (Jg:=Jg) (GQ:=GQ) (GY:=GY) (AIp:=Sm 0 1 Q (JX 0 1 Q K) (LQ 0 1 Q (JX 0 1 Q K) k2) k3) (k:=k) (bi:=bi) (bm:=bm) (bx:=bx) (bs:=bs) hV Rk hM h0 AA Gl (Pq v Jr) (AQi v Jr) (λe a s h=>ih (j+1) e a bi bm bx bs s AA AA AA h) v.Ga.length;have Ls:=h.i.h0;have lE:=h.hs;have gK:=h.s0;show WN _ _ _ _ _ _ _ _ _ _ _ _ _ _ _ _ _ _ _;unfold WN;refine zv ?_;refine IU zh ?_;refine AT6 ?_ λh9=>?_
  case refine_2=>simp[he]at h9;omega
  refine zv ?_;rw[OH];refine Fy (ya (r1:=[I (j+1)]) (r2:=[]) (a:=some j.toNat) (c:=some (j+1).toNat) rfl Aas (by simp only[Qy,Lv];rw[Ps AA]) AB AB (HQ Ki)) ?_;rw[La];refine GI IE rfl rfl AbQ rfl ?_;simp only[Gx,MQ];exact⟨k4,me 0 e1 a1 _ AA AA AA (h.ck e1 a1)⟩
def AA6(hV:V.length<=70000)(Rk:∀v∈V,v.Ga.length<=17)(hi:0<=i)(Ml:i<=100000){K:Nat}(ID:∀e a s,Vc N e a s->W42 V Q l Ut O K (i+1) s)(hQ:∀e' a',Q (.tuple []) [ck N e' a'])(hO:O.length<=100000)(Pr:x.GL.length<=20000)
  (hx:x.GB=[]->(∀w∈x.GL,Kv (V.map Ao) w=true)/\ng N V x.e)(La:x.GB.length<=100000)(I0:∀st∈x.GB,ABc N V st):
  ∀c:Nat,∃k,∀(j e a:Int) (bx:Nat) (s:St),0<=j->j<=x.GB.length->x.GB.length-j<=c->nj N e a bx x.GG s->
   LQ 0 1 Q (JX 0 1 Q K) k (.GN 0 0) (.GV (l.map Aq)) (.GV (V.map Am)) (.bool Ut) (.GV (O.map GC)) (I i) (.GN bx 0) (I j) s:=by
 have done:∀(k:Nat) (j e a:Int) (bx:Nat) (s:St),0<=j->¬(j<x.GB.length/\e=0)->nj N e a bx x.GG s->
   LQ 0 1 Q (JX 0 1 Q K) (k+1) (.GN 0 0) (.GV (l.map Aq)) (.GV (V.map Am)) (.bool Ut) (.GV (O.map GC)) (I i) (.GN bx 0) (I j) s:=by
  intro k j e a bx s h0 Iz h;have Ls:=h.h0;have dt:=h.hx;show WM _ _ _ _ _ _ _ _ _ _ _ _ _ _;unfold WM;refine zv ?_;refine pQ_v Abu ?_;refine IU zh ?_;refine GF (λh9=>?_) (λ_=>AHj AA Rk hi Ml ID hQ hO Pr hx h);exact AdV
 intro c
 induction c with
 |zero=>exact⟨1,λj e a bx s h0 h1 hc h=>done 0 j e a bx s h0 AA h⟩
 |succ c ih=>
  obtain⟨k,ih⟩:=ih;refine⟨k+1,λj e a bx s h0 h1 hc h=>?_⟩;by_cases Iz:j<x.GB.length/\e=0
  case neg=>exact done k j e a bx s h0 Iz h
  obtain⟨G7,he⟩:=Iz;have OX:=Oo h0 G7;have jx:=I0 (x.GB[j.toNat]' AA) (Bl _);generalize x.GB[j.toNat]' AA=st at OX jx;obtain⟨nm,JB,Jg,GA,GQ,GY⟩:=st;have jw:(GD.mk nm JB Jg GA GQ GY).GG=[.Gh nm,.GV (JB.map Aw),.GV (Jg.map Aw),.GV (GA.map Am),.GV (GQ.map Aq),I GY]:=by rw[GD.IC];rfl
  have Xx:GA.length<=20000:=jx.loc;have Ox:V.map Am++GA.map Am=(V++GA).map Am:=by rw[Bu]
  have AHA:∀v∈V++GA,v.Ga.length<=17:=λv hv=>(Bf.1 hv).elim (Rk v) (jx.cl v);have Ww:=XU GA AA;obtain⟨r,e1,a1,Jy,rfl⟩:=(mP (N:=N) (V:=V) AA Rk (O:=[]) AD jx.AN8 jx.JB e a).pc;obtain⟨k3,gI⟩:=AHr (N:=N) (V:=V++GA) (W:=V) (Q:=Q) (l:=l) (i:=i) (Ut:=Ut) (O:=O) (GG:=x.GG) (K:=K) (k2:=k) (nm:=nm) (JB:=JB) (Jg:=Jg) (GA:=GA) (GQ:=GQ) (GY:=GY) (k:=j) AB AHA Xx jx.GQ jx.AN9 jx.Jg jx.clk jx.cl h0 AA (λe a bx s h=>ih (j+1) e a bx s AA AA AA h) GA.length;have Ls:=h.h0;have dt:=h.hx;have Tt:=h.x0;have hl0:=h.lt;show WM _ _ _ _ _ _ _ _ _ _ _ _ _ _;unfold WM;refine zv ?_;refine pQ_v Abu ?_;refine IU zh ?_;refine AT6 ?_ λh9=>?_
  case refine_2=>simp[he]at h9;omega
  refine zv ?_;refine Fy Abu ?_;refine Fy Acz ?_;refine Fy AdF ?_;rw[jw];refine zv ?_;refine AZc Ab0 ?_;refine GR Abe ?_;rw[Ox];refine zv ?_;refine⟨?_,?_⟩
  .exact Agl
  refine zv ?_;refine AZa Ww ?_;simp only[KB,Jl];refine zv ?_;refine GI Jy rfl rfl AbQ rfl ?_;simp only[Gx,MQ];exact⟨k3,gI 0 e1 a1 _ _ bx s.next _ AA AA AA ⟨⟨zh,zh,Tt,by simp only[G1,HI];omega⟩,zh,AA⟩⟩
end
end
section
open Go.Proofs
attribute [local irreducible] TC PK TD UK RH Sk
section
variable{N:List GO} {V:List Ge} {nd:Int}
def mR(hV:V.length<=70000)(Rk:∀v∈V,v.Ga.length<=17){l:List Item}(hl:l.length<=100000)(La:∀x∈l,x.GB.length<=100000)(Pr:∀x∈l,x.GL.length<=20000)
  (hx:∀x∈l,x.GB=[]->(∀w∈x.GL,Kv (V.map Ao) w=true)/\ng N V x.e)(I0:∀x∈l,∀st∈x.GB,ABc N V st):Zv N V l:=by
 intro Ut O hO e a;have hQ:∀e' a',(λ(r:PV) (c:LLP)=>∃e' a',c=[ck N e' a']/\r=.tuple []) (.tuple []) [ck N e' a']:=λe' a'=>⟨e',a',rfl,rfl⟩
 have done:∀(k:Nat) (i e a:Int) (s:St),0<=i->¬(i<l.length/\e=0)->Vc N e a s->W42 V (λr c=>∃e' a',c=[ck N e' a']/\r=.tuple []) l Ut O (k+1) i s:=by
  intro k i e a s h0 Iz h;have Ls:=h.h0;show iG _ _ _ _ _ _ _ _ _ _ _;unfold iG;exact Ahj
 have loop:∀c:Nat,∃k,∀(i e a:Int) (s:St),0<=i->i<=l.length->l.length-i<=c->Vc N e a s->W42 V (λr c=>∃e' a',c=[ck N e' a']/\r=.tuple []) l Ut O k i s:=by
  intro c
  induction c with
  |zero=>exact⟨1,λi e a s h0 h1 hc h=>done 0 i e a s h0 AA h⟩
  |succ c ih=>
   obtain⟨k,ih⟩:=ih;refine⟨k+1,λi e a s h0 h1 hc h=>?_⟩;by_cases Iz:i<l.length/\e=0
   case neg=>exact done k i e a s h0 Iz h
   obtain⟨G7,he⟩:=Iz;have Gl:=Tw h0 G7;have Jr:l[i.toNat]' AA∈l:=Bl _;generalize l[i.toNat]' AA=x at Gl Jr;obtain⟨k2,Jm⟩:=AA6 (x:=x) (l:=l) (i:=i) (Ut:=Ut) (O:=O) hV Rk h0 AA (λe a s h=>ih (i+1) e a s AA AA AA h) hQ hO (Pr x Jr) (hx x Jr) (La x Jr) (I0 x Jr) x.GB.length;have Ls:=h.h0;have hl0:=h.lt;show iG _ _ _ _ _ _ _ _ _ _ _;unfold iG;refine zv ?_;refine IU zh ?_;refine AT6 ?_ λh9=>?_
   case refine_2=>simp[he]at h9;omega
   refine Fy Acy ?_;refine pQ_v (IB (BK _)) ?_;refine Fy Abx ?_;exact⟨k2,Jm 0 e a s.next _ AA AA AA ⟨zh,zh,AA,by simp only[G1,HI];omega⟩⟩
 obtain⟨k,hk⟩:=loop l.length;refine AKy 0 rfl _ _ _ _ _ ?_;unfold c42;exact Afu
end
end
section
open Go.Proofs
def tQ{l:List Gj}{t:Gj}(h:t∈l):t.cond.wt<=Gj.HS l:=by
 induction l with
 |nil=>cases h
 |cons u r ih=>
  simp only[Gj.HS,Gj.wt];rcases Bm.1 h with rfl|h
  .omega
  .have:=ih h;omega
attribute [local irreducible] cm
section
variable{N:List GO} {nd:Int} {Q:PV->LLP->Prop}
def fq{V:List Ge}(hV:V.length<=100000)(Rk:∀v∈V,v.Ga.length<=17){x:Gw}(hw:x.WF)(hr:OM N (V.map Ao) nd x)(ht:x.wt<=20000):ng N V x:=by obtain⟨U,h1,h2,h3⟩:=AIl hw hr ht;exact⟨⟨U,h1,AA,h3⟩,ACI hV Rk hw hr⟩
def uW:∀(c:Nat) (V:List Ge) (M:List BA) (l:List Item),As l<=c->V.length+As l<=70000->As l<=20000->l.length<=100000->(∀v∈V,v.Ga.length<=17)->(∀x∈l,x.WF)->(∀w,Kv M w=true->Kv (V.map Ao) w=true)->(∀x∈l,NI N nd (V.map Ao) M x)->(∀x∈l,qO (V.map Ao) x)->Zv N V l:=by
 intro c
 induction c with
 |zero=>
  intro V M l hl hV hc Xx Rk hw hMS VN hnc
  have lF:∀x∈l,x.wt<=As l:=by
   exact Aeh
  refine mR AA Rk Xx Abv (λx hx=>by
   have:=lF x hx;obtain⟨_,_,_,_⟩:=x;simp only[BF]at this;simp only[Item.GL];omega) (λx hx hs=>?_) λx hx st I0=>?_
  .exact Adt
  .exfalso;have h1:=lF x hx;obtain⟨GL,ex,GB,GY⟩:=x;cases GB with
   |nil=>exact Zq I0 Aai
   |cons st r=>cases st;simp only[BF,Ax,BG]at h1;omega
 |succ c ih=>
  intro V M l hl hV hc Xx Rk hw hMS VN hnc
  have lF:∀x∈l,x.wt<=As l:=by
   exact Aeh
  refine mR AA Rk Xx Abv (λx hx=>by
   have:=lF x hx;obtain⟨_,_,_,_⟩:=x;simp only[BF]at this;simp only[Item.GL];omega) (λx hx hs=>?_) λx hx st I0=>?_
  .exact Adt
  .have vR:=hw x hx;have hns:=(VN x hx).Tu st I0;have AMf:=(hnc x hx).K5 st I0;have h1:=lF x hx;obtain⟨q2,YM,hqs⟩:=B4 I0;have h3:=VF YM;rw[hqs]at h3
   have h4:Ax x.GB<=x.wt:=by
    exact Ad5
   have qV:st.WF:=by
    exact AhD
   obtain⟨nm,JB,Jg,GA,GQ,GY⟩:=st;cases qV with|mk _ _ _ _ _ _ w1 w2 w3 w4 w5=>
   cases hns with|mk _ _ _ _ _ _ _ _ n1 n2 n3 n4=>
   cases AMf with|mk _ _ _ _ _ _ _ k1 k2=>
   simp only[BG]at h3;have AHA:∀v∈V++GA,v.Ga.length<=17:=λv hv=>(Bf.1 hv).elim (Rk v) λh=>(w3.all v h).Ga;have hS:List.map Ao (V++(GD.mk nm JB Jg GA GQ GY).GA)=V.map Ao++GA.map Ao:=Bu;refine⟨by simp only[GD.GA];omega,w1.len,w2.len,by rw[hS];exact k1,λv hv=>(w3.all v hv).Ga,λt ht=>fq AA Rk (w1.all t ht) (n1 t ht) (by have:=tQ (l:=JB) ht;omega),λt ht=>fq (by rw[Bd];omega) AHA (w2.all t ht) (nd:=nd) Ag (by have:=tQ (l:=Jg) ht;omega),?_⟩
   exact ih _ (M++GA.map Ao) GQ AA Aay AA w4 AHA w5 (λw hw=>by
    rw[hS,Um];rw[Um]at hw;cases hm:Kv M w
    .rw[hm,Di]at hw;rw[hw,Bool.or_true]
    .rw[hMS w hm,Du]) (by rw[hS];exact n2) (by rw[hS];exact k2)
end
end
section
open Go.Proofs
attribute [local irreducible] cm
section
variable{N:List GO} {Q:PV->LLP->Prop}
def AP4{e a:Int}{s:St}(h:s.heap 1=some (.box (ck N e a)))(hQ:Q (.tuple [I a,I e]) []):cm 0 0 Q (.GN 1 0) s:=by unfold cm;exact Adz
def AH1(hN:N.length<=60)(hw:∀n∈N,n.WF)(Pv:BC N<=20000)(lW:∀(q:Nat) (h:q<N.length),O6 N q N[q])(hQ:∀e a:Int,Q (.tuple [I a,I e]) []):
  ∀c:Nat,∃k,∀(i e a:Int) (s:St),0<=i->i<=N.length->N.length-i<=c->s.heap 0=some (.box [.GV (N.map Ay)])->s.heap 1=some (.box (ck N e a))->1<s.next->gz 0 0 Q k (.GN 0 0) (.GN 1 0) (I i) s:=by
 have done:∀(k:Nat) (i e a:Int) (s:St),0<=i->¬(i<N.length/\e=0)->s.heap 0=some (.box [.GV (N.map Ay)])->s.heap 1=some (.box (ck N e a))->1<s.next->gz 0 0 Q (k+1) (.GN 0 0) (.GN 1 0) (I i) s:=by
  intro k i e a s h0 Iz h1 h2 h3;show aM _ _ _ _ _ _ _ _;unfold aM;refine zv ?_;refine Rv zh ?_;refine GF (λh9=>?_) λ_=>AP4 zh (hQ _ _);exact AdV
 intro c
 induction c with
 |zero=>exact⟨1,λi e a s h0 h1 hc=>done 0 i e a s h0 AA⟩
 |succ c ih=>
  obtain⟨k,ih⟩:=ih;refine⟨k+1,λi e a s h0 h1' hc h1 h2 h3=>?_⟩;by_cases Iz:i<N.length/\e=0
  case neg=>exact done k i e a s h0 Iz h1 h2 h3
  obtain⟨G7,he⟩:=Iz;have Zt:=AZi i;have Gl:=Rp h0 G7;have dm:=hw (N[i.toNat]' AA) (Bl _);have Uq:=T1 (l:=N) (q:=i.toNat) AA;have Pt:=lW i.toNat AA;generalize N[i.toNat]' AA=n at Gl dm Uq Pt;simp only[GO.wt]at Uq;have HM:n.all.length=n.JS.length+n.Hz.length+n.GA.length:=by simp[GO.all];omega
  have JO:=tw n [] AB;rw[CG]at JO
  have haw:∀v∈n.all,v.Ga.length<=17:=by
   intro v hv;simp only[GO.all,Bf]at hv;rcases hv with(hv|hv)|hv
   .exact(dm.JS.all v hv).Ga
   .exact(dm.Hz.all v hv).Ga
   .exact(dm.GA.all v hv).Ga
  obtain⟨r,e1,a1,Jy,rfl⟩:=(rE (N:=N) (V:=n.all) (l:=n.GA) AA haw AA (λv hv=>(dm.GA.all v hv).Ga) Pt.clk e a).pc;obtain⟨r,e2,a2,I4,rfl⟩:=((uW (N:=N) (nd:=(i.toNat:Nat)) _ n.all n.ve n.GQ (Bg _) AA AA dm.len haw dm.GQ yN Pt.GQ Pt.ACH) false [] AD e1 a1).pc;show aM _ _ _ _ _ _ _ _;unfold aM;refine zv ?_;refine Rv zh ?_;refine AT6 ?_ λh9=>?_
  case refine_2=>simp[he]at h9;omega
  refine zv ?_;refine Fy Acd ?_;refine Fy AdL ?_;rw[GO.Zg];refine zv ?_;refine AZa JO ?_;simp only[Ld,Jl];refine zv ?_;refine GI Jy rfl rfl AcA rfl ?_;simp only[Gx,MQ];refine zv ?_;refine GI I4 rfl rfl AcA rfl ?_;simp only[Gx,MQ];refine zv ?_;rw[Zt];exact ih _ e2 a2 _ AA AA AA zh zh AZn
def qz(hN:N.length<=60)(hw:∀n∈N,n.WF)(Pv:BC N<=20000)(lW:∀(q:Nat) (h:q<N.length),O6 N q N[q]):∃a e:Int,PC BZ 26 [.agg [.GV (N.map Ay)]] [] (.tuple [I a,I e]) []:=by
 obtain⟨K,hK⟩:=AH1 (N:=N) (Q:=λr c=>c=[]/\∃a e:Int,r=.tuple [I a,I e]) hN hw Pv lW (λe a=>⟨rfl,a,e,rfl⟩) N.length
 have:PQ BZ 26 [.agg [.GV (N.map Ay)]] [] (λr c=>c=[]/\∃a e:Int,r=.tuple [I a,I e]):=by
  refine AKq 0 rfl _ ?_;unfold c26;exact Ag5
 exact Afn
end
end
section
open Go.Proofs
def Lr(b:Bool):LP:=[.bool b]
def xH{l:List Bool}{i:Int}(h0:0<=i)(h:i<l.length):(l.map Lr)[i.toNat]?=some (Lr (l[i.toNat]' AA)):=AgH
def AB3{l:List Bool}:∀r∈l.map Lr,r.length=1:=Aeg
def AOs(N:List GO)(x:Gw):Prop:=∀e a,CF N 103 [.agg x.GG] e a λr _ _=>∃b,r=.bool b
structure qa (N:List GO) (e a:Int) (xr:List PV) (s:St):Prop where
 h0:s.heap 0=some (.box (ck N e a))
 h1:s.heap 1=some (.box xr)
 lt:2<s.next
def qa.ck{N:List GO}{e a:Int}{xr:LP}{s:St}(h:qa N e a xr s)(e' a':Int):qa N e' a' xr (s.set 0 (.box (ck N e' a'))):=⟨A4,(Ar AA).trans h.h1,h.lt⟩
attribute [local irreducible] Se UC QF cY
section
variable{N:List GO} {e a:Int} {f s1 tk tl i m GY:Int} {nm:BA} {GP:List Gw} {Q:PV->LLP->Prop} {s:St} {K:List Bool} {bk:Nat} {sm:Bool}
def ALX(hQ:∀b e' a',Q (.bool b) [ck N e' a'])(hK:e=0->K.length=GP.length)(Qz:Zz f GP.length)(h:qa N e a (QE f s1 nm tk tl i m GP GY) s):UC 0 1 Q (.GN 0 0) (.GN 1 0) (.HL bk (K.map Lr)) (.bool sm) s:=by
 have Ls:=h.h0;have jh:=h.h1;unfold UC;refine zv ?_;refine GF (λ_=>GW rfl rfl AbQ (hQ _ _ _)) λhb=>?_;have he:e=0:=by simpa using hb
 have hK:=hK he
 have fin:∀g:Bool,(g=true->f=7\/f=8)->Se 0 1 Q (.HL bk (K.map Lr)) (.bool sm) (.bool g) s:=by
  intro g hg;unfold Se;cases g
  .refine zv ?_;exact Agt
  .have Jm:=Qz.2.1 (by have:=hg rfl;omega);refine ct ?_;refine pQ_v (JE AA (xH (l:=K) (i:=0) AA AA) rfl) ?_;exact Agt
 refine zv ?_;cases g6:(f==6)
 case true=>
  refine zv ?_;exact Agt
 refine zv ?_;cases g7:(f==7)
 case true=>exact ct (fin true λ_=>by simp at g7;omega)
 refine zv ?_;exact fin _ λh=>by simp at h;omega
end
end
section
open Go.Proofs
attribute [local irreducible] Se UC QF cY
section
variable{N:List GO} {e a:Int} {f s1 tk tl i m GY:Int} {nm:BA} {GP:List Gw} {Q:PV->LLP->Prop} {s:St} {K:List Bool} {bk:Nat} {sm:Bool}
def AN3(hQ:∀b e' a',Q (.bool b) [ck N e' a'])(hKl:K.length<=GP.length)(Qz:Zz f GP.length):
  ∀c:Nat,∃k,∀(j e a:Int) (s:St),(e=0->K.length=GP.length)->0<=j->j<=K.length->K.length-j<=c->qa N e a (QE f s1 nm tk tl i m GP GY) s->RE 0 1 Q k (.GN 0 0) (.GN 1 0) (.HL bk (K.map Lr)) (.bool sm) (I j) s:=by
 have fQ:=Qz.2.2.2.2
 have done:∀(k:Nat) (j e a:Int) (s:St),(e=0->K.length=GP.length)->0<=j->¬(j<K.length/\e=0)->qa N e a (QE f s1 nm tk tl i m GP GY) s->RE 0 1 Q (k+1) (.GN 0 0) (.GN 1 0) (.HL bk (K.map Lr)) (.bool sm) (I j) s:=by
  intro k j e a s hK h0 Iz h;have Ls:=h.h0;show Vu _ _ _ _ _ _ _ _ _ _;unfold Vu;refine zv ?_;refine IU zh ?_;refine GF (λh9=>?_) λ_=>ALX hQ hK Qz h;exact AdV
 intro c
 induction c with
 |zero=>exact⟨1,λj e a s hK h0 h1 hc h=>done 0 j e a s hK h0 AA h⟩
 |succ c ih=>
  obtain⟨k,ih⟩:=ih;refine⟨k+1,λj e a s hK h0 h1 hc h=>?_⟩;by_cases Iz:j<K.length/\e=0
  case neg=>exact done k j e a s hK h0 Iz h
  obtain⟨G7,he⟩:=Iz;have OH:=AZi j;have jr:(BB GP).length=GP.length:=by rw[Gw.Iu,Bb]
  have Gl:=xH h0 G7;have re:=Ql (l:=GP) h0 AA;obtain⟨atk,hr8⟩:=(GP[j.toNat]' AA).r8;generalize K[j.toNat]' AA=kb at Gl;generalize GP[j.toNat]' AA=kx at re hr8
  have next:∀(e a:Int) (s:St),(e=0->K.length=GP.length)->qa N e a (QE f s1 nm tk tl i m GP GY) s->QF 0 1 Q (RE 0 1 Q k) (.GN 0 0) (.GN 1 0) (.HL bk (K.map Lr)) (.bool sm) (I j) s:=by
   intro e a s hK h;unfold QF;refine zv ?_;rw[OH];exact ih _ e a s hK AA AA AA h
  have Ls:=h.h0;have jh:=h.h1;have AHR:=h.lt
  have fail:Gn BZ 68 [.GN 0 0,I atk,I 28] s (λAXN ANs=>QF 0 1 Q (RE 0 1 Q k) (.GN 0 0) (.GN 1 0) (.HL bk (K.map Lr)) (.bool sm) (I j) ANs):=by
   obtain⟨r,e2,a2,I4,rfl,h2,_⟩:=(Ik (N:=N) (e:=e) (a:=a) atk 28 AA).pc;refine GI I4 rfl rfl AbQ rfl ?_;exact next e2 a2 _ (λh=>Zq h h2) (h.ck e2 a2)
  show Vu _ _ _ _ _ _ _ _ _ _;unfold Vu;refine zv ?_;refine IU zh ?_;refine AT6 ?_ λh9=>?_
  case refine_2=>simp[he]at h9;omega
  refine pQ_v AcD ?_
  have yes:pQ (Ho 7 (.GN 1 0)) s (λAXE AWn=>pQ (GJ AXE) AWn λAXG AWo=>pQ (Ip 9 AXG (I j)) AWo λAXI AWq=>pQ (Ho 8 AXI) AWq λAXJ AWr=>pQ (GJ AXJ) AWr λAXL AWt=>Gn BZ 68 [.GN 0 0,AXL,(I 28)] AWt λAXN ANs=>QF 0 1 Q (RE 0 1 Q k) (.GN 0 0) (.GN 1 0) (.HL bk (K.map Lr)) (.bool sm) (I j) ANs):=by
   exact AeE
  cases kb
  .refine zv ?_;exact next e a s hK h
  refine zv ?_;cases g6:(f==6)
  case true=>
   exact AeE
  refine zv ?_;cases g10:(f==10)
  case true=>
   exact AeE
  refine zv ?_;cases g8:(f==8)
  .exact AgG
  .refine zv ?_;cases gj:(j==1)
   .exact AgG
   .exact AeE
end
end
section
open Go.Proofs
structure AIw (N:List GO) (e a:Int) (xr:List PV) (T:List Bool) (eo:Nat) (s:St):Prop where
 i:qa N e a xr s
 h2:s.heap 2=some (.HE (T.map Lr).length eo)
 ho:T.map Lr=[]\/eo=1
attribute [local irreducible] Se UC QF cY
section
variable{N:List GO}
def AHp{x:Gw}(hw:x.WF):AOs N x:=by
 induction hw with
 |mk f s1 nm tk tl i m GP GY Qz hf hs td ht hk ih=>
 intro e a;have fQ:GP.length<=100000:=Qz.2.2.2.2;have jr:(BB GP).length=GP.length:=by rw[Gw.Iu,Bb]
 have done:∀(k:Nat) (e1 a1:Int) (j:Int) (T:List Bool) (sm:Bool) (eo:Nat) (s:St),0<=j->¬(j<GP.length/\e1=0)->j<=GP.length->(T.length:Int)=j->AIw N e1 a1 (QE f s1 nm tk tl i m GP GY) T eo s->
   Vt 0 1 (λr c=>∃e' a',c=[ck N e' a']/\∃b,r=.bool b) (k+1) (.GN 0 0) (.GN 1 0) (.HL 2 (T.map Lr)) (.bool sm) (I j) s:=by
  intro k e1 a1 j T sm eo s h0 Iz h1 hT h;have Ls:=h.i.h0;have jh:=h.i.h1;obtain⟨k2,Jm⟩:=AN3 (N:=N) (f:=f) (s1:=s1) (tk:=tk) (tl:=tl) (i:=i) (m:=m) (GY:=GY) (nm:=nm) (GP:=GP) (Q:=λr c=>∃e' a',c=[ck N e' a']/\∃b,r=.bool b) (K:=T) (bk:=2) (sm:=sm) (λb e' a'=>⟨e',a',rfl,b,rfl⟩) AA Qz T.length;show TW _ _ _ _ _ _ _ _ _ _;unfold TW;refine zv ?_;refine IU zh ?_;refine AT7 (λh9=>?_) ?_
  .exact Aeq
  .unfold cY;exact⟨k2,Jm 0 e1 a1 s (λh=>by have:¬j<GP.length:=λh2=>Iz ⟨h2,h⟩;omega) AA AA AA h.i⟩
 have loop:∀c:Nat,∃k,∀(e1 a1:Int) (j:Int) (T:List Bool) (sm:Bool) (eo:Nat) (s:St),0<=j->j<=GP.length->GP.length-j<=c->(T.length:Int)=j->AIw N e1 a1 (QE f s1 nm tk tl i m GP GY) T eo s->
   Vt 0 1 (λr c=>∃e' a',c=[ck N e' a']/\∃b,r=.bool b) k (.GN 0 0) (.GN 1 0) (.HL 2 (T.map Lr)) (.bool sm) (I j) s:=by
  intro c
  induction c with
  |zero=>exact⟨1,λe1 a1 j T sm eo s h0 h1 hc hT h=>done 0 e1 a1 j T sm eo s h0 AA h1 hT h⟩
  |succ c Xy=>
   obtain⟨k,Xy⟩:=Xy;refine⟨k+1,λe1 a1 j T sm eo s h0 h1 hc hT h=>?_⟩;by_cases Iz:j<GP.length/\e1=0
   case neg=>exact done k e1 a1 j T sm eo s h0 Iz h1 hT h
   obtain⟨G7,Nl⟩:=Iz;have OH:=AZi j;have Jr:GP[j.toNat]' AA∈GP:=Bl _;obtain⟨r,e2,a2,IE,b,rfl⟩:=((ih _ Jr) e1 a1).pc;have Ls:=h.i.h0;have jh:=h.i.h1;have h22:=h.h2;have ADM:=h.i.lt;have L7:T.map Lr++[Lr b]=(T++[b]).map Lr:=by rw[Bu];rfl
   have h8:=λsm=>Xy e2 a2 (j+1) (T++[b]) sm 1 ((s.set 0 (.box (ck N e2 a2))).set 2 (.HE ((T.map Lr).length+1) 1)) AA AA AA AB ⟨⟨zh,zh,ADM⟩,AZq,.inr rfl⟩;rw[<- L7]at h8;show TW _ _ _ _ _ _ _ _ _ _;unfold TW;refine zv ?_;refine IU zh ?_;refine AT6 ?_ λh9=>?_
   case refine_2=>simp[Nl,jr]at h9;omega
   refine zv ?_;refine Fy Abf ?_;refine Fy AcT ?_;refine ATj IE (KX rfl) rfl AbQ rfl ?_;refine pQ_v (Jp rfl rfl (G4 AB AA) (HQ AB3) zh (h.ho.imp (λh=>by rw[h];rfl) λh=>h.symm)) ?_;cases sm
   .refine zv ?_;rw[OH];exact h8 _
   .refine zv ?_;rw[OH];exact h8 _
 obtain⟨k,Jm⟩:=loop GP.length;refine AFz 0 rfl _ _ ?_;unfold AO4;refine pQ_v AcJ ?_;exact⟨k,Jm e a 0 [] false 0 _ AA AA AA rfl ⟨⟨zh,zh,by simp[G1,IG]⟩,zh,.inl rfl⟩⟩
end
end
section
open Go.Proofs
def jO{N:List GO}{x:Gw}(hw:x.WF)(e a:Int):CF N 75 [.agg x.GG] e a λr _ _=>r=.tuple []:=by
 obtain⟨r,e1,a1,IE,b,rfl⟩:=(AHp (N:=N) hw e a).pc;obtain⟨GY,hr8⟩:=x.r8;have rj:=x.GX;obtain⟨r,e2,a2,I4,rfl,h2,_⟩:=(Ik (N:=N) (e:=e1) (a:=a1) GY 28 AA).pc;refine ALG 0 rfl _ _ ?_;unfold c75;refine Fy AcJ ?_;refine Fy (Hm zh rj) ?_;refine ATj IE (KX rfl) rfl AbQ rfl ?_;cases b
 .refine zv ?_;exact AeQ
 .refine zv ?_;refine Fy (GH zh hr8) ?_;exact Ahw
end
section
open Go.Proofs
def fY(N:List GO)(l:List Item):Prop:=∀e a,CF N 43 [.GV (l.map Aq)] e a λr _ _=>r=.tuple []
structure L43 (N:List GO) (e a:Int) (bs:Nat) (Pl:List PV) (s:St):Prop where
 i:Vc N e a s
 hs:s.heap bs=some (.box Pl)
 s0:bs≠0
def L43.ck{N:List GO}{e a:Int}{bs:Nat}{Pl:LP}{s:St}(h:L43 N e a bs Pl s)(e' a':Int):L43 N e' a' bs Pl (s.set 0 (.box (ck N e' a'))):=⟨⟨A4,h.i.lt⟩,(Ar h.s0).trans h.hs,h.s0⟩
attribute [local irreducible] WQ Yq cr Xe
section
variable{N:List GO} {l:List Item} {x:Item} {i:Int} {Q:PV->LLP->Prop} {K:Nat}
def AFG{nm:BA}{JB Jg:List Gj}{GA:List Ge}{GQ:List Item}{GY:Int}(hul:Jg.length<=100000)(hun:∀t∈Jg,t.cond.WF){w1:PV->PV->F1}{w68:PV->PV->PV->F1}{k:Int}(hk0:0<=k)(hk:k<=100000)
  (ID:∀e a s,Vc N e a s->w68 (.GN 0 0) (.GV (l.map Aq)) (I i) (I (k+1)) s):
  ∀c:Nat,∃k3,∀(j e a:Int) (bs:Nat) (s:St),0<=j->j<=Jg.length->Jg.length-j<=c->L43 N e a bs [.Gh nm,.GV (JB.map Aw),.GV (Jg.map Aw),.GV (GA.map Am),.GV (GQ.map Aq),I GY] s->
   Xf 0 1 Q w1 w68 k3 (.GN 0 0) (.GV (l.map Aq)) (I i) (I k) (.GN bs 0) (I j) s:=by
 have hwk:=AZi k
 have done:∀(k3:Nat) (j e a:Int) (bs:Nat) (s:St),0<=j->¬(j<Jg.length/\e=0)->L43 N e a bs [.Gh nm,.GV (JB.map Aw),.GV (Jg.map Aw),.GV (GA.map Am),.GV (GQ.map Aq),I GY] s->
   Xf 0 1 Q w1 w68 (k3+1) (.GN 0 0) (.GV (l.map Aq)) (I i) (I k) (.GN bs 0) (I j) s:=by
  intro k3 j e a bs s h0 Iz h;have Ls:=h.i.h0;have lE:=h.hs;show WS _ _ _ _ _ _ _ _ _ _ _ _ _;unfold WS;refine zv ?_;refine IU zh ?_;refine AT7 (λh9=>?_) ?_
  .exact AdV
  .unfold cr;refine zv ?_;rw[hwk];exact ID e a s h.i
 intro c
 induction c with
 |zero=>exact⟨1,λj e a bs s h0 h1 hc h=>done 0 j e a bs s h0 AA h⟩
 |succ c ih=>
  obtain⟨k3,ih⟩:=ih;refine⟨k3+1,λj e a bs s h0 h1 hc h=>?_⟩;by_cases Iz:j<Jg.length/\e=0
  case neg=>exact done k3 j e a bs s h0 Iz h
  obtain⟨G7,he⟩:=Iz;have OH:=AZi j;have Gl:=SM h0 G7;have hw:=hun (Jg[j.toNat]' AA) (Bl _);generalize Jg[j.toNat]' AA=t at Gl hw;obtain⟨r,e1,a1,IE,rfl⟩:=(jO (N:=N) hw e a).pc;have Ls:=h.i.h0;have lE:=h.hs;have gK:=h.s0;show WS _ _ _ _ _ _ _ _ _ _ _ _ _;unfold WS;exact Adi
end
end
section
open Go.Proofs
attribute [local irreducible] WQ Yq cr Xe
section
variable{N:List GO} {l:List Item} {x:Item} {i:Int} {Q:PV->LLP->Prop} {K:Nat}
def ABG{nm:BA}{JB Jg:List Gj}{GA:List Ge}{GQ:List Item}{GY:Int}(hul:JB.length<=100000)(hun:∀t∈JB,t.cond.WF)(pF:fY N GQ){w1:PV->PV->F1}{w68:PV->PV->PV->F1}{k:Int}
  (ID:∃k4,∀(e a:Int) (bs:Nat) (s:St),L43 N e a bs [.Gh nm,.GV (JB.map Aw),.GV (Jg.map Aw),.GV (GA.map Am),.GV (GQ.map Aq),I GY] s->Xf 0 1 Q w1 w68 k4 (.GN 0 0) (.GV (l.map Aq)) (I i) (I k) (.GN bs 0) (I 0) s):
  ∀c:Nat,∃k3,∀(j e a:Int) (bs:Nat) (s:St),0<=j->j<=JB.length->JB.length-j<=c->L43 N e a bs [.Gh nm,.GV (JB.map Aw),.GV (Jg.map Aw),.GV (GA.map Am),.GV (GQ.map Aq),I GY] s->
   aR 0 1 Q w1 w68 k3 (.GN 0 0) (.GV (l.map Aq)) (I i) (I k) (.GN bs 0) (I j) s:=by
 obtain⟨k4,me⟩:=ID
 have done:∀(k3:Nat) (j e a:Int) (bs:Nat) (s:St),0<=j->¬(j<JB.length/\e=0)->L43 N e a bs [.Gh nm,.GV (JB.map Aw),.GV (Jg.map Aw),.GV (GA.map Am),.GV (GQ.map Aq),I GY] s->
   aR 0 1 Q w1 w68 (k3+1) (.GN 0 0) (.GV (l.map Aq)) (I i) (I k) (.GN bs 0) (I j) s:=by
  intro k3 j e a bs s h0 Iz h;have Ls:=h.i.h0;have lE:=h.hs;have gK:=h.s0;obtain⟨r,e1,a1,IE,rfl⟩:=(pF e a).pc;show WT _ _ _ _ _ _ _ _ _ _ _ _ _;unfold WT;refine zv ?_;refine IU zh ?_;refine AT7 (λh9=>?_) ?_
  .exact AdV
  .unfold Xe;refine zv ?_;refine GI IE rfl rfl AbQ rfl ?_;simp only[Gx,MQ];exact⟨k4,me e1 a1 bs _ (h.ck e1 a1)⟩
 intro c
 induction c with
 |zero=>exact⟨1,λj e a bs s h0 h1 hc h=>done 0 j e a bs s h0 AA h⟩
 |succ c ih=>
  obtain⟨k3,ih⟩:=ih;refine⟨k3+1,λj e a bs s h0 h1 hc h=>?_⟩;by_cases Iz:j<JB.length/\e=0
  case neg=>exact done k3 j e a bs s h0 Iz h
  obtain⟨G7,he⟩:=Iz;have OH:=AZi j;have Gl:=SM h0 G7;have hw:=hun (JB[j.toNat]' AA) (Bl _);generalize JB[j.toNat]' AA=t at Gl hw;obtain⟨r,e1,a1,IE,rfl⟩:=(jO (N:=N) hw e a).pc;have Ls:=h.i.h0;have lE:=h.hs;have gK:=h.s0;show WT _ _ _ _ _ _ _ _ _ _ _ _ _;unfold WT;exact Adi
end
end
section
open Go.Proofs
structure ABj (N:List GO) (st:GD):Prop where
 JB:NN.WF st.JB
 Jg:NN.WF st.Jg
 GQ:fY N st.GQ
attribute [local irreducible] WQ Yq cr Xe
section
variable{N:List GO} {l:List Item} {x:Item} {i:Int} {Q:PV->LLP->Prop} {K:Nat}
def AD7(hi:0<=i)(Ml:i<=100000){w1:PV->PV->F1}(ID:∀e a s,Vc N e a s->w1 (.GN 0 0) (.GV (l.map Aq)) (I (i+1)) s){e a:Int}{s:St}(h:Vc N e a s):WQ 0 1 Q w1 (.GN 0 0) (.GV (l.map Aq)) (I i) s:=by have Zt:=AZi i;unfold WQ;refine zv ?_;rw[Zt];exact ID e a s h
def ANJ(hi:0<=i)(Ml:i<=100000)(Gl:(l.map Aq)[i.toNat]?=some x.GG)(hw:x.WF){w1:PV->PV->F1}(ID:∀e a s,Vc N e a s->w1 (.GN 0 0) (.GV (l.map Aq)) (I (i+1)) s){e a:Int}{s:St}(h:Vc N e a s):Yq 0 1 Q w1 (.GN 0 0) (.GV (l.map Aq)) (I i) s:=by
 have Ls:=h.h0;have G7:=h.lt;have hxe:x.e.WF:=by cases hw with|mk _ _ _ _ _ h2 _ _=>exact h2
 obtain⟨r,e1,a1,IE,rfl⟩:=(jO (N:=N) hxe e a).pc;unfold Yq;refine pQ_v Abt ?_;refine pQ_v (Hg (BR x)) ?_;refine IU zh ?_;refine AT6 ?_ λ_=>AD7 hi Ml ID h;refine pQ_v Abt ?_;refine Fy (MB (Item.cut x)) ?_;refine GI IE (KX rfl) rfl AbQ rfl ?_;simp only[Gx,MQ];exact AD7 hi Ml ID (e:=e1) (a:=a1) ⟨A4,G7⟩
def AE1(hi:0<=i)(Ml:i<=100000)(Gl:(l.map Aq)[i.toNat]?=some x.GG)(hw:x.WF)(La:x.GB.length<=100000)(I0:∀st∈x.GB,ABj N st){w1:PV->PV->F1}(ID:∀e a s,Vc N e a s->w1 (.GN 0 0) (.GV (l.map Aq)) (I (i+1)) s):
  ∀c:Nat,∃k,∀(j e a:Int) (s:St),0<=j->j<=x.GB.length->x.GB.length-j<=c->Vc N e a s->R3 0 1 Q w1 k (.GN 0 0) (.GV (l.map Aq)) (I i) (I j) s:=by
 have done:∀(k:Nat) (j e a:Int) (s:St),0<=j->¬(j<x.GB.length/\e=0)->Vc N e a s->R3 0 1 Q w1 (k+1) (.GN 0 0) (.GV (l.map Aq)) (I i) (I j) s:=by
  intro k j e a s h0 Iz h;have Ls:=h.h0;show aS _ _ _ _ _ _ _ _ _ _;unfold aS;refine pQ_v Abt ?_;refine pQ_v (Hg (BR x)) ?_;refine IU zh ?_;refine GF (λh9=>?_) λ_=>ANJ hi Ml Gl hw ID h;exact AdV
 intro c
 induction c with
 |zero=>exact⟨1,λj e a s h0 h1 hc h=>done 0 j e a s h0 AA h⟩
 |succ c ih=>
  obtain⟨k,ih⟩:=ih;refine⟨k+1,λj e a s h0 h1 hc h=>?_⟩;by_cases Iz:j<x.GB.length/\e=0
  case neg=>exact done k j e a s h0 Iz h
  obtain⟨G7,he⟩:=Iz;have OX:=Oo h0 G7;have jx:=I0 (x.GB[j.toNat]' AA) (Bl _);generalize x.GB[j.toNat]' AA=st at OX jx;obtain⟨nm,JB,Jg,GA,GQ,GY⟩:=st;obtain⟨t1,t2,t3⟩:=jx;simp only[GD.JB,GD.Jg,GD.GQ]at t1 t2 t3;have jw:(GD.mk nm JB Jg GA GQ GY).GG=[.Gh nm,.GV (JB.map Aw),.GV (Jg.map Aw),.GV (GA.map Am),.GV (GQ.map Aq),I GY]:=by rw[GD.IC];rfl
  obtain⟨k4,me⟩:=AFG (N:=N) (l:=l) (i:=i) (Q:=Q) (nm:=nm) (JB:=JB) (Jg:=Jg) (GA:=GA) (GQ:=GQ) (GY:=GY) (w1:=w1) (w68:=R3 0 1 Q w1 k) (k:=j) t2.len t2.all h0 AA (λe a s h=>ih (j+1) e a s AA AA AA h) Jg.length;obtain⟨k5,hk5⟩:=ABG (N:=N) (l:=l) (i:=i) (Q:=Q) (nm:=nm) (JB:=JB) (Jg:=Jg) (GA:=GA) (GQ:=GQ) (GY:=GY) (w1:=w1) (w68:=R3 0 1 Q w1 k) (k:=j) t1.len t1.all t3 ⟨k4,λe a bs s h=>me 0 e a bs s AA AA AA h⟩ JB.length;have Ls:=h.h0;have hl0:=h.lt;show aS _ _ _ _ _ _ _ _ _ _;unfold aS;refine pQ_v Abt ?_;refine pQ_v (Hg (BR x)) ?_;refine IU zh ?_;refine AT6 ?_ λh9=>?_
  case refine_2=>simp[he]at h9;omega
  refine pQ_v Abt ?_;refine Fy (Hg (BR x)) ?_;refine Fy Acz ?_;refine Fy AdF ?_;rw[jw];refine zv ?_;exact⟨k5,hk5 0 e a s.next _ AA AA AA ⟨⟨zh,by simp only[G1,HI];omega⟩,zh,AA⟩⟩
def mX(hl:l.length<=100000)(hw:∀x∈l,x.WF)(I0:∀x∈l,∀st∈x.GB,ABj N st):fY N l:=by
 intro e a
 have done:∀(k:Nat) (i e a:Int) (s:St),0<=i->¬(i<l.length/\e=0)->Vc N e a s->Qj 0 1 (λr c=>∃e' a',c=[ck N e' a']/\r=.tuple []) (k+1) (.GN 0 0) (.GV (l.map Aq)) (I i) s:=by
  intro k i e a s h0 Iz h;have Ls:=h.h0;show iH _ _ _ _ _ _ _ _;unfold iH;exact Ahj
 have loop:∀c:Nat,∃k,∀(i e a:Int) (s:St),0<=i->i<=l.length->l.length-i<=c->Vc N e a s->Qj 0 1 (λr c=>∃e' a',c=[ck N e' a']/\r=.tuple []) k (.GN 0 0) (.GV (l.map Aq)) (I i) s:=by
  intro c
  induction c with
  |zero=>exact⟨1,λi e a s h0 h1 hc h=>done 0 i e a s h0 AA h⟩
  |succ c ih=>
   obtain⟨k,ih⟩:=ih;refine⟨k+1,λi e a s h0 h1 hc h=>?_⟩;by_cases Iz:i<l.length/\e=0
   case neg=>exact done k i e a s h0 Iz h
   obtain⟨G7,he⟩:=Iz;have Gl:=Tw h0 G7;have Jr:l[i.toNat]' AA∈l:=Bl _;generalize l[i.toNat]' AA=x at Gl Jr;have La:x.GB.length<=100000:=by cases hw x Jr with|mk _ _ _ _ _ _ h3 _=>exact h3
   obtain⟨k2,Jm⟩:=AE1 (N:=N) (Q:=λr c=>∃e' a',c=[ck N e' a']/\r=.tuple []) (w1:=Qj 0 1 (λr c=>∃e' a',c=[ck N e' a']/\r=.tuple []) k) h0 AA Gl (hw x Jr) La (I0 x Jr) (λe a s h=>ih (i+1) e a s AA AA AA h) x.GB.length;have Ls:=h.h0;show iH _ _ _ _ _ _ _ _;unfold iH;refine zv ?_;refine IU zh ?_;refine AT6 ?_ λh9=>?_
   case refine_2=>simp[he]at h9;omega
   exact⟨k2,Jm 0 e a s AA AA AA h⟩
 obtain⟨k,hk⟩:=loop l.length;refine AKz 0 rfl _ _ ?_;unfold c43;exact Afu
def u2:∀(c:Nat) (l:List Item),As l<=c->l.length<=100000->(∀x∈l,x.WF)->fY N l:=by
 intro c
 induction c with
 |zero=>
  intro l hl Xx hw;refine mX Xx hw λx hx st I0=>?_;exfalso;obtain⟨q,hq,pN⟩:=B4 hx;have h1:=Oh hq;have h2:As l=As (l.take q)+As (l.drop q):=by rw[<- Item.HY,CX]
  rw[pN]at h1;obtain⟨GL,ex,GB,GY⟩:=x;cases GB with
  |nil=>exact Zq I0 Aai
  |cons st r=>cases st;simp only[BF,Ax,BG]at h1;omega
 |succ c ih=>
  intro l hl Xx hw;refine mX Xx hw λx hx st I0=>?_;have vR:=hw x hx;obtain⟨q,hq,pN⟩:=B4 hx;have h1:=Oh hq;have h2:As l=As (l.take q)+As (l.drop q):=by rw[<- Item.HY,CX]
  rw[pN]at h1;obtain⟨q2,YM,hqs⟩:=B4 I0;have h3:=VF YM;rw[hqs]at h3
  have h4:Ax x.GB<=x.wt:=by
   exact Ad5
  have qV:st.WF:=by cases vR with|mk _ _ _ _ _ _ _ h9=>exact h9 _ I0
  obtain⟨nm,JB,Jg,GA,GQ,GY⟩:=st;cases qV with|mk _ _ _ _ _ _ w1 w2 w3 w4 w5=>
  simp only[BG]at h3;exact⟨w1,w2,ih GQ AA w4 w5⟩
end
end
section
open Go.Proofs
attribute [local irreducible] hY
section
variable{N:List GO} {Q:PV->LLP->Prop}
def AP5{e a:Int}{s:St}(h:s.heap 1=some (.box (ck N e a)))(hQ:Q (.tuple [I a,I e]) []):hY 0 0 Q (.GN 1 0) s:=by unfold hY;exact Adz
def AH2(hN:N.length<=60)(hw:∀n∈N,n.WF)(hQ:∀e a:Int,Q (.tuple [I a,I e]) []):
  ∀c:Nat,∃k,∀(i e a:Int) (s:St),0<=i->i<=N.length->N.length-i<=c->s.heap 0=some (.box [.GV (N.map Ay)])->s.heap 1=some (.box (ck N e a))->1<s.next->hZ 0 0 Q k (.GN 0 0) (.GN 1 0) (I i) s:=by
 have done:∀(k:Nat) (i e a:Int) (s:St),0<=i->¬(i<N.length/\e=0)->s.heap 0=some (.box [.GV (N.map Ay)])->s.heap 1=some (.box (ck N e a))->1<s.next->hZ 0 0 Q (k+1) (.GN 0 0) (.GN 1 0) (I i) s:=by
  intro k i e a s h0 Iz h1 h2 h3;show aN _ _ _ _ _ _ _ _;unfold aN;refine zv ?_;refine Rv zh ?_;refine GF (λh9=>?_) λ_=>AP5 zh (hQ _ _);exact AdV
 intro c
 induction c with
 |zero=>exact⟨1,λi e a s h0 h1 hc=>done 0 i e a s h0 AA⟩
 |succ c ih=>
  obtain⟨k,ih⟩:=ih;refine⟨k+1,λi e a s h0 h1' hc h1 h2 h3=>?_⟩;by_cases Iz:i<N.length/\e=0
  case neg=>exact done k i e a s h0 Iz h1 h2 h3
  obtain⟨G7,he⟩:=Iz;have Zt:=AZi i;have Gl:=Rp h0 G7;have dm:=hw (N[i.toNat]' AA) (Bl _);generalize N[i.toNat]' AA=n at Gl dm;obtain⟨r,e1,a1,Jy,rfl⟩:=((u2 (N:=N) _ n.GQ (Bg _) dm.len dm.GQ) e a).pc;show aN _ _ _ _ _ _ _ _;unfold aN;refine zv ?_;refine Rv zh ?_;refine AT6 ?_ λh9=>?_
  case refine_2=>simp[he]at h9;omega
  refine zv ?_;refine pQ_v Acd ?_;rw[Item.Iu];refine GI Jy rfl rfl AcA rfl ?_;simp only[Gx,MQ];refine zv ?_;rw[Zt];exact ih _ e1 a1 _ AA AA AA zh zh AZn
def u0(hN:N.length<=60)(hw:∀n∈N,n.WF):∃a e:Int,PC BZ 27 [.agg [.GV (N.map Ay)]] [] (.tuple [I a,I e]) []:=by
 obtain⟨K,hK⟩:=AH2 (N:=N) (Q:=λr c=>c=[]/\∃a e:Int,r=.tuple [I a,I e]) hN hw (λe a=>⟨rfl,a,e,rfl⟩) N.length
 have:PQ BZ 27 [.agg [.GV (N.map Ay)]] [] (λr c=>c=[]/\∃a e:Int,r=.tuple [I a,I e]):=by
  refine AKr 0 rfl _ ?_;unfold c27;exact Ag5
 exact Afn
end
end
end Go.Vi
