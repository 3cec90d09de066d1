/- Part of the proof of CauseOrders (own work, made small). -/
import Derived.Test.YtlonlfiaclacdaaGreatF2
set_option linter.all false
set_option maxRecDepth 100000
open Bool renaming and_eq_true->Bk,false_or->Dj,true_or->Fc
open Go renaming FuncId->CE
open Go.Proofs.Tryz renaming prog->BW
open Go.Vi.Edge renaming Gy->A9
open Go.Vi.G8 renaming all->BM,Gy->A2,Il->A8
open Go.Vi.HF renaming Gy->BC,HJ->BO,wt->BK,Il->A7
open Go.Vi.HM renaming name->Ap,Gy->Ao
open Go.Vi.Hc renaming Gy->Ax
open Go.Vi.Hh renaming G1->A4
open Go.Vi.Item renaming r0->BS,dc->BQ,Gy->Aq,HJ->BI,wt->BE,Il->As
open Go.Vi.Obj renaming box->BD
open Go.Vi.St renaming HY->Ar,IB->Ay
open List renaming append_nil->CL,drop_eq_getElem_cons->Bx,getElem?_eq_getElem->BZ,getElem?_map->CH,getElem_mem->Bl,getElem_of_mem->By,length_append->Bf,length_cons->CG,length_map->BX,map_append->Br,mem_append->Bg,mem_cons->Bz,mem_map->B8,mem_singleton->CS,nil_append->CX,range->Bw,take_append_drop->CP
open Nat renaming le_refl->Bd
namespace Go.Vi
attribute [local irreducible] Iq IJ Hf Ij HS Ik G3 G4 HQ IA H7 KV Hx Ig Ie Iz LH LS Jq Kp LG Hw Hg IT pQ Jy JZ Hb HP He H2 IN I0 Int.instDecidableEq Int.decEq instBEqOfDecidableEq
section
open Go.Proofs
def AOD(a c:BA)(b d:Bool):al BW .neq 80 (.agg [.HK a,.bool b]) (.agg [.HK c,.bool d])=some (.bool (!((a.toList==c.toList)&&((b==d)&&true)))):=by kernel_rfl
def AWN(t u:Edge):Bool:= !((t.name.toList==u.name.toList)&&((t.on==u.on)&&true))
def AQL{t u:Edge}{s:St}:I0 (H7 BW .neq 80 (.agg t.Gy) (.agg u.Gy)) s (.bool (AWN t u)) s [] []:=Ho (AOD _ _ _ _)
def yQ{l:List Edge}:∀r∈l.map A9,r.length=2:=Agm
def tY(A B:List Edge)(hA:A.length<=100000):∃b,PC BW 66 [.HC (A.map A9),.HC (B.map A9)] [] (.bool b) []:=by
 have loop:A.length=B.length->∀c:Nat,∃k,∀(i:Int) (s:St),0<=i->i<=A.length->A.length-i<=c->HZ s (Bw 0)=some []->
   AAo 0 0 (λr c=>c=[]/\∃b,r=.bool b) k (.HC (A.map A9)) (.HC (B.map A9)) (I i) s:=by
  intro hAB c
  induction c with
  |zero=>
   refine⟨1,λi s h0 h1 hc hs=>?_⟩;show k9 _ _ _ _ _ _ _ _;unfold k9;refine zv ?_;refine AWI (λh=>?_) ?_
   .have:=Ot h;rw[BX]at this;omega
   .unfold AAn;exact AgQ
  |succ c ih=>
   obtain⟨k,ih⟩:=ih;refine⟨k+1,λi s h0 h1 hc hs=>?_⟩;show k9 _ _ _ _ _ _ _ _;unfold k9;refine zv ?_;refine AWI (λh=>?_) ?_
   .have H5:i<A.length:=by have:=Ot h;rw[BX]at this;omega
    have dZ:=Abg i;refine Aba (HU h0 (Zx h0 H5) rfl) ?_;refine Aba (HU h0 (Zx (l:=B) h0 AA) rfl) ?_;refine HA (AQL (t:=A[i.toNat]' AA) (u:=B[i.toNat]' AA)) ?_;refine⟨zc,?_⟩;refine AWG ?_ ?_
    .exact AgQ
    .refine zv ?_;rw[dZ];exact ih _ s AA AA AA hs
   .unfold AAn;exact AgQ
 have:PQ BW 66 [.HC (A.map A9),.HC (B.map A9)] [] (λr c=>c=[]/\∃b,r=.bool b):=by
  refine ANh 0 rfl _ _ ?_;unfold c66;refine zv ?_;refine AWH ?_ λh=>?_
  .exact Af7
  .obtain⟨k,hk⟩:=loop (by simp at h;omega) A.length;exact⟨k,hk 0 _ AA AA AA rfl⟩
 exact AiW
def Kw(b:Bool)(E:List Edge):LP:=[.bool b,.HC (E.map A9)]
def ZK(a b:Bool)(A B:List Edge)(hA:A.length<=100000):∃r,PC BW 74 [.agg (Kw a A),.agg (Kw b B)] [] (.bool r) []:=by
 obtain⟨q,hq⟩:=tY A B hA
 have:PQ BW 74 [.agg (Kw a A),.agg (Kw b B)] [] (λr c=>c=[]/\∃b,r=.bool b):=by
  refine ANp 0 rfl _ _ ?_;unfold c74;unfold Kw;refine zv ?_;cases a
  .refine zv ?_;cases b
   .refine zv ?_;refine AYj hq ?_;exact Af7
   .exact Akv
  .exact Akv
 exact AiW
def tr(A:List Edge)(w:BA)(on:Bool)(hA:A.length<=1000):PC BW 102 [.HC (A.map A9),.HK w,.bool on] [] (.HC ((A++[Edge.mk w on]).map A9)) []:=by
 have:PQ BW 102 [.HC (A.map A9),.HK w,.bool on] [] (λr c=>c=[]/\r=.HC ((A++[Edge.mk w on]).map A9)):=by
  refine AIo 0 rfl _ _ _ ?_;unfold ARf;refine zv ?_;refine pQ_v (Nd rfl (H8 yQ) (Hl AB AA) zn) ?_;refine pQ_v (KG rfl rfl (Hl AB AA) (H8 yQ) zh (.inr rfl)) ?_;rw[show A.map A9++[[.HK w,.bool on]]=(A++[Edge.mk w on]).map A9 by rw[Br];rfl];exact Ahd
 exact Afg
def Px{V:List HM}(hV:V.length<=100000)(TZ:∀v∈V,v.HH.length<=17){w:BA}(h:Mf (V.map Ap) w=true):∃E:List Edge,PC BW 67 [.HC (V.map Ao),.HK w] [] (.HC (E.map A9)) []/\E.length<=17:=by
 obtain⟨rv,hrv,oX⟩:=eg V hV w;obtain⟨q0,q1⟩:=oX.Mf h;have HV:=JS q0 q1;have hl:=TZ (V[rv.toNat]' AA) (Bl _);generalize V[rv.toNat]' AA=v at HV hl
 have:PQ BW 67 [.HC (V.map Ao),.HK w] [] (λr c=>c=[]/\r=.HC (v.HH.map A9)):=by
  refine ANi 0 rfl _ _ ?_;unfold c67;refine zv ?_;refine AbY hrv ?_;refine pQ_v (HU q0 HV rfl) ?_;exact Ahd
 obtain⟨r,c,I5,rfl,rfl⟩:=this;exact⟨_,I5,hl⟩
end
section
open Go.Proofs
def QCk(r:PV):Prop:=∃(b:Bool) (E:List Edge),r=.agg (Kw b E)/\E.length<=18
def QI(k:Bool×List Edge):LP:=Kw k.1 k.2
def AAx{l:List (Bool×List Edge)}{i:Int}(h0:0<=i)(h:i<l.length):(l.map QI)[i.toNat]?=some (QI (l[i.toNat]' AA)):=Aih
def ACo{l:List (Bool×List Edge)}:∀r∈l.map QI,r.length=2:=Agm
structure xk (N:List G8) (e a:Int) (xr:List PV) (s:St):Prop where
 h0:s.heap 0=some (.box (ck N e a))
 h1:s.heap 1=some (.box xr)
 h2:s.heap 2=some (.box [.bool false,.nil])
 lt:3<s.next
def xk.ck{N:List G8}{e a:Int}{xr:LP}{s:St}(h:xk N e a xr s)(e' a':Int):xk N e' a' xr (s.set 0 (.box (ck N e' a'))):=⟨Ay,(Ar AA).trans h.h1,(Ar AA).trans h.h2,h.lt⟩
attribute [local irreducible] cD Ui WY WZ Uj cC o8
section
variable{N:List G8} {V:List HM} {e a:Int} {Q:PV->LLP->Prop} {xr:LP} {s:St} {K:List (Bool×List Edge)} {bk:Nat} {f s1 tk tl i m HI:Int} {nm:BA} {G9:List Hh}
def Q73(N:List G8)(Q:PV->LLP->Prop):Prop:=∀(r:PV) (e' a':Int),QCk r->Q r [ck N e' a']
def AL5{nb:Nat}{E:List Edge}(hQ:Q73 N Q)(hE:E.length<=17)(h:xk N e a (Rb f s1 nm tk tl i m G9 HI) s)(hb:s.heap nb=some (.box (Kw false E))):cD 0 1 Q (.G5 1 0) (.G5 2 0) (.G5 nb 0) s:=by have Mt:=h.h0;have mU:=h.h1;have h22:=h.h2;unfold Kw at hb;unfold cD;refine zv ?_;refine AbZ (tr E nm (i==1) AA) ?_;exact HB AdY rfl AdX (hQ _ _ _ ⟨false,_,rfl,by simp;omega⟩)
def AFT{E:List Edge}(hQ:Q73 N Q)(hE:E.length<=17)(h:xk N e a xr s):Ui 0 1 Q (.G5 2 0) (.HC (E.map A9)) s:=by have Mt:=h.h0;have h22:=h.h2;unfold Ui;refine zv ?_;exact Aj2
def AAc(cs:LP)(b:Bool)(E:List Edge):Prop:=cs=Kw b E\/(cs=[.bool b,.nil]/\E=[])
def AOF{nb:Nat}{cs:LP}{b:Bool}{E:List Edge}(hQ:Q73 N Q)(hE:E.length<=18)(hm:AAc cs b E)(h:xk N e a xr s)(hb:s.heap nb=some (.box cs)):WY 0 1 Q (.G5 2 0) (.G5 nb 0) s:=by
 have Mt:=h.h0;have h22:=h.h2;rcases hm with rfl|⟨rfl,rfl⟩
 .unfold Kw at hb;unfold WY;refine zv ?_;exact HB AdY rfl AdX (hQ _ _ _ ⟨b,E,rfl,hE⟩)
 .unfold WY;refine zv ?_;exact HB AdY rfl AdX (hQ _ _ _ ⟨b,[],rfl,AD⟩)
def AKp(hQ:Q73 N Q)(Rp:xr[8]?=some (I HI))(hK:K.length<=100000)(hKE:∀k∈K,k.2.length<=18){nb:Nat}(hnb:2<nb):
  ∀c:Nat,∃k,∀(j e a:Int) (s:St) (cs:LP) (b:Bool) (E:List Edge),0<=j->j<=K.length->K.length-j<=c->xk N e a xr s->s.heap nb=some (.box cs)->AAc cs b E->E.length<=18->
   Rh 0 1 Q k (.G5 0 0) (.G5 1 0) (.G5 2 0) (.H6 bk (K.map QI)) (.G5 nb 0) (I j) s:=by
 have done:∀(k:Nat) (j e a:Int) (s:St) (cs:LP) (b:Bool) (E:List Edge),0<=j->j=K.length->xk N e a xr s->s.heap nb=some (.box cs)->AAc cs b E->E.length<=18->
   Rh 0 1 Q (k+1) (.G5 0 0) (.G5 1 0) (.G5 2 0) (.H6 bk (K.map QI)) (.G5 nb 0) (I j) s:=by
  intro k j e a s cs b E h0 hj h hb hm hE;show Ya _ _ _ _ _ _ _ _ _ _ _;unfold Ya;refine zv ?_;refine Gw (λh9=>?_) λ_=>AOF hQ hE hm h hb;exact AfT
 intro c
 induction c with
 |zero=>exact⟨1,λj e a s cs b E h0 h1 hc h hb hm hE=>done 0 j e a s cs b E h0 AA h hb hm hE⟩
 |succ c ih=>
  obtain⟨k,ih⟩:=ih;refine⟨k+1,λj e a s cs b E h0 h1 hc h hb hm hE=>?_⟩;by_cases H5:j<K.length
  case neg=>exact done k j e a s cs b E h0 AA h hb hm hE
  have OA:=Abg j;have HV:=AAx h0 H5;have hkE:=hKE (K[j.toNat]' AA) (Bl _);generalize K[j.toNat]' AA=u at HV hkE;obtain⟨ub,uE⟩:=u;obtain⟨r,hr⟩:=ZK b ub E uE AA
  have next:∀(e a:Int) (s:St),xk N e a xr s->s.heap nb=some (.box cs)->Uj 0 1 Q (Rh 0 1 Q k) (.G5 0 0) (.G5 1 0) (.G5 2 0) (.H6 bk (K.map QI)) (.G5 nb 0) (I j) s:=by
   intro e a s h hb;have Mt:=h.h0;have mU:=h.h1;have h22:=h.h2
   have inc:∀(s:St) (cs:LP) (b:Bool) (E:List Edge),xk N e a xr s->s.heap nb=some (.box cs)->AAc cs b E->E.length<=18->WZ 0 1 Q (Rh 0 1 Q k) (.G5 0 0) (.G5 1 0) (.G5 2 0) (.H6 bk (K.map QI)) (.G5 nb 0) (I j) s:=by
    intro s cs b E h hb hm hE;unfold WZ;refine zv ?_;rw[OA];exact ih _ e a s cs b E AA AA AA h hb hm hE
   unfold Uj;rcases hm with rfl|⟨rfl,rfl⟩
   .unfold Kw at hb;refine zv ?_;cases b
    .refine zv ?_;exact inc s _ false E h hb (.inl rfl) hE
    .exact Aha
   .refine zv ?_;cases b
    .refine zv ?_;exact inc s _ false [] h hb (.inr ⟨rfl,rfl⟩) hE
    .exact Aha
  have fail:Hb BW 68 [.G5 0 0,I HI,I 27] s (λv303 AY8=>Uj 0 1 Q (Rh 0 1 Q k) (.G5 0 0) (.G5 1 0) (.G5 2 0) (.H6 bk (K.map QI)) (.G5 nb 0) (I j) AY8):=by
   have Mt:=h.h0;obtain⟨r,e2,a2,Jh,rfl,h2,_⟩:=(JQ (N:=N) (e:=e) (a:=a) HI 27 AA).pc;refine Gz Jh rfl rfl AdX rfl ?_;exact next e2 a2 _ (h.ck e2 a2) zh
  have Mt:=h.h0;have mU:=h.h1;show Ya _ _ _ _ _ _ _ _ _ _ _;unfold Ya;refine zv ?_;refine AWH ?_ λh9=>?_
  case refine_2=>have:=Zy h9;rw[BX]at this;omega
  rcases hm with Jw|⟨Jw,rfl⟩
  .rw[Jw]at hb;unfold Kw at hb;exact Akl
  .rw[Jw]at hb;exact Akl
end
end
section
open Go.Proofs
attribute [local irreducible] cD Ui WY WZ Uj cC o8
section
variable{N:List G8} {V:List HM} {e a:Int} {Q:PV->LLP->Prop} {s:St} {K:List (Bool×List Edge)} {bk:Nat} {f s1 tk tl i m HI:Int} {nm:BA} {G9:List Hh} {nd:Int}
def AJq(hV:V.length<=100000)(TZ:∀v∈V,v.HH.length<=17)(hK:K.length=G9.length)(Sr:qw f G9.length)(hKE:∀k∈K,k.2.length<=18)(Vk:f=2\/f=9\/f=10->Mf (V.map Ap) nm=true)(hQ:Q73 N Q)
  (h:xk N e a (Rb f s1 nm tk tl i m G9 HI) s):cC 0 1 Q (.G5 0 0) (.HC (V.map Ao)) (.G5 1 0) (.G5 2 0) (.H6 bk (K.map QI)) (I f) (.bool (f==1||f==12)) s:=by
 have Mt:=h.h0;have mU:=h.h1;have h22:=h.h2;have H5:=h.lt;unfold cC;cases hc:(f==1||f==12)
 case true=>
  refine ct ?_;exact AjH
 refine cf ?_;refine zv ?_;cases g2:(f==2)
 case true=>
  obtain⟨E,hE,hEl⟩:=Px hV TZ (Vk (by simp at g2;omega));refine zv ?_;refine AbZ hE ?_;exact Aj2
 refine zv ?_;cases g9:(f==9)
 case true=>
  have Mv:=Sr.1 (by simp at g9;omega);obtain⟨E,hE,hEl⟩:=Px hV TZ (Vk (by simp at g9;omega));have HV:=AAx (l:=K) (i:=0) AA AA;have hkE:=hKE (K[(0:Int).toNat]' AB) (Bl _);generalize K[(0:Int).toNat]' AB=u at HV hkE;obtain⟨ub,uE⟩:=u;obtain⟨r,hr⟩:=ZK ub false uE E AdL;refine zv ?_;refine AbZ hE ?_;refine Aba AeF ?_;refine AYj hr ?_;refine⟨zc,?_⟩;have hL:xk N e a (Rb f s1 nm tk tl i m G9 HI) ((s.new (BD [.bool false,.nil])).set s.next (BD (Kw false E))):=⟨zh,zh,zh,by simp only[Hj,Hz];omega⟩
  have hb:((s.new (BD [.bool false,.nil])).set s.next (BD (Kw false E))).heap s.next=some (.box (Kw false E)):=zh;refine AWH ?_ λ_=>AL5 hQ hEl hL hb;refine zv ?_;obtain⟨r,e2,a2,Jh,rfl,h2,_⟩:=(JQ (N:=N) (e:=e) (a:=a) HI 27 AA).pc;refine Gz Jh rfl rfl (Lo hL.h0 rfl) rfl ?_;exact AL5 hQ hEl (hL.ck e2 a2) ((Ar AA).trans hb)
 refine zv ?_;cases g10:(f==10)
 case true=>
  have Jr:=Sr.2.1 (by simp at g10;omega);obtain⟨E,hE,hEl⟩:=Px hV TZ (Vk (by simp at g10;omega));have HV:=AAx (l:=K) (i:=0) AA AA;have hkE:=hKE (K[(0:Int).toNat]' AB) (Bl _);generalize K[(0:Int).toNat]' AB=u at HV hkE;obtain⟨ub,uE⟩:=u;have PO:=AAx (l:=K) (i:=1) AA AA;have ATp:=hKE (K[(1:Int).toNat]' AB) (Bl _);generalize K[(1:Int).toNat]' AB=u1 at PO ATp;obtain⟨ub1,uE1⟩:=u1;obtain⟨r,hr⟩:=ZK ub false uE (E++[Edge.mk nm true]) AdL;obtain⟨r1,VJ⟩:=ZK ub1 false uE1 (E++[Edge.mk nm false]) (by simp only at ATp;omega);refine zv ?_;refine AbY hE ?_;simp only[Mk,Lu];refine zv ?_;refine AbY (tr E nm true AA) ?_;simp only[Mk,Lu];refine zv ?_;refine AbY (tr E nm false AA) ?_;simp only[Mk,Lu];refine zv ?_;refine Aba AeF ?_;refine AYi hr ?_;simp only[Oo,Lu];refine zv ?_;have hL:xk N e a (Rb f s1 nm tk tl i m G9 HI) ((((s.new (BD [.bool false,.nil])).set s.next (BD (Kw false (E++[Edge.mk nm true])))).new (BD [.bool false,.nil])).set (s.next+1) (BD (Kw false (E++[Edge.mk nm false])))):=⟨zh,zh,zh,by simp only[Hj,Hz];omega⟩
  have fail:Hb BW 68 [.G5 0 0,I HI,I 27] ((((s.new (BD [.bool false,.nil])).set s.next (BD (Kw false (E++[Edge.mk nm true])))).new (BD [.bool false,.nil])).set (s.next+1) (BD (Kw false (E++[Edge.mk nm false])))) (λv219 AY6=>Ui 0 1 Q (.G5 2 0) (.HC (E.map A9)) AY6):=by
   obtain⟨r,e2,a2,Jh,rfl,h2,_⟩:=(JQ (N:=N) (e:=e) (a:=a) HI 27 AA).pc;refine Gz Jh rfl rfl (Lo hL.h0 rfl) rfl ?_;exact AFT hQ hEl (hL.ck e2 a2)
  cases r
  .refine zv ?_;refine⟨zc,?_⟩;refine zv ?_;exact fail
  .refine zv ?_;refine Aag Ae1 ?_;refine AYi VJ ?_;simp only[Oo,Lu];refine zv ?_;refine⟨zc,?_⟩;refine AWH ?_ λ_=>AFT hQ hEl hL;refine zv ?_;exact fail
 refine zv ?_;obtain⟨k,hk⟩:=AKp (N:=N) (Q:=Q) (K:=K) (bk:=bk) (xr:=Rb f s1 nm tk tl i m G9 HI) hQ rfl AcI hKE (nb:=s.next) AA K.length;exact⟨k,hk 0 e a _ [.bool true,.nil] true [] AA AA AA ⟨zh,zh,zh,by simp only[Hj,Hz];omega⟩ zh (.inr ⟨rfl,rfl⟩) AD⟩
def AJr(hV:V.length<=100000)(TZ:∀v∈V,v.HH.length<=17)(hK:e=0->K.length=G9.length)(Sr:qw f G9.length)(hKE:∀k∈K,k.2.length<=18)(Vk:f=2\/f=9\/f=10->Mf (V.map Ap) nm=true)(hQ:Q73 N Q)
  (h:xk N e a (Rb f s1 nm tk tl i m G9 HI) s):o8 0 1 Q (.G5 0 0) (.HC (V.map Ao)) (.G5 1 0) (.G5 2 0) (.H6 bk (K.map QI)) s:=by
 have Mt:=h.h0;have mU:=h.h1;have h22:=h.h2;unfold o8;refine zv ?_;refine Gw (λhb=>?_) λhb=>?_
 .exact AjH
 have he:e=0:=by simpa using hb
 have key:=AJq (bk:=bk) hV TZ (hK he) Sr hKE Vk hQ h;refine zv ?_;cases g1:(f==1)
 case true=>
  rw[g1,Fc]at key;exact ct key
 refine zv ?_;rw[g1,Dj]at key;exact key
def xe(N:List G8)(V:List HM)(x:Hh):Prop:=∀e a,CF N 73 [.agg x.Gy,.HC (V.map Ao)] e a λr _ _=>QCk r
structure ARS (N:List G8) (e a:Int) (xr:List PV) (T:List (Bool×List Edge)) (eo:Nat) (s:St):Prop where
 i:xk N e a xr s
 h3:s.heap 3=some (.Hm (T.map QI).length eo)
 ho:T.map QI=[]\/eo=2
def AFH(hV:V.length<=100000)(TZ:∀v∈V,v.HH.length<=17){x:Hh}(hw:x.WF):Qc N (V.map Ap) nd x->xe N V x:=by
 induction hw with
 |mk f s1 nm tk tl i m G9 HI Sr hf hs vj ht hk ih=>
 intro fI e a;obtain⟨Vk,Vf,h18,vU⟩:=fI.pw;have fk:G9.length<=100000:=Sr.2.2.2.2;have mc:(A4 G9).length=G9.length:=by rw[Hh.Jc,BX]
 have hQ:Q73 N (λr c=>∃e' a',c=[ck N e' a']/\QCk r):=λr e' a' h=>⟨e',a',rfl,h⟩
 have done:∀(k:Nat) (e1 a1:Int) (j:Int) (T:List (Bool×List Edge)) (eo:Nat) (s:St),0<=j->¬(j<G9.length/\e1=0)->j<=G9.length->(T.length:Int)=j->(∀t∈T,t.2.length<=18)->ARS N e1 a1 (Rb f s1 nm tk tl i m G9 HI) T eo s->
   eR 0 1 (λr c=>∃e' a',c=[ck N e' a']/\QCk r) (k+1) (.G5 0 0) (.HC (V.map Ao)) (.G5 1 0) (.G5 2 0) (.H6 3 (T.map QI)) (I j) s:=by
  intro k e1 a1 j T eo s h0 JU h1 hT RG h;have Mt:=h.i.h0;have mU:=h.i.h1;show Yb _ _ _ _ _ _ _ _ _ _ _;unfold Yb;refine zv ?_;refine JG zh ?_;refine AWI (λh9=>?_) ?_
  .exact Agy
  .exact AJr hV TZ (λh=>by have:¬j<G9.length:=λh2=>JU ⟨h2,h⟩;omega) Sr RG Vk hQ h.i
 have loop:∀c:Nat,∃k,∀(e1 a1:Int) (j:Int) (T:List (Bool×List Edge)) (eo:Nat) (s:St),0<=j->j<=G9.length->G9.length-j<=c->(T.length:Int)=j->(∀t∈T,t.2.length<=18)->ARS N e1 a1 (Rb f s1 nm tk tl i m G9 HI) T eo s->
   eR 0 1 (λr c=>∃e' a',c=[ck N e' a']/\QCk r) k (.G5 0 0) (.HC (V.map Ao)) (.G5 1 0) (.G5 2 0) (.H6 3 (T.map QI)) (I j) s:=by
  intro c
  induction c with
  |zero=>exact⟨1,λe1 a1 j T eo s h0 h1 hc hT RG h=>done 0 e1 a1 j T eo s h0 AA h1 hT RG h⟩
  |succ c kA=>
   obtain⟨k,kA⟩:=kA;refine⟨k+1,λe1 a1 j T eo s h0 h1 hc hT RG h=>?_⟩;by_cases JU:j<G9.length/\e1=0
   case neg=>exact done k e1 a1 j T eo s h0 JU h1 hT RG h
   obtain⟨H5,OR⟩:=JU;have OA:=Abg j;have Kk:G9[j.toNat]' AA∈G9:=Bl _;obtain⟨r,e2,a2,I5,b,E,rfl,hEl⟩:=((ih _ Kk (vU _ Kk)) e1 a1).pc;have Mt:=h.i.h0;have mU:=h.i.h1;have h22:=h.i.h2;have h33:=h.h3;have AF6:=h.i.lt;show Yb _ _ _ _ _ _ _ _ _ _ _;unfold Yb;refine zv ?_;refine JG zh ?_;refine AWH ?_ λh9=>?_
   case refine_2=>simp[OR,mc]at h9;omega
   refine zv ?_;refine Gu Adn ?_;refine Gu Aea ?_;refine AVt I5 (Lh rfl) rfl AdX rfl ?_;refine pQ_v (KG rfl rfl (Hl AB AA) (H8 ACo) zh (h.ho.imp (λh=>by rw[h];rfl) λh=>h.symm)) ?_;rw[OA];have M9:T.map QI++[QI (b,E)]=(T++[(b,E)]).map QI:=by rw[Br];rfl
   have h8:=kA e2 a2 (j+1) (T++[(b,E)]) 2 ((s.set 0 (.box (ck N e2 a2))).set 3 (.Hm ((T.map QI).length+1) 2)) AA AA AA AB (by
    intro u hu;rcases Bg.1 hu with h|h
    .exact RG u h
    .rw[CS.1 h];exact hEl) ⟨⟨zh,zh,zh,AF6⟩,Abt,.inr rfl⟩
   rw[<- M9]at h8;exact h8
 obtain⟨k,Jr⟩:=loop G9.length;refine ANo 0 rfl _ _ _ ?_;unfold c73;refine pQ_v AeR ?_;exact⟨k,Jr e a 0 [] 0 _ AA AA AA rfl AD ⟨⟨zh,zh,zh,by simp[Hj,I4]⟩,zh,.inl rfl⟩⟩
end
end
section
open Go.Proofs
def AFa{l:List Hh}{q:Nat}(h:q<l.length):l[q].wt+Hh.Il (l.drop (q+1))=Hh.Il (l.drop q):=by rw[Bx h];simp[Hh.Il]
def VN{x:Hh}:Js [.agg x.Gy] 0=some ([.agg x.Gy],[]):=by simp[Js,PV.qx,x.KR]
attribute [local irreducible] lF o7 gQ gL
section
variable{N:List G8} {V:List HM} {S:List BA} {nd:Int}
def ALh{x:Hh}(hw:x.WF):Qc N S nd x->x.wt<=20000->∃U:List BA,PC BW 72 [.agg x.Gy] [] (.H6 1 (U.map Gv)) []/\U.length<=x.wt/\∀w∈U,Mf S w=true:=by
 induction hw with
 |mk f s1 nm tk tl i m G9 HI Sr hf hs vj ht hk ih=>
 intro fI Pe;obtain⟨Vk,Vf,h18,vU⟩:=fI.pw;simp only[Hh.wt]at Pe⊢;have fk:G9.length<=100000:=Sr.2.2.2.2;have mc:(A4 G9).length=G9.length:=by rw[Hh.Jc,BX]
 have loop:∀(W:Nat),W<=20000->∀(c:Nat) (j:Int) (U:List BA),0<=j->j<=G9.length->G9.length-j<=c->U.length+Hh.Il (G9.drop j.toNat)<=W->(∀w∈U,Mf S w=true)->∃k,∀(eo:Nat) (s:St),s.heap 0=some (.box (Rb f s1 nm tk tl i m G9 HI))->s.heap 2=some (.Hm (U.map Gv).length eo)->(U.map Gv=[]\/eo=1)->2<s.next->
   rN 1 0 (λr c=>c=[]/\∃U:List BA,r=.H6 1 (U.map Gv)/\U.length<=W/\∀w∈U,Mf S w=true) k (.G5 0 0) (.H6 2 (U.map Gv)) (I j) s:=by
  intro W hW c
  induction c with
  |zero=>
   intro j U h0 h1 hc hU hUS;exact Afz
  |succ c kA=>
   intro j U h0 h1 hc hU hUS;by_cases H5:j<G9.length
   case neg=>
    exact Afz
   have OA:=Abg j;have Kk:G9[j.toNat]' AA∈G9:=Bl _;have hwm:=AFa (l:=G9) (q:=j.toNat) AA;obtain⟨U1,I5,hU1,AWj⟩:=ih _ Kk (vU _ Kk) AA;obtain⟨k,Jr⟩:=kA (j+1) (U++U1) AA AA AA (by rw[show(j+1).toNat=j.toNat+1 by omega,Bf];omega) λw hw=>(Bg.1 hw).elim (hUS w) (AWj w);rw[Br]at Jr;refine⟨k+1,λeo s hx h2 ho hl=>?_⟩;show WX _ _ _ _ _ _ _ _;unfold WX;refine zv ?_;refine AWH ?_ λh9=>?_
   case refine_2=>have:=Zy h9;rw[mc]at this;omega
   refine zv ?_;refine Gu Adn ?_;refine Gu Aea ?_;refine Gz I5 VN rfl rfl rfl ?_;simp only[LZ,Lu];refine pQ_v Adu ?_;rw[OA];exact Jr 1 _ zh AcP (.inr rfl) Abo
 have:PQ BW 72 [.agg (Hh.mk f s1 nm tk tl i m G9 HI).Gy] [] (λr c=>c=[]/\∃U:List BA,r=.H6 1 (U.map Gv)/\U.length<=(if f=0 then 0 else 1)+Hh.Il G9/\∀w∈U,Mf S w=true):=by
  refine ANn 1 rfl _ ?_;unfold c72;simp only[Hh.Gy];refine zv ?_;refine iV (Gy:=Rb f s1 nm tk tl i m G9 HI) rfl rfl ?_;refine iV (Gy:=Rb f s1 nm tk tl i m G9 HI) rfl rfl ?_;refine AWI (λh9=>?_) ?_
  .have aO:f=2\/f=9\/f=10:=by simp at h9;omega
   have hh:=Vk aO;have hf0:¬f=0:=AA;rw[Ng hf0];rw[Ng hf0]at Pe;obtain⟨k,Jr⟩:=loop (1+Hh.Il G9) Pe G9.length 0 [nm] AA AA AA AD (by simpa using hh);refine zv ?_;refine pQ_v AeN ?_;unfold o7;exact⟨k,Jr 1 _ zh zh (.inr rfl) (by simp[Hj,Hz,I4])⟩
  .obtain⟨k,Jr⟩:=loop ((if f=0 then 0 else 1)+Hh.Il G9) Pe G9.length 0 [] AA AA AA AD AD;unfold o7;exact⟨k,Jr 0 _ zh zh (.inl rfl) (by simp[Hj,I4])⟩
 obtain⟨r,c,I5,rfl,U,rfl,h1,h2⟩:=this;exact⟨U,I5,h1,h2⟩
def dD(hV:V.length<=100000)(TZ:∀v∈V,v.HH.length<=17){U O:List BA}(hU:U.length<=100000)(hO:O.length<=100000)(hUV:∀w∈U,Mf (V.map Ap) w=true)(HI:Int)(e a:Int):
  CF N 71 [.HC (U.map Gv),.HC (V.map Ao),.HC (O.map Gv),I HI] e a λr _ _=>r=.tuple []:=by
 have done:∀(k:Nat) (j e a:Int) (s:St),0<=j->¬(j<U.length/\e=0)->s.heap 0=some (.box (ck N e a))->
   lD 0 1 (λr c=>∃e' a',c=[ck N e' a']/\r=.tuple []) (k+1) (.G5 0 0) (.HC (U.map Gv)) (.HC (V.map Ao)) (.HC (O.map Gv)) (I HI) (I j) s:=by
  intro k j e a s h0 JU h;show lE _ _ _ _ _ _ _ _ _ _ _;unfold lE;exact Akf
 have loop:∀c:Nat,∃k,∀(j e a:Int) (s:St),0<=j->j<=U.length->U.length-j<=c->s.heap 0=some (.box (ck N e a))->
   lD 0 1 (λr c=>∃e' a',c=[ck N e' a']/\r=.tuple []) k (.G5 0 0) (.HC (U.map Gv)) (.HC (V.map Ao)) (.HC (O.map Gv)) (I HI) (I j) s:=by
  intro c
  induction c with
  |zero=>exact⟨1,λj e a s h0 h1 hc h=>done 0 j e a s h0 AA h⟩
  |succ c ih=>
   obtain⟨k,ih⟩:=ih;refine⟨k+1,λj e a s h0 h1 hc h=>?_⟩;by_cases JU:j<U.length/\e=0
   case neg=>exact done k j e a s h0 JU h
   obtain⟨H5,he⟩:=JU;have OA:=Abg j;have HV:=Mj h0 H5;have Yw:=hUV (U[j.toNat]' AA) (Bl _);generalize U[j.toNat]' AA=w at HV Yw;obtain⟨E,hE,hEl⟩:=Px hV TZ Yw
   have next:∀(e a:Int) (s:St),s.heap 0=some (.box (ck N e a))->gQ 0 1 (λr c=>∃e' a',c=[ck N e' a']/\r=.tuple []) (lD 0 1 (λr c=>∃e' a',c=[ck N e' a']/\r=.tuple []) k) (.G5 0 0) (.HC (U.map Gv)) (.HC (V.map Ao)) (.HC (O.map Gv)) (I HI) (I j) s:=by
    intro e a s h;unfold gQ;exact Aj6
   show lE _ _ _ _ _ _ _ _ _ _ _;unfold lE;refine zv ?_;refine JG zh ?_;refine AWH ?_ λh9=>?_
   case refine_2=>simp[he]at h9;omega
   refine pQ_v AeM ?_;refine AbZ (M5 O w AA) ?_;cases hh:Mf O w
   .refine zv ?_;refine Aah AeM ?_;refine AYj hE ?_;refine AWH ?_ λ_=>next e a s h;obtain⟨r,e2,a2,Jh,rfl,h2,_⟩:=(JQ (N:=N) (e:=e) (a:=a) HI 27 AA).pc;exact Ajh
   .refine zv ?_;exact next e a s h
 obtain⟨k,hk⟩:=loop U.length;refine ANm 0 rfl _ _ _ _ _ ?_;unfold c71;exact⟨k,hk 0 e a _ AA AA AA zh⟩
def u4(hV:V.length<=100000)(TZ:∀v∈V,v.HH.length<=17){l:List HM}(hl:l.length<=100000)(RF:∀v∈l,v.HH.length<=17)(hc:∀v∈l,Ry (V.map Ap) v)(e a:Int):
  CF N 41 [.HC (l.map Ao),.HC (V.map Ao)] e a λr _ _=>r=.tuple []:=by
 have pq:∀{Q:PV->LLP->Prop} (w:PV->PV->PV->F1) (i:Int) (fj:0<=i) (hi:i<l.length) (v:HM) (HV:(l.map Ao)[i.toNat]?=some v.Gy) (II:v.HH.length<=17) (iE:Ry (V.map Ap) v),(∀e a s,s.heap 0=some (.box (ck N e a))->w (.G5 0 0) (.HC (l.map Ao)) (.HC (V.map Ao)) (I (i+1)) s)->
   ∀c:Nat,∃k,∀(j e a:Int) (s:St),0<=j->j<=v.HH.length->v.HH.length-j<=c->s.heap 0=some (.box (ck N e a))->ko 0 1 Q w k (.G5 0 0) (.HC (l.map Ao)) (.HC (V.map Ao)) (I i) (I j) s:=by
  intro Q w i fj hi v HV II iE TN;have dZ:=Abg i
  have out:∀e a s,s.heap 0=some (.box (ck N e a))->gL 0 1 Q w (.G5 0 0) (.HC (l.map Ao)) (.HC (V.map Ao)) (I i) s:=by
   intro e a s h;unfold gL;refine zv ?_;rw[dZ];exact TN e a s h
  have done:∀(j e a:Int) (s:St) (k:Nat),0<=j->j=v.HH.length->s.heap 0=some (.box (ck N e a))->ko 0 1 Q w (k+1) (.G5 0 0) (.HC (l.map Ao)) (.HC (V.map Ao)) (I i) (I j) s:=by
   intro j e a s k h0 hj h;show eJ _ _ _ _ _ _ _ _ _ _ _;unfold eJ;refine pQ_v Adi ?_;refine Gw (λh9=>?_) λ_=>out e a s h;exact AfT
  intro c
  induction c with
  |zero=>exact⟨1,λj e a s h0 h1 hc h=>done j e a s 0 h0 AA h⟩
  |succ c ih=>
   obtain⟨k,ih⟩:=ih;refine⟨k+1,λj e a s h0 h1 hc h=>?_⟩;by_cases H5:j<v.HH.length
   case neg=>exact done j e a s k h0 AA h
   have OA:=Abg j;have Pd:=Zx h0 H5;have Yw:=iE (v.HH[j.toNat]' AA) (Bl _);generalize v.HH[j.toNat]' AA=g at Pd Yw;obtain⟨E,hE,hEl⟩:=Px hV TZ Yw;obtain⟨r,hr⟩:=tY E (v.HH.take j.toNat) AA;show eJ _ _ _ _ _ _ _ _ _ _ _;unfold eJ;refine pQ_v Adi ?_;refine AWH ?_ λh9=>?_
   case refine_2=>have:=Zy h9;rw[BX]at this;omega
   refine Aba Adi ?_;refine Aba Ae9 ?_;refine AYi hE ?_;refine Aba Adi ?_;refine HA (ABu (r1:=[I j]) (r2:=[]) (a:=none) (c:=some j.toNat) rfl rfl Acq AB AD (H8 yQ)) ?_
   have OS:((v.HH.map A9).drop ((none:ON).getD 0)).take ((some j.toNat).getD (v.HH.map A9).length-(none:ON).getD 0)=(v.HH.take j.toNat).map A9:=by
    simp[List.map_take]
   rw[OS];refine AYj hr ?_;refine⟨zc,?_⟩;refine AWG ?_ ?_
   .refine pQ_v Adi ?_;obtain⟨r,e2,a2,Jh,rfl,h2,_⟩:=(JQ (N:=N) (e:=e) (a:=a) v.HI 27 AA).pc;refine Gz Jh rfl rfl AdX rfl ?_;exact out e2 a2 _ zh
   .refine zv ?_;rw[OA];exact ih _ e a _ AA AA AA h
 have wX:∀c:Nat,∃k,∀(i e a:Int) (s:St),0<=i->i<=l.length->l.length-i<=c->s.heap 0=some (.box (ck N e a))->
   iu 0 1 (λr c=>∃e' a',c=[ck N e' a']/\r=.tuple []) k (.G5 0 0) (.HC (l.map Ao)) (.HC (V.map Ao)) (I i) s:=by
  have done:∀(i e a:Int) (s:St) (k:Nat),0<=i->¬(i<l.length/\e=0)->s.heap 0=some (.box (ck N e a))->
    iu 0 1 (λr c=>∃e' a',c=[ck N e' a']/\r=.tuple []) (k+1) (.G5 0 0) (.HC (l.map Ao)) (.HC (V.map Ao)) (I i) s:=by
   intro i e a s k h0 JU h;show km _ _ _ _ _ _ _ _ _;unfold km;exact Akf
  intro c
  induction c with
  |zero=>exact⟨1,λi e a s h0 h1 hc h=>done i e a s 0 h0 AA h⟩
  |succ c ih=>
   obtain⟨k,ih⟩:=ih;refine⟨k+1,λi e a s h0 h1 jF h=>?_⟩;by_cases JU:i<l.length/\e=0
   case neg=>exact done i e a s k h0 JU h
   obtain⟨H5,he⟩:=JU;have hm:l[i.toNat]' AA∈l:=Bl _;obtain⟨k2,Jr⟩:=pq (Q:=λr c=>∃e' a',c=[ck N e' a']/\r=.tuple []) (iu 0 1 _ k) i h0 H5 _ (JS h0 H5) (RF _ hm) (hc _ hm) (λe a s h=>ih (i+1) e a s AA AA AA h) (l[i.toNat]' AA).HH.length;show km _ _ _ _ _ _ _ _ _;unfold km;exact Agl
 refine ANZ 0 rfl _ _ _ ?_;unfold c41;exact AjR
end
end
section
open Go.Proofs
structure ql (N:List G8) (V:List HM) (x:Hh):Prop where
 AZG:∃U:List ByteArray,PC BW 72 [.agg x.Gy] [] (.H6 1 (U.map Gv)) []/\U.length<=20000/\∀w∈U,Mf (V.map Ap) w=true
 HH:xe N V x
attribute [local irreducible] gO
section
variable{N:List G8} {V:List HM}
def pE(hV:V.length<=100000)(TZ:∀v∈V,v.HH.length<=17){O:List BA}(hO:O.length<=100000){l:List Hc}(hl:l.length<=100000)(ho:∀t∈l,ql N V t.cond)(e a:Int):CF N 70 [.HC (l.map Ax),.HC (V.map Ao),.HC (O.map Gv)] e a λr _ _=>r=.tuple []:=by
 have done:∀(k:Nat) (i e a:Int) (s:St),0<=i->¬(i<l.length/\e=0)->Xo N e a s->
   lB 0 1 (λr c=>∃e' a',c=[ck N e' a']/\r=.tuple []) (k+1) (.G5 0 0) (.HC (l.map Ax)) (.HC (V.map Ao)) (.HC (O.map Gv)) (I i) s:=by
  intro k i e a s h0 JU h;have Mt:=h.h0;show lC _ _ _ _ _ _ _ _ _ _;unfold lC;exact Akf
 have loop:∀(c:Nat),∃k,∀(i e a:Int) (s:St),0<=i->i<=l.length->l.length-i<=c->Xo N e a s->
   lB 0 1 (λr c=>∃e' a',c=[ck N e' a']/\r=.tuple []) k (.G5 0 0) (.HC (l.map Ax)) (.HC (V.map Ao)) (.HC (O.map Gv)) (I i) s:=by
  intro c
  induction c with
  |zero=>exact⟨1,λi e a s h0 h1 hc h=>done 0 i e a s h0 AA h⟩
  |succ c ih=>
   obtain⟨k,ih⟩:=ih;refine⟨k+1,λi e a s h0 h1 hc h=>?_⟩;by_cases JU:i<l.length/\e=0
   case neg=>exact done k i e a s h0 JU h
   obtain⟨H5,he⟩:=JU;have dZ:=Abg i;have HV:=UK h0 H5;obtain⟨⟨U,hU,hUl,hUS⟩,iE⟩:=ho (l[i.toNat]' AA) (Bl _);generalize l[i.toNat]' AA=t at HV hU iE;obtain⟨r,e1,a1,I5,rfl⟩:=(dD (N:=N) hV TZ (U:=U) (O:=O) AA hO hUS t.HI e a).pc;obtain⟨r,e2,a2,Jh,b,E,rfl,hEl⟩:=(iE e1 a1).pc
   have next:∀(e a:Int) (s:St),Xo N e a s->gO 0 1 (λr c=>∃e' a',c=[ck N e' a']/\r=.tuple []) (lB 0 1 (λr c=>∃e' a',c=[ck N e' a']/\r=.tuple []) k) (.G5 0 0) (.HC (l.map Ax)) (.HC (V.map Ao)) (.HC (O.map Gv)) (I i) s:=by
    intro e a s h;unfold gO;refine zv ?_;rw[dZ];exact ih _ e a s AA AA AA h
   have Mt:=h.h0;have hl0:=h.lt;show lC _ _ _ _ _ _ _ _ _ _;unfold lC;refine zv ?_;refine JG zh ?_;refine AWH ?_ λh9=>?_
   case refine_2=>simp[he]at h9;omega
   refine Aba Adh ?_;refine HA (OD t.cut) ?_;refine Hq hU VN rfl rfl rfl ?_;simp only[LZ,Lu];refine Aba Adh ?_;refine HA (IM t.r11) ?_;refine Hq I5 rfl rfl AdX rfl ?_;simp only[Hu,NN];refine⟨?_,?_⟩
   .simp only[Hj,Hz,dN,OC,Pf,CX,CL];simp[Ih,I6,Jv];exactλ_=>by omega
   refine zv ?_;refine Gw (λ_=>HB rfl rfl AdX ⟨_,_,rfl,rfl⟩) λ_=>?_;refine pQ_v Adh ?_;refine Gu (OD t.cut) ?_;refine Gz Jh (Lh rfl) rfl AdX rfl ?_;simp only[OG,NN];unfold Kw;refine zv ?_;have hL:Xo N e2 a2 (((((s.new (Obj.Hm (U.map Gv).length 1)).set 0 (BD (ck N e1 a1))).set 0 (BD (ck N e2 a2))).new (BD [.bool false,.nil])).set (s.next+1) (BD (Kw b E))):=⟨zh,by simp only[Hj,Hz];omega⟩
   cases hg:(e2==0)
   .refine zv ?_;exact next e2 a2 _ hL
   cases b
   .refine zv ?_;refine AWH ?_ λ_=>next e2 a2 _ hL;refine pQ_v Adh ?_;refine Gu (IM t.r11) ?_;obtain⟨r,e3,a3,VA,rfl,h3,_⟩:=(JQ (N:=N) (e:=e2) (a:=a2) t.HI 27 AA).pc;refine Gz VA rfl rfl (Lo hL.h0 rfl) rfl ?_;exact next e3 a3 _ ⟨Ay,hL.lt⟩
   .refine zv ?_;exact next e2 a2 _ hL
 refine ANl 0 rfl _ _ _ _ ?_;unfold c70;obtain⟨k,hk⟩:=loop l.length;exact AiE
end
end
section
open Go.Proofs
attribute [local irreducible] U3 Qm U4 WT S3 Ud
section
variable{N:List G8} {V:List HM} {Q:PV->LLP->Prop} {l:List Item} {x:Item} {i:Int} {XC:Bool} {O:List BA}
def W42(V:List HM)(Q:PV->LLP->Prop)(l:List Item)(XC:Bool)(O:List BA)(K:Nat)(i:Int)(s:St):Prop:=KJ 0 1 Q K (.G5 0 0) (.HC (l.map Aq)) (.HC (V.map Ao)) (.bool XC) (.HC (O.map Gv)) (I i) s
def zg(hi:0<=i)(O4:i<=100000){K:Nat}(Ix:∀e a s,Xo N e a s->W42 V Q l XC O K (i+1) s){e a:Int}{s:St}(h:Xo N e a s):U3 0 1 Q (KJ 0 1 Q K) (.G5 0 0) (.HC (l.map Aq)) (.HC (V.map Ao)) (.bool XC) (.HC (O.map Gv)) (I i) s:=by have dZ:=Abg i;unfold U3;refine zv ?_;rw[dZ];exact Ix e a s h
def AGo(hV:V.length<=100000)(TZ:∀v∈V,v.HH.length<=17)(hi:0<=i)(O4:i<=100000){K:Nat}(Ix:∀e a s,Xo N e a s->W42 V Q l XC O K (i+1) s)(Pz:x.G6.length<=100000)(sX:∀w∈x.G6,Mf (V.map Ap) w=true){b:Bool}{E:List Edge}(hE:E.length<=18):
  ∀c:Nat,∃k,∀(j e a:Int) (bx bt:Nat) (s:St),0<=j->j<=x.G6.length->x.G6.length-j<=c->qp N e a bx x.Gy s->s.heap bt=some (.box (Kw b E))->bt≠0->
   Ue 0 1 Q (KJ 0 1 Q K) k (.G5 0 0) (.HC (l.map Aq)) (.HC (V.map Ao)) (.bool XC) (.HC (O.map Gv)) (I i) (.G5 bx 0) (.G5 bt 0) (I j) s:=by
 have done:∀(k:Nat) (j e a:Int) (bx bt:Nat) (s:St),0<=j->¬(j<x.G6.length/\e=0)->qp N e a bx x.Gy s->
   Ue 0 1 Q (KJ 0 1 Q K) (k+1) (.G5 0 0) (.HC (l.map Aq)) (.HC (V.map Ao)) (.bool XC) (.HC (O.map Gv)) (I i) (.G5 bx 0) (.G5 bt 0) (I j) s:=by
  intro k j e a bx bt s h0 JU h;have Mt:=h.h0;have iH:=h.hx;have H5:=h.lt;show YN _ _ _ _ _ _ _ _ _ _ _ _ _ _ _;unfold YN;refine zv ?_;refine pQ_v Ad0 ?_;refine JG zh ?_;refine Gw (λh9=>?_) (λ_=>zg hi O4 Ix (e:=e) (a:=a) ⟨h.h0,AA⟩);exact AfK
 intro c
 induction c with
 |zero=>exact⟨1,λj e a bx bt s h0 h1 hc h hb vP=>done 0 j e a bx bt s h0 AA h⟩
 |succ c ih=>
  obtain⟨k,ih⟩:=ih;refine⟨k+1,λj e a bx bt s h0 h1 hc h hb vP=>?_⟩;by_cases JU:j<x.G6.length/\e=0
  case neg=>exact done k j e a bx bt s h0 JU h
  obtain⟨H5,he⟩:=JU;have OA:=Abg j;have pk:=Mj h0 H5;have Kl:=Mj (S:=x.G6) (i:=0) AA AA;have Yw:=sX (x.G6[j.toNat]' AA) (Bl _);have AMN:=sX (x.G6[(0:Int).toNat]' AB) (Bl _);generalize x.G6[j.toNat]' AA=w at pk Yw;generalize x.G6[(0:Int).toNat]' AB=w0 at Kl AMN;obtain⟨E1,hE1,hE1l⟩:=Px hV TZ Yw;obtain⟨E0,hE0,hE0l⟩:=Px hV TZ AMN;obtain⟨r,hr⟩:=ZK b false E E1 AA;obtain⟨r2,hr2⟩:=tY E1 E0 AA
  have next:∀(e a:Int) (s:St),qp N e a bx x.Gy s->s.heap bt=some (.box (Kw b E))->Qm 0 1 Q (KJ 0 1 Q K) (Ue 0 1 Q (KJ 0 1 Q K) k) (.G5 0 0) (.HC (l.map Aq)) (.HC (V.map Ao)) (.bool XC) (.HC (O.map Gv)) (I i) (.G5 bx 0) (.G5 bt 0) (I j) s:=by
   intro e a s h hb;unfold Qm;refine zv ?_;rw[OA];exact ih _ e a bx bt s AA AA AA h hb vP
  have Mt:=h.h0;have iH:=h.hx;have Uv:=h.x0;have MK:=hb;unfold Kw at MK
  have fail:Hb BW 68 [.G5 0 0,I x.HI,I 27] s (λv254 AY7=>Qm 0 1 Q (KJ 0 1 Q K) (Ue 0 1 Q (KJ 0 1 Q K) k) (.G5 0 0) (.HC (l.map Aq)) (.HC (V.map Ao)) (.bool XC) (.HC (O.map Gv)) (I i) (.G5 bx 0) (.G5 bt 0) (I j) AY7):=by
   obtain⟨r,e2,a2,Jh,rfl,h2,_⟩:=(JQ (N:=N) (e:=e) (a:=a) x.HI 27 AA).pc;refine Gz Jh rfl rfl AdX rfl ?_;exact next e2 a2 _ (h.ck e2 a2) ((Ar vP).trans hb)
  show YN _ _ _ _ _ _ _ _ _ _ _ _ _ _ _;unfold YN;refine zv ?_;refine pQ_v Ad0 ?_;refine JG zh ?_;refine AWH ?_ λh9=>?_
  case refine_2=>simp[he]at h9;omega
  refine zv ?_;refine HA Ad0 ?_;refine Aba (HU h0 pk rfl) ?_;refine AYi hE1 ?_;simp only[Mk,Lu];refine zv ?_;refine AYi hr ?_;simp only[Oo,Lu];refine zv ?_;cases r
  .refine zv ?_;refine⟨zc,?_⟩;refine zv ?_;refine Gu AeS ?_;exact fail
  .refine zv ?_;refine Aag Ad0 ?_;refine Aag (HU h0 pk rfl) ?_;refine AYi hE1 ?_;simp only[Mk,Lu];refine zv ?_;refine Mh Ad0 ?_;refine Aag (HU AA Kl rfl) ?_;refine AYi hE0 ?_;simp only[Mk,Lu];refine zv ?_;refine AYi hr2 ?_;simp only[Oo,Lu];refine zv ?_;refine⟨zc,?_⟩;refine AWH ?_ λ_=>next e a s h hb;refine zv ?_;refine Gu AeS ?_;exact fail
end
end
section
open Go.Proofs
attribute [local irreducible] U3 Qm U4 WT S3 Ud
section
variable{N:List G8} {V:List HM} {Q:PV->LLP->Prop} {l:List Item} {x:Item} {i:Int} {XC:Bool} {O:List BA}
def AGV(hV:V.length<=100000)(TZ:∀v∈V,v.HH.length<=17)(hi:0<=i)(O4:i<=100000){K:Nat}(Ix:∀e a s,Xo N e a s->W42 V Q l XC O K (i+1) s)(hQ:∀e' a',Q (.tuple []) [ck N e' a'])(Pz:x.G6.length<=100000)(sX:∀w∈x.G6,Mf (V.map Ap) w=true)(iE:xe N V x.e){e a:Int}{bx:Nat}{s:St}(h:qp N e a bx x.Gy s):
  U4 0 1 Q (KJ 0 1 Q K) (.G5 0 0) (.HC (l.map Aq)) (.HC (V.map Ao)) (.bool XC) (.HC (O.map Gv)) (I i) (.G5 bx 0) s:=by
 have Mt:=h.h0;have iH:=h.hx;have Uv:=h.x0;have H5:=h.lt;obtain⟨r,e2,a2,Jh,b,E,rfl,hEl⟩:=(iE e a).pc;obtain⟨k,hk⟩:=AGo (x:=x) (Q:=Q) (b:=b) (E:=E) hV TZ hi O4 Ix Pz sX hEl x.G6.length;unfold U4;refine zv ?_;refine Gw (λ_=>HB rfl rfl AdX (hQ _ _)) λ_=>?_;refine zv ?_;refine Gu Aej ?_;refine Gz Jh (Lh rfl) rfl AdX rfl ?_;simp only[OG,NN];unfold Kw;refine zv ?_;refine⟨k,hk 0 e2 a2 bx s.next _ AA AA AA ⟨zh,zh,Uv,by simp only[Hj,Hz];omega⟩ zh AA⟩
def AKc(hV:V.length<=100000)(TZ:∀v∈V,v.HH.length<=17)(hi:0<=i)(O4:i<=100000){K:Nat}(Ix:∀e a s,Xo N e a s->W42 V Q l XC O K (i+1) s)(hQ:∀e' a',Q (.tuple []) [ck N e' a'])(hO:O.length<=100000)(Pz:x.G6.length<=20000)
  (hx:x.G0=[]->(∀w∈x.G6,Mf (V.map Ap) w=true)/\ql N V x.e){e a:Int}{bx:Nat}{s:St}(h:qp N e a bx x.Gy s):
  WT 0 1 Q (KJ 0 1 Q K) (.G5 0 0) (.HC (l.map Aq)) (.HC (V.map Ao)) (.bool XC) (.HC (O.map Gv)) (I i) (.G5 bx 0) s:=by
 have Mt:=h.h0;have iH:=h.hx;have Uv:=h.x0;have H5:=h.lt;have hL:Xo N e a s:=⟨h.h0,AA⟩
 unfold WT;refine zv ?_;refine pQ_v Ad6 ?_;by_cases hs:x.G0=[]
 case neg=>
  have OS:0<x.G0.length:=List.length_pos_iff.2 hs;rw[show decide (((x.G0.map BC).length:Int)>0)=true by simp;omega];refine zv ?_;exact zg hi O4 Ix hL
 case pos=>
  obtain⟨sX,hec⟩:=hx hs;obtain⟨U,hU,hUl,hUS⟩:=hec.AZG;rw[show decide (((x.G0.map BC).length:Int)>0)=false by rw[hs];rfl];refine zv ?_;refine Gw (λ_=>zg hi O4 Ix hL) λ_=>?_;cases XC
  .refine cf ?_;exact AGV hV TZ hi O4 Ix hQ AA sX hec.HH h
  .refine ct ?_;refine zv ?_;refine HA Aej ?_;refine Hq hU VN rfl rfl rfl ?_;simp only[LZ,Lu];refine zv ?_;refine HA Ad0 ?_;refine HA Adg ?_;rw[<- Br];refine zv ?_;refine HA AeS ?_;obtain⟨r,e1,a1,I5,rfl⟩:=(dD (N:=N) hV TZ (U:=U++x.G6) (O:=O) AB hO (λw hw=>(Bg.1 hw).elim (hUS w) (sX w)) x.HI e a).pc;refine Hq I5 rfl rfl AdX rfl ?_;simp only[Hu,NN];refine⟨?_,?_⟩
   .simp only[Hj,Hz,dN,OC,Pf,CX,CL];simp[Ih,I6,Jv];exact⟨λ_=>by omega,λ_=>by omega,⟨λ_=>by omega,by kernel_rfl,λ_=>by omega⟩,⟨λ_=>by omega,λ_=>by omega⟩,λ_=>by omega,λ_=>by omega,λ_=>by omega,λ_=>by omega,λ_=>by omega⟩
   exact AGV hV TZ hi O4 Ix hQ AA sX hec.HH (e:=e1) (a:=a1) ⟨zh,zh,Uv,by simp only[Hj,Hz];omega⟩
end
end
section
open Go.Proofs
structure L42 (N:List G8) (e a:Int) (bx:Nat) (Gy:List PV) (bs:Nat) (RD:List PV) (s:St):Prop where
 i:qp N e a bx Gy s
 hs:s.heap bs=some (.box RD)
 s0:bs≠0
def L42.ck{N:List G8}{e a:Int}{bx:Nat}{Gy:LP}{bs:Nat}{RD:LP}{s:St}(h:L42 N e a bx Gy bs RD s)(e' a':Int):L42 N e' a' bx Gy bs RD (s.set 0 (.box (ck N e' a'))):=⟨h.i.ck e' a',(Ar h.s0).trans h.hs,h.s0⟩
def de(N:List G8)(V:List HM)(l:List Item):Prop:=∀(XC:Bool) (O:List BA),O.length<=100000->∀e a,CF N 42 [.HC (l.map Aq),.HC (V.map Ao),.bool XC,.HC (O.map Gv)] e a λr _ _=>r=.tuple []
structure AEm (N:List G8) (V:List HM) (st:HF):Prop where
 loc:st.Gx.length<=20000
 AQn:st.Lm.length<=100000
 AQo:st.LR.length<=100000
 clk:∀v∈st.Gx,Ry ((V++st.Gx).map Ap) v
 cl:∀v∈st.Gx,v.HH.length<=17
 Lm:∀t∈st.Lm,ql N V t.cond
 LR:∀t∈st.LR,ql N (V++st.Gx) t.cond
 HE:de N (V++st.Gx) st.HE
attribute [local irreducible] U3 Qm U4 WT S3 Ud
section
variable{N:List G8} {V W:List HM} {Q:PV->LLP->Prop} {l:List Item} {i:Int} {XC:Bool} {O:List BA} {Gy:LP} {K k2:Nat}
def AOG{nm:BA}{Lm LR:List Hc}{Gx:List HM}{HE:List Item}{HI:Int}(hV:V.length<=100000)(TZ:∀v∈V,v.HH.length<=17)(hM:Gx.length<=20000)(hit:de N V HE)(hul:LR.length<=100000)(hun:∀t∈LR,ql N V t.cond){k:Int}(hk0:0<=k)(hk:k<=100000){bi bm:Nat}
  (Ix:∀e a bx s,qp N e a bx Gy s->Mb 0 1 Q (KJ 0 1 Q K) k2 (.G5 0 0) (.HC (l.map Aq)) (.HC (W.map Ao)) (.bool XC) (.HC (O.map Gv)) (I i) (.G5 bx 0) (I (k+1)) s){e a:Int}{bx bs:Nat}{s:St}
  (h:L42 N e a bx Gy bs [.HK nm,.HC (Lm.map Ax),.HC (LR.map Ax),.HC (Gx.map Ao),.HC (HE.map Aq),I HI] s):
  S3 0 1 Q (KJ 0 1 Q K) (Mb 0 1 Q (KJ 0 1 Q K) k2) (.G5 0 0) (.HC (l.map Aq)) (.HC (W.map Ao)) (.bool XC) (.HC (O.map Gv)) (I i) (.G5 bx 0) (I k) (.G5 bs 0) (.H6 bi (V.map Ao)) (.H6 bm ((Gx.map Ap).map Gv)) s:=by
 have hwk:=Abg k;obtain⟨r,e1,a1,K4,rfl⟩:=(hit true (Gx.map Ap) AB e a).pc;obtain⟨r,e2,a2,Jh,rfl⟩:=(pE (N:=N) hV TZ (O:=Gx.map Ap) AB hul hun e1 a1).pc;have Mt:=h.i.h0;have oL:=h.hs;have j9:=h.s0;unfold S3;refine zv ?_;refine Gz K4 rfl rfl AdX rfl ?_;simp only[Hu,NN];refine zv ?_;refine Gz Jh rfl rfl AdX rfl ?_;simp only[Hu,NN];refine zv ?_;rw[hwk];exact Ix e2 a2 bx _ ((h.ck e1 a1).ck e2 a2).i
def AN4{nm:BA}{Lm LR:List Hc}{Gx:List HM}{HE:List Item}{HI:Int}(hV:V.length<=100000)(TZ:∀v∈V,v.HH.length<=17)(hM:Gx.length<=20000){ALm:PV->PV->PV->PV->PV->PV->PV->PV->PV->PV->PV->F1}{v:HM}{j k:Int}(hj:0<=j)(pY:j<=100000)(HV:(Gx.map Ao)[j.toNat]?=some v.Gy)(vm:v.HH.length<=17)(iE:Ry (V.map Ap) v){bi bm bx bs:Nat}
  (Ix:∀e a s,L42 N e a bx Gy bs [.HK nm,.HC (Lm.map Ax),.HC (LR.map Ax),.HC (Gx.map Ao),.HC (HE.map Aq),I HI] s->ALm (.G5 0 0) (.HC (l.map Aq)) (.HC (W.map Ao)) (.bool XC) (.HC (O.map Gv)) (I i) (.G5 bx 0) (I k) (.G5 bs 0) (.H6 bi (V.map Ao)) (.H6 bm ((Gx.map Ap).map Gv)) (I (j+1)) s):
  ∀c:Nat,∃k3,∀(g e a:Int) (s:St),0<=g->g<=v.HH.length->v.HH.length-g<=c->L42 N e a bx Gy bs [.HK nm,.HC (Lm.map Ax),.HC (LR.map Ax),.HC (Gx.map Ao),.HC (HE.map Aq),I HI] s->
   eK 0 1 Q (KJ 0 1 Q K) (Mb 0 1 Q (KJ 0 1 Q K) k2) ALm k3 (.G5 0 0) (.HC (l.map Aq)) (.HC (W.map Ao)) (.bool XC) (.HC (O.map Gv)) (I i) (.G5 bx 0) (I k) (.G5 bs 0) (.H6 bi (V.map Ao)) (.H6 bm ((Gx.map Ap).map Gv)) (I j) (I g) s:=by
 have OA:=Abg j
 have done:∀(k3:Nat) (g e a:Int) (s:St),0<=g->g=v.HH.length->L42 N e a bx Gy bs [.HK nm,.HC (Lm.map Ax),.HC (LR.map Ax),.HC (Gx.map Ao),.HC (HE.map Aq),I HI] s->
   eK 0 1 Q (KJ 0 1 Q K) (Mb 0 1 Q (KJ 0 1 Q K) k2) ALm (k3+1) (.G5 0 0) (.HC (l.map Aq)) (.HC (W.map Ao)) (.bool XC) (.HC (O.map Gv)) (I i) (.G5 bx 0) (I k) (.G5 bs 0) (.H6 bi (V.map Ao)) (.H6 bm ((Gx.map Ap).map Gv)) (I j) (I g) s:=by
  intro k3 g e a s h0 hg h;have oL:=h.hs;show YQ _ _ _ _ _ _ _ _ _ _ _ _ _ _ _ _ _ _ _ _ _;unfold YQ;refine zv ?_;refine pQ_v AfC ?_;refine AWI (λh9=>?_) ?_
  .exact AfT
  .unfold Ud;refine zv ?_;rw[OA];exact Ix e a s h
 intro c
 induction c with
 |zero=>exact⟨1,λg e a s h0 h1 hc h=>done 0 g e a s h0 AA h⟩
 |succ c ih=>
  obtain⟨k3,ih⟩:=ih;refine⟨k3+1,λg e a s h0 h1 hc h=>?_⟩;by_cases H5:g<v.HH.length
  case neg=>exact done k3 g e a s h0 AA h
  have hwg:=Abg g;have AMZ:=Zx h0 H5;have Yw:=iE (v.HH[g.toNat]' AA) (Bl _);generalize v.HH[g.toNat]' AA=u at AMZ Yw;obtain⟨r,e1,a1,I5,rfl⟩:=(dD (N:=N) hV TZ (U:=[u.name]) (O:=Gx.map Ap) AD AB (by simpa using Yw) v.HI e a).pc;have Mt:=h.i.h0;have oL:=h.hs;have j9:=h.s0;show YQ _ _ _ _ _ _ _ _ _ _ _ _ _ _ _ _ _ _ _ _ _;unfold YQ;refine zv ?_;refine pQ_v AfC ?_;refine AWH ?_ λh9=>?_
  case refine_2=>have:=Zy h9;rw[BX]at this;omega
  refine zv ?_;refine Aba AfC ?_;refine Aba (HU h0 AMZ rfl) ?_;refine Aba AfC ?_;refine Hq I5 rfl rfl AdX rfl ?_;simp only[Hu,NN];refine⟨?_,?_⟩
  .simp only[Hz,dN,OC,CL];simp[Ih,I6,Jv];exact⟨λ_=>by omega,λ_=>by omega⟩
  refine zv ?_;rw[hwg];exact ih _ e1 a1 _ AA AA AA (h.ck e1 a1)
end
end
section
open Go.Proofs
attribute [local irreducible] U3 Qm U4 WT S3 Ud
section
variable{N:List G8} {V W:List HM} {Q:PV->LLP->Prop} {l:List Item} {x:Item} {i:Int} {XC:Bool} {O:List BA} {Gy:LP} {K k2:Nat}
def AKk{nm:BA}{Lm LR:List Hc}{Gx:List HM}{HE:List Item}{HI:Int}(hV:V.length<=100000)(TZ:∀v∈V,v.HH.length<=17)(hM:Gx.length<=20000)(hit:de N V HE)(hul:LR.length<=100000)(hun:∀t∈LR,ql N V t.cond)(ATL:∀v∈Gx,Ry (V.map Ap) v)(RF:∀v∈Gx,v.HH.length<=17){k:Int}(hk0:0<=k)(hk:k<=100000)
  (Ix:∀e a bx s,qp N e a bx Gy s->Mb 0 1 Q (KJ 0 1 Q K) k2 (.G5 0 0) (.HC (l.map Aq)) (.HC (W.map Ao)) (.bool XC) (.HC (O.map Gv)) (I i) (.G5 bx 0) (I (k+1)) s):
  ∀c:Nat,∃k3,∀(j e a:Int) (bi bm bx bs:Nat) (s:St),0<=j->j<=Gx.length->Gx.length-j<=c->L42 N e a bx Gy bs [.HK nm,.HC (Lm.map Ax),.HC (LR.map Ax),.HC (Gx.map Ao),.HC (HE.map Aq),I HI] s->
   Uf 0 1 Q (KJ 0 1 Q K) (Mb 0 1 Q (KJ 0 1 Q K) k2) k3 (.G5 0 0) (.HC (l.map Aq)) (.HC (W.map Ao)) (.bool XC) (.HC (O.map Gv)) (I i) (.G5 bx 0) (I k) (.G5 bs 0) (.H6 bi (V.map Ao)) (.H6 bm ((Gx.map Ap).map Gv)) (I j) s:=by
 have done:∀(k3:Nat) (j e a:Int) (bi bm bx bs:Nat) (s:St),0<=j->¬(j<Gx.length/\e=0)->L42 N e a bx Gy bs [.HK nm,.HC (Lm.map Ax),.HC (LR.map Ax),.HC (Gx.map Ao),.HC (HE.map Aq),I HI] s->
   Uf 0 1 Q (KJ 0 1 Q K) (Mb 0 1 Q (KJ 0 1 Q K) k2) (k3+1) (.G5 0 0) (.HC (l.map Aq)) (.HC (W.map Ao)) (.bool XC) (.HC (O.map Gv)) (I i) (.G5 bx 0) (I k) (.G5 bs 0) (.H6 bi (V.map Ao)) (.H6 bm ((Gx.map Ap).map Gv)) (I j) s:=by
  intro k3 j e a bi bm bx bs s h0 JU h;have Mt:=h.i.h0;have oL:=h.hs;show YP _ _ _ _ _ _ _ _ _ _ _ _ _ _ _ _ _ _ _;unfold YP;refine zv ?_;refine JG zh ?_;refine Gw (λh9=>?_) λ_=>AOG hV TZ hM hit hul hun hk0 hk Ix h;exact AfK
 intro c
 induction c with
 |zero=>exact⟨1,λj e a bi bm bx bs s h0 h1 hc h=>done 0 j e a bi bm bx bs s h0 AA h⟩
 |succ c ih=>
  obtain⟨k3,ih⟩:=ih;refine⟨k3+1,λj e a bi bm bx bs s h0 h1 hc h=>?_⟩;by_cases JU:j<Gx.length/\e=0
  case neg=>exact done k3 j e a bi bm bx bs s h0 JU h
  obtain⟨H5,he⟩:=JU;have OA:=Abg j;have HV:=JS h0 H5;have Kk:Gx[j.toNat]' AA∈Gx:=Bl _
  have OS:((Gx.map Ao).drop ((some j.toNat).getD 0)).take ((some (j+1).toNat).getD (Gx.map Ao).length-(some j.toNat).getD 0)=[Gx[j.toNat]' AA].map Ao:=by
   simp only[Option.getD_some];rw[show(j+1).toNat-j.toNat=1 by omega,Bx AB];simp
  generalize Gx[j.toNat]' AA=v at HV Kk OS;obtain⟨r,e1,a1,I5,rfl⟩:=(u4 (N:=N) hV TZ (l:=[v]) AD (by simpa using RF v Kk) (by simpa using ATL v Kk) e a).pc;obtain⟨k4,hk4⟩:=AN4 (N:=N) (W:=W) (Q:=Q) (l:=l) (i:=i) (XC:=XC) (O:=O) (Gy:=Gy) (K:=K) (k2:=k2) (nm:=nm) (Lm:=Lm) (LR:=LR) (HE:=HE) (HI:=HI) (ALm:=Uf 0 1 Q (KJ 0 1 Q K) (Mb 0 1 Q (KJ 0 1 Q K) k2) k3) (k:=k) (bi:=bi) (bm:=bm) (bx:=bx) (bs:=bs) hV TZ hM h0 AA HV (RF v Kk) (ATL v Kk) (λe a s h=>ih (j+1) e a bi bm bx bs s AA AA AA h) v.HH.length;have Mt:=h.i.h0;have oL:=h.hs;have j9:=h.s0;show YP _ _ _ _ _ _ _ _ _ _ _ _ _ _ _ _ _ _ _;unfold YP;refine zv ?_;refine JG zh ?_;refine AWH ?_ λh9=>?_
  case refine_2=>simp[he]at h9;omega
  refine zv ?_;rw[OA];refine Gu (ABu (r1:=[I (j+1)]) (r2:=[]) (a:=some j.toNat) (c:=some (j+1).toNat) rfl Acq (by simp only[SV,M0];rw[Ps AA]) AB AB (H8 Ln)) ?_;rw[OS];refine Gz I5 rfl rfl AdX rfl ?_;simp only[Hu,NN];exact⟨k4,hk4 0 e1 a1 _ AA AA AA (h.ck e1 a1)⟩
def AD8(hV:V.length<=70000)(TZ:∀v∈V,v.HH.length<=17)(hi:0<=i)(O4:i<=100000){K:Nat}(Ix:∀e a s,Xo N e a s->W42 V Q l XC O K (i+1) s)(hQ:∀e' a',Q (.tuple []) [ck N e' a'])(hO:O.length<=100000)(Pz:x.G6.length<=20000)
  (hx:x.G0=[]->(∀w∈x.G6,Mf (V.map Ap) w=true)/\ql N V x.e)(OS:x.G0.length<=100000)(KH:∀st∈x.G0,AEm N V st):
  ∀c:Nat,∃k,∀(j e a:Int) (bx:Nat) (s:St),0<=j->j<=x.G0.length->x.G0.length-j<=c->qp N e a bx x.Gy s->
   Mb 0 1 Q (KJ 0 1 Q K) k (.G5 0 0) (.HC (l.map Aq)) (.HC (V.map Ao)) (.bool XC) (.HC (O.map Gv)) (I i) (.G5 bx 0) (I j) s:=by
 have done:∀(k:Nat) (j e a:Int) (bx:Nat) (s:St),0<=j->¬(j<x.G0.length/\e=0)->qp N e a bx x.Gy s->
   Mb 0 1 Q (KJ 0 1 Q K) (k+1) (.G5 0 0) (.HC (l.map Aq)) (.HC (V.map Ao)) (.bool XC) (.HC (O.map Gv)) (I i) (.G5 bx 0) (I j) s:=by
  intro k j e a bx s h0 JU h;have Mt:=h.h0;have iH:=h.hx;show YO _ _ _ _ _ _ _ _ _ _ _ _ _ _;unfold YO;refine zv ?_;refine pQ_v Ad6 ?_;refine JG zh ?_;refine Gw (λh9=>?_) (λ_=>AKc AA TZ hi O4 Ix hQ hO Pz hx h);exact AfK
 intro c
 induction c with
 |zero=>exact⟨1,λj e a bx s h0 h1 hc h=>done 0 j e a bx s h0 AA h⟩
 |succ c ih=>
  obtain⟨k,ih⟩:=ih;refine⟨k+1,λj e a bx s h0 h1 hc h=>?_⟩;by_cases JU:j<x.G0.length/\e=0
  case neg=>exact done k j e a bx s h0 JU h
  obtain⟨H5,he⟩:=JU;have Pd:=QB h0 H5;have mn:=KH (x.G0[j.toNat]' AA) (Bl _);generalize x.G0[j.toNat]' AA=st at Pd mn;obtain⟨nm,Lm,LR,Gx,HE,HI⟩:=st;have mi:(HF.mk nm Lm LR Gx HE HI).Gy=[.HK nm,.HC (Lm.map Ax),.HC (LR.map Ax),.HC (Gx.map Ao),.HC (HE.map Aq),I HI]:=by rw[HF.JP];rfl
  have Xs:Gx.length<=20000:=mn.loc;have T9:V.map Ao++Gx.map Ao=(V++Gx).map Ao:=by rw[Br]
  have AJ5:∀v∈V++Gx,v.HH.length<=17:=λv hv=>(Bg.1 hv).elim (TZ v) (mn.cl v);have U9:=Zf Gx AA;obtain⟨r,e1,a1,K4,rfl⟩:=(pE (N:=N) (V:=V) AA TZ (O:=[]) AD mn.AQn mn.Lm e a).pc;obtain⟨k3,bP⟩:=AKk (N:=N) (V:=V++Gx) (W:=V) (Q:=Q) (l:=l) (i:=i) (XC:=XC) (O:=O) (Gy:=x.Gy) (K:=K) (k2:=k) (nm:=nm) (Lm:=Lm) (LR:=LR) (Gx:=Gx) (HE:=HE) (HI:=HI) (k:=j) AB AJ5 Xs mn.HE mn.AQo mn.LR mn.clk mn.cl h0 AA (λe a bx s h=>ih (j+1) e a bx s AA AA AA h) Gx.length;have Mt:=h.h0;have iH:=h.hx;have Uv:=h.x0;have hl0:=h.lt;show YO _ _ _ _ _ _ _ _ _ _ _ _ _ _;unfold YO;refine zv ?_;refine pQ_v Ad6 ?_;refine JG zh ?_;refine AWH ?_ λh9=>?_
  case refine_2=>simp[he]at h9;omega
  refine zv ?_;refine Gu Ad6 ?_;refine Gu Ae0 ?_;refine Gu AfF ?_;rw[mi];refine zv ?_;refine Aba AeC ?_;refine HA Adl ?_;rw[T9];refine zv ?_;refine⟨?_,?_⟩
  .exact AjT
  refine zv ?_;refine AbY U9 ?_;simp only[LZ,Lu];refine zv ?_;refine Gz K4 rfl rfl AdX rfl ?_;simp only[Hu,NN];exact⟨k3,bP 0 e1 a1 _ _ bx s.next _ AA AA AA ⟨⟨zh,zh,Uv,by simp only[Hj,Hz];omega⟩,zh,AA⟩⟩
end
end
section
open Go.Proofs
attribute [local irreducible] U3 Qm U4 WT S3 Ud
section
variable{N:List G8} {V:List HM} {nd:Int}
def pF(hV:V.length<=70000)(TZ:∀v∈V,v.HH.length<=17){l:List Item}(hl:l.length<=100000)(OS:∀x∈l,x.G0.length<=100000)(Pz:∀x∈l,x.G6.length<=20000)
  (hx:∀x∈l,x.G0=[]->(∀w∈x.G6,Mf (V.map Ap) w=true)/\ql N V x.e)(KH:∀x∈l,∀st∈x.G0,AEm N V st):de N V l:=by
 intro XC O hO e a;have hQ:∀e' a',(λ(r:PV) (c:LLP)=>∃e' a',c=[ck N e' a']/\r=.tuple []) (.tuple []) [ck N e' a']:=λe' a'=>⟨e',a',rfl,rfl⟩
 have done:∀(k:Nat) (i e a:Int) (s:St),0<=i->¬(i<l.length/\e=0)->Xo N e a s->W42 V (λr c=>∃e' a',c=[ck N e' a']/\r=.tuple []) l XC O (k+1) i s:=by
  intro k i e a s h0 JU h;have Mt:=h.h0;show kp _ _ _ _ _ _ _ _ _ _ _;unfold kp;exact Akf
 have loop:∀c:Nat,∃k,∀(i e a:Int) (s:St),0<=i->i<=l.length->l.length-i<=c->Xo N e a s->W42 V (λr c=>∃e' a',c=[ck N e' a']/\r=.tuple []) l XC O k i s:=by
  intro c
  induction c with
  |zero=>exact⟨1,λi e a s h0 h1 hc h=>done 0 i e a s h0 AA h⟩
  |succ c ih=>
   obtain⟨k,ih⟩:=ih;refine⟨k+1,λi e a s h0 h1 hc h=>?_⟩;by_cases JU:i<l.length/\e=0
   case neg=>exact done k i e a s h0 JU h
   obtain⟨H5,he⟩:=JU;have HV:=Vm h0 H5;have Kk:l[i.toNat]' AA∈l:=Bl _;generalize l[i.toNat]' AA=x at HV Kk;obtain⟨k2,Jr⟩:=AD8 (x:=x) (l:=l) (i:=i) (XC:=XC) (O:=O) hV TZ h0 AA (λe a s h=>ih (i+1) e a s AA AA AA h) hQ hO (Pz x Kk) (hx x Kk) (OS x Kk) (KH x Kk) x.G0.length;have Mt:=h.h0;have hl0:=h.lt;show kp _ _ _ _ _ _ _ _ _ _ _;unfold kp;refine zv ?_;refine JG zh ?_;refine AWH ?_ λh9=>?_
   case refine_2=>simp[he]at h9;omega
   refine Gu Aez ?_;refine pQ_v (Jo (BI _)) ?_;refine Gu AeA ?_;exact⟨k2,Jr 0 e a s.next _ AA AA AA ⟨zh,zh,AA,by simp only[Hj,Hz];omega⟩⟩
 obtain⟨k,hk⟩:=loop l.length;refine ANa 0 rfl _ _ _ _ _ ?_;unfold c42;exact AiE
end
end
section
open Go.Proofs
def xN{l:List Hc}{t:Hc}(h:t∈l):t.cond.wt<=Hc.Il l:=by
 induction l with
 |nil=>cases h
 |cons u r ih=>
  simp only[Hc.Il,Hc.wt];rcases Bz.1 h with rfl|h
  .omega
  .have:=ih h;omega
attribute [local irreducible] gK
section
variable{N:List G8} {nd:Int} {Q:PV->LLP->Prop}
def jw{V:List HM}(hV:V.length<=100000)(TZ:∀v∈V,v.HH.length<=17){x:Hh}(hw:x.WF)(hr:Qc N (V.map Ap) nd x)(ht:x.wt<=20000):ql N V x:=by obtain⟨U,h1,h2,h3⟩:=ALh hw hr ht;exact⟨⟨U,h1,AA,h3⟩,AFH hV TZ hw hr⟩
def yK:∀(c:Nat) (V:List HM) (M:List BA) (l:List Item),As l<=c->V.length+As l<=70000->As l<=20000->l.length<=100000->(∀v∈V,v.HH.length<=17)->(∀x∈l,x.WF)->(∀w,Mf M w=true->Mf (V.map Ap) w=true)->(∀x∈l,NI N nd (V.map Ap) M x)->(∀x∈l,xR (V.map Ap) x)->de N V l:=by
 intro c
 induction c with
 |zero=>
  intro V M l hl hV hc Xs TZ hw hMS ZB hnc
  have hwx:∀x∈l,x.wt<=As l:=by
   exact Agn
  refine pF AA TZ Xs Ad7 (λx hx=>by
   have:=hwx x hx;obtain⟨_,_,_,_⟩:=x;simp only[BE]at this;simp only[Item.G6];omega) (λx hx hs=>?_) λx hx st KH=>?_
  .exact Aft
  .exfalso;have h1:=hwx x hx;obtain⟨G6,ex,G0,HI⟩:=x;cases G0 with
   |nil=>exact Zq KH AcD
   |cons st r=>cases st;simp only[BE,A7,BK]at h1;omega
 |succ c ih=>
  intro V M l hl hV hc Xs TZ hw hMS ZB hnc
  have hwx:∀x∈l,x.wt<=As l:=by
   exact Agn
  refine pF AA TZ Xs Ad7 (λx hx=>by
   have:=hwx x hx;obtain⟨_,_,_,_⟩:=x;simp only[BE]at this;simp only[Item.G6];omega) (λx hx hs=>?_) λx hx st KH=>?_
  .exact Aft
  .have hxw:=hw x hx;have hns:=(ZB x hx).vy st KH;have APP:=(hnc x hx).pw st KH;have h1:=hwx x hx;obtain⟨q2,UQ,hqs⟩:=By KH;have h3:=XS UQ;rw[hqs]at h3
   have h4:A7 x.G0<=x.wt:=by
    exact Af6
   have zH:st.WF:=by
    exact Ajw
   obtain⟨nm,Lm,LR,Gx,HE,HI⟩:=st;cases zH with|mk _ _ _ _ _ _ w1 w2 w3 w4 w5=>
   cases hns with|mk _ _ _ _ _ _ _ _ n1 n2 n3 n4=>
   cases APP with|mk _ _ _ _ _ _ _ k1 k2=>
   simp only[BK]at h3;have AJ5:∀v∈V++Gx,v.HH.length<=17:=λv hv=>(Bg.1 hv).elim (TZ v) λh=>(w3.all v h).HH;have hS:List.map Ap (V++(HF.mk nm Lm LR Gx HE HI).Gx)=V.map Ap++Gx.map Ap:=Br;refine⟨by simp only[HF.Gx];omega,w1.len,w2.len,by rw[hS];exact k1,λv hv=>(w3.all v hv).HH,λt ht=>jw AA TZ (w1.all t ht) (n1 t ht) (by have:=xN (l:=Lm) ht;omega),λt ht=>jw (by rw[Bf];omega) AJ5 (w2.all t ht) (nd:=nd) Aj (by have:=xN (l:=LR) ht;omega),?_⟩
   exact ih _ (M++Gx.map Ap) HE AA Acw AA w4 AJ5 w5 (λw hw=>by
    rw[hS,Ww];rw[Ww]at hw;cases hm:Mf M w
    .rw[hm,Dj]at hw;rw[hw,Bool.or_true]
    .rw[hMS w hm,Fc]) (by rw[hS];exact n2) (by rw[hS];exact k2)
end
end
section
open Go.Proofs
attribute [local irreducible] gK
section
variable{N:List G8} {Q:PV->LLP->Prop}
def ASf{e a:Int}{s:St}(h:s.heap 1=some (.box (ck N e a)))(hQ:Q (.tuple [I a,I e]) []):gK 0 0 Q (.G5 1 0) s:=by unfold gK;exact Afy
def AKv(hN:N.length<=60)(hw:∀n∈N,n.WF)(Pe:A8 N<=20000)(jK:∀(q:Nat) (h:q<N.length),Sq N q N[q])(hQ:∀e a:Int,Q (.tuple [I a,I e]) []):
  ∀c:Nat,∃k,∀(i e a:Int) (s:St),0<=i->i<=N.length->N.length-i<=c->s.heap 0=some (.box [.HC (N.map A2)])->s.heap 1=some (.box (ck N e a))->1<s.next->ke 0 0 Q k (.G5 0 0) (.G5 1 0) (I i) s:=by
 have done:∀(k:Nat) (i e a:Int) (s:St),0<=i->¬(i<N.length/\e=0)->s.heap 0=some (.box [.HC (N.map A2)])->s.heap 1=some (.box (ck N e a))->1<s.next->ke 0 0 Q (k+1) (.G5 0 0) (.G5 1 0) (I i) s:=by
  intro k i e a s h0 JU h1 h2 h3;show eG _ _ _ _ _ _ _ _;unfold eG;refine zv ?_;refine Tl zh ?_;refine Gw (λh9=>?_) λ_=>ASf zh (hQ _ _);exact AfK
 intro c
 induction c with
 |zero=>exact⟨1,λi e a s h0 h1 hc=>done 0 i e a s h0 AA⟩
 |succ c ih=>
  obtain⟨k,ih⟩:=ih;refine⟨k+1,λi e a s h0 h1' hc h1 h2 h3=>?_⟩;by_cases JU:i<N.length/\e=0
  case neg=>exact done k i e a s h0 JU h1 h2 h3
  obtain⟨H5,he⟩:=JU;have dZ:=Abg i;have HV:=Te h0 H5;have jL:=hw (N[i.toNat]' AA) (Bl _);have Xl:=ZN (l:=N) (q:=i.toNat) AA;have RT:=jK i.toNat AA;generalize N[i.toNat]' AA=n at HV jL Xl RT;simp only[G8.wt]at Xl;have II:n.all.length=n.Je.length+n.Ic.length+n.Gx.length:=by simp[BM];omega
  have Jg:=xo n [] AB;rw[CL]at Jg
  have haw:∀v∈n.all,v.HH.length<=17:=by
   intro v hv;simp only[BM,Bg]at hv;rcases hv with(hv|hv)|hv
   .exact(jL.Je.all v hv).HH
   .exact(jL.Ic.all v hv).HH
   .exact(jL.Gx.all v hv).HH
  obtain⟨r,e1,a1,K4,rfl⟩:=(u4 (N:=N) (V:=n.all) (l:=n.Gx) AA haw AA (λv hv=>(jL.Gx.all v hv).HH) RT.clk e a).pc;obtain⟨r,e2,a2,Jh,rfl⟩:=((yK (N:=N) (nd:=(i.toNat:Nat)) _ n.all n.may n.HE (Bd _) AA AA jL.len haw jL.HE ABj RT.HE RT.AFG) false [] AD e1 a1).pc;show eG _ _ _ _ _ _ _ _;unfold eG;refine zv ?_;refine Tl zh ?_;refine AWH ?_ λh9=>?_
  case refine_2=>simp[he]at h9;omega
  refine zv ?_;refine Gu Aei ?_;refine Gu AfA ?_;rw[G8.ZV];refine zv ?_;refine AbY Jg ?_;simp only[Mk,Lu];refine zv ?_;refine Gz K4 rfl rfl AeD rfl ?_;simp only[Hu,NN];refine zv ?_;refine Gz Jh rfl rfl AeD rfl ?_;simp only[Hu,NN];refine zv ?_;rw[dZ];exact ih _ e2 a2 _ AA AA AA zh zh Abo
def uj(hN:N.length<=60)(hw:∀n∈N,n.WF)(Pe:A8 N<=20000)(jK:∀(q:Nat) (h:q<N.length),Sq N q N[q]):∃a e:Int,PC BW 26 [.agg [.HC (N.map A2)]] [] (.tuple [I a,I e]) []:=by
 obtain⟨K,hK⟩:=AKv (N:=N) (Q:=λr c=>c=[]/\∃a e:Int,r=.tuple [I a,I e]) hN hw Pe jK (λe a=>⟨rfl,a,e,rfl⟩) N.length
 have:PQ BW 26 [.agg [.HC (N.map A2)]] [] (λr c=>c=[]/\∃a e:Int,r=.tuple [I a,I e]):=by
  refine ANU 0 rfl _ ?_;unfold c26;exact Ajp
 exact Ah6
end
end
section
open Go.Proofs
def Ms(b:Bool):LP:=[.bool b]
def AAj{l:List Bool}{i:Int}(h0:0<=i)(h:i<l.length):(l.map Ms)[i.toNat]?=some (Ms (l[i.toNat]' AA)):=Aih
def AE6{l:List Bool}:∀r∈l.map Ms,r.length=1:=Agm
def ARU(N:List G8)(x:Hh):Prop:=∀e a,CF N 103 [.agg x.Gy] e a λr _ _=>∃b,r=.bool b
structure uH (N:List G8) (e a:Int) (xr:List PV) (s:St):Prop where
 h0:s.heap 0=some (.box (ck N e a))
 h1:s.heap 1=some (.box xr)
 lt:2<s.next
def uH.ck{N:List G8}{e a:Int}{xr:LP}{s:St}(h:uH N e a xr s)(e' a':Int):uH N e' a' xr (s.set 0 (.box (ck N e' a'))):=⟨Ay,(Ar AA).trans h.h1,h.lt⟩
attribute [local irreducible] UY WK Rc gG
section
variable{N:List G8} {e a:Int} {f s1 tk tl i m HI:Int} {nm:BA} {G9:List Hh} {Q:PV->LLP->Prop} {s:St} {K:List Bool} {bk:Nat} {sm:Bool}
def AOE(hQ:∀b e' a',Q (.bool b) [ck N e' a'])(hK:e=0->K.length=G9.length)(Sr:qw f G9.length)(h:uH N e a (Rb f s1 nm tk tl i m G9 HI) s):WK 0 1 Q (.G5 0 0) (.G5 1 0) (.H6 bk (K.map Ms)) (.bool sm) s:=by
 have Mt:=h.h0;have mU:=h.h1;unfold WK;refine zv ?_;refine Gw (λ_=>HB rfl rfl AdX (hQ _ _ _)) λhb=>?_;have he:e=0:=by simpa using hb
 have hK:=hK he
 have fin:∀g:Bool,(g=true->f=7\/f=8)->UY 0 1 Q (.H6 bk (K.map Ms)) (.bool sm) (.bool g) s:=by
  intro g hg;unfold UY;cases g
  .refine zv ?_;exact Ajg
  .have Jr:=Sr.2.1 (by have:=hg rfl;omega);refine ct ?_;refine pQ_v (Ju AA (AAj (l:=K) (i:=0) AA AA) rfl) ?_;exact Ajg
 refine zv ?_;cases g6:(f==6)
 case true=>
  refine zv ?_;exact Ajg
 refine zv ?_;cases g7:(f==7)
 case true=>exact ct (fin true λ_=>by simp at g7;omega)
 refine zv ?_;exact fin _ λh=>by simp at h;omega
end
end
section
open Go.Proofs
attribute [local irreducible] UY WK Rc gG
section
variable{N:List G8} {e a:Int} {f s1 tk tl i m HI:Int} {nm:BA} {G9:List Hh} {Q:PV->LLP->Prop} {s:St} {K:List Bool} {bk:Nat} {sm:Bool}
def AQj(hQ:∀b e' a',Q (.bool b) [ck N e' a'])(hKl:K.length<=G9.length)(Sr:qw f G9.length):
  ∀c:Nat,∃k,∀(j e a:Int) (s:St),(e=0->K.length=G9.length)->0<=j->j<=K.length->K.length-j<=c->uH N e a (Rb f s1 nm tk tl i m G9 HI) s->Sz 0 1 Q k (.G5 0 0) (.G5 1 0) (.H6 bk (K.map Ms)) (.bool sm) (I j) s:=by
 have fk:=Sr.2.2.2.2
 have done:∀(k:Nat) (j e a:Int) (s:St),(e=0->K.length=G9.length)->0<=j->¬(j<K.length/\e=0)->uH N e a (Rb f s1 nm tk tl i m G9 HI) s->Sz 0 1 Q (k+1) (.G5 0 0) (.G5 1 0) (.H6 bk (K.map Ms)) (.bool sm) (I j) s:=by
  intro k j e a s hK h0 JU h;have Mt:=h.h0;show YA _ _ _ _ _ _ _ _ _ _;unfold YA;refine zv ?_;refine JG zh ?_;refine Gw (λh9=>?_) λ_=>AOE hQ hK Sr h;exact AfK
 intro c
 induction c with
 |zero=>exact⟨1,λj e a s hK h0 h1 hc h=>done 0 j e a s hK h0 AA h⟩
 |succ c ih=>
  obtain⟨k,ih⟩:=ih;refine⟨k+1,λj e a s hK h0 h1 hc h=>?_⟩;by_cases JU:j<K.length/\e=0
  case neg=>exact done k j e a s hK h0 JU h
  obtain⟨H5,he⟩:=JU;have OA:=Abg j;have mc:(A4 G9).length=G9.length:=by rw[Hh.Jc,BX]
  have HV:=AAj h0 H5;have vi:=SD (l:=G9) h0 AA;obtain⟨atk,hr8⟩:=(G9[j.toNat]' AA).r8;generalize K[j.toNat]' AA=kb at HV;generalize G9[j.toNat]' AA=kx at vi hr8
  have next:∀(e a:Int) (s:St),(e=0->K.length=G9.length)->uH N e a (Rb f s1 nm tk tl i m G9 HI) s->Rc 0 1 Q (Sz 0 1 Q k) (.G5 0 0) (.G5 1 0) (.H6 bk (K.map Ms)) (.bool sm) (I j) s:=by
   intro e a s hK h;unfold Rc;refine zv ?_;rw[OA];exact ih _ e a s hK AA AA AA h
  have Mt:=h.h0;have mU:=h.h1;have AKK:=h.lt
  have fail:Hb BW 68 [.G5 0 0,I atk,I 28] s (λAZU AQd=>Rc 0 1 Q (Sz 0 1 Q k) (.G5 0 0) (.G5 1 0) (.H6 bk (K.map Ms)) (.bool sm) (I j) AQd):=by
   obtain⟨r,e2,a2,Jh,rfl,h2,_⟩:=(JQ (N:=N) (e:=e) (a:=a) atk 28 AA).pc;refine Gz Jh rfl rfl AdX rfl ?_;exact next e2 a2 _ (λh=>Zq h h2) (h.ck e2 a2)
  show YA _ _ _ _ _ _ _ _ _ _;unfold YA;refine zv ?_;refine JG zh ?_;refine AWH ?_ λh9=>?_
  case refine_2=>simp[he]at h9;omega
  refine pQ_v AeL ?_
  have yes:pQ (Iz 7 (.G5 1 0)) s (λAZL AYu=>pQ (G3 AZL) AYu λAZN AYv=>pQ (Jq 9 AZN (I j)) AYv λAZP AYx=>pQ (Iz 8 AZP) AYx λAZQ AYy=>pQ (G3 AZQ) AYy λAZS AY0=>Hb BW 68 [.G5 0 0,AZS,(I 28)] AY0 λAZU AQd=>Rc 0 1 Q (Sz 0 1 Q k) (.G5 0 0) (.G5 1 0) (.H6 bk (K.map Ms)) (.bool sm) (I j) AQd):=by
   exact AgI
  cases kb
  .refine zv ?_;exact next e a s hK h
  refine zv ?_;cases g6:(f==6)
  case true=>
   exact AgI
  refine zv ?_;cases g10:(f==10)
  case true=>
   exact AgI
  refine zv ?_;cases g8:(f==8)
  .exact Aig
  .refine zv ?_;cases gj:(j==1)
   .exact Aig
   .exact AgI
end
end
section
open Go.Proofs
structure ALs (N:List G8) (e a:Int) (xr:List PV) (T:List Bool) (eo:Nat) (s:St):Prop where
 i:uH N e a xr s
 h2:s.heap 2=some (.Hm (T.map Ms).length eo)
 ho:T.map Ms=[]\/eo=1
attribute [local irreducible] UY WK Rc gG
section
variable{N:List G8}
def AKh{x:Hh}(hw:x.WF):ARU N x:=by
 induction hw with
 |mk f s1 nm tk tl i m G9 HI Sr hf hs vj ht hk ih=>
 intro e a;have fk:G9.length<=100000:=Sr.2.2.2.2;have mc:(A4 G9).length=G9.length:=by rw[Hh.Jc,BX]
 have done:∀(k:Nat) (e1 a1:Int) (j:Int) (T:List Bool) (sm:Bool) (eo:Nat) (s:St),0<=j->¬(j<G9.length/\e1=0)->j<=G9.length->(T.length:Int)=j->ALs N e1 a1 (Rb f s1 nm tk tl i m G9 HI) T eo s->
   X0 0 1 (λr c=>∃e' a',c=[ck N e' a']/\∃b,r=.bool b) (k+1) (.G5 0 0) (.G5 1 0) (.H6 2 (T.map Ms)) (.bool sm) (I j) s:=by
  intro k e1 a1 j T sm eo s h0 JU h1 hT h;have Mt:=h.i.h0;have mU:=h.i.h1;obtain⟨k2,Jr⟩:=AQj (N:=N) (f:=f) (s1:=s1) (tk:=tk) (tl:=tl) (i:=i) (m:=m) (HI:=HI) (nm:=nm) (G9:=G9) (Q:=λr c=>∃e' a',c=[ck N e' a']/\∃b,r=.bool b) (K:=T) (bk:=2) (sm:=sm) (λb e' a'=>⟨e',a',rfl,b,rfl⟩) AA Sr T.length;show VP _ _ _ _ _ _ _ _ _ _;unfold VP;refine zv ?_;refine JG zh ?_;refine AWI (λh9=>?_) ?_
  .exact Agy
  .unfold gG;exact⟨k2,Jr 0 e1 a1 s (λh=>by have:¬j<G9.length:=λh2=>JU ⟨h2,h⟩;omega) AA AA AA h.i⟩
 have loop:∀c:Nat,∃k,∀(e1 a1:Int) (j:Int) (T:List Bool) (sm:Bool) (eo:Nat) (s:St),0<=j->j<=G9.length->G9.length-j<=c->(T.length:Int)=j->ALs N e1 a1 (Rb f s1 nm tk tl i m G9 HI) T eo s->
   X0 0 1 (λr c=>∃e' a',c=[ck N e' a']/\∃b,r=.bool b) k (.G5 0 0) (.G5 1 0) (.H6 2 (T.map Ms)) (.bool sm) (I j) s:=by
  intro c
  induction c with
  |zero=>exact⟨1,λe1 a1 j T sm eo s h0 h1 hc hT h=>done 0 e1 a1 j T sm eo s h0 AA h1 hT h⟩
  |succ c kA=>
   obtain⟨k,kA⟩:=kA;refine⟨k+1,λe1 a1 j T sm eo s h0 h1 hc hT h=>?_⟩;by_cases JU:j<G9.length/\e1=0
   case neg=>exact done k e1 a1 j T sm eo s h0 JU h1 hT h
   obtain⟨H5,OR⟩:=JU;have OA:=Abg j;have Kk:G9[j.toNat]' AA∈G9:=Bl _;obtain⟨r,e2,a2,I5,b,rfl⟩:=((ih _ Kk) e1 a1).pc;have Mt:=h.i.h0;have mU:=h.i.h1;have h22:=h.h2;have AF6:=h.i.lt;have M9:T.map Ms++[Ms b]=(T++[b]).map Ms:=by rw[Br];rfl
   have h8:=λsm=>kA e2 a2 (j+1) (T++[b]) sm 1 ((s.set 0 (.box (ck N e2 a2))).set 2 (.Hm ((T.map Ms).length+1) 1)) AA AA AA AB ⟨⟨zh,zh,AF6⟩,Abt,.inr rfl⟩;rw[<- M9]at h8;show VP _ _ _ _ _ _ _ _ _ _;unfold VP;refine zv ?_;refine JG zh ?_;refine AWH ?_ λh9=>?_
   case refine_2=>simp[OR,mc]at h9;omega
   refine zv ?_;refine Gu Adn ?_;refine Gu Aea ?_;refine AVt I5 (Lh rfl) rfl AdX rfl ?_;refine pQ_v (KG rfl rfl (Hl AB AA) (H8 AE6) zh (h.ho.imp (λh=>by rw[h];rfl) λh=>h.symm)) ?_;cases sm
   .refine zv ?_;rw[OA];exact h8 _
   .refine zv ?_;rw[OA];exact h8 _
 obtain⟨k,Jr⟩:=loop G9.length;refine AIp 0 rfl _ _ ?_;unfold ARg;refine pQ_v AeR ?_;exact⟨k,Jr e a 0 [] false 0 _ AA AA AA rfl ⟨⟨zh,zh,by simp[Hj,I4]⟩,zh,.inl rfl⟩⟩
end
end
section
open Go.Proofs
def lq{N:List G8}{x:Hh}(hw:x.WF)(e a:Int):CF N 75 [.agg x.Gy] e a λr _ _=>r=.tuple []:=by
 obtain⟨r,e1,a1,I5,b,rfl⟩:=(AKh (N:=N) hw e a).pc;obtain⟨HI,hr8⟩:=x.r8;have hxl:=x.HJ;obtain⟨r,e2,a2,Jh,rfl,h2,_⟩:=(JQ (N:=N) (e:=e1) (a:=a1) HI 28 AA).pc;refine ANq 0 rfl _ _ ?_;unfold c75;refine Gu AeR ?_;refine Gu (Ii zh hxl) ?_;refine AVt I5 (Lh rfl) rfl AdX rfl ?_;cases b
 .refine zv ?_;exact AgU
 .refine zv ?_;refine Gu (G2 zh hr8) ?_;exact Akz
end
section
open Go.Proofs
def jj(N:List G8)(l:List Item):Prop:=∀e a,CF N 43 [.HC (l.map Aq)] e a λr _ _=>r=.tuple []
structure L43 (N:List G8) (e a:Int) (bs:Nat) (RD:List PV) (s:St):Prop where
 i:Xo N e a s
 hs:s.heap bs=some (.box RD)
 s0:bs≠0
def L43.ck{N:List G8}{e a:Int}{bs:Nat}{RD:LP}{s:St}(h:L43 N e a bs RD s)(e' a':Int):L43 N e' a' bs RD (s.set 0 (.box (ck N e' a'))):=⟨⟨Ay,h.i.lt⟩,(Ar h.s0).trans h.hs,h.s0⟩
attribute [local irreducible] YR bz gM Zp
section
variable{N:List G8} {l:List Item} {x:Item} {i:Int} {Q:PV->LLP->Prop} {K:Nat}
def AH2{nm:BA}{Lm LR:List Hc}{Gx:List HM}{HE:List Item}{HI:Int}(hul:LR.length<=100000)(hun:∀t∈LR,t.cond.WF){w1:PV->PV->F1}{w68:PV->PV->PV->F1}{k:Int}(hk0:0<=k)(hk:k<=100000)
  (Ix:∀e a s,Xo N e a s->w68 (.G5 0 0) (.HC (l.map Aq)) (I i) (I (k+1)) s):
  ∀c:Nat,∃k3,∀(j e a:Int) (bs:Nat) (s:St),0<=j->j<=LR.length->LR.length-j<=c->L43 N e a bs [.HK nm,.HC (Lm.map Ax),.HC (LR.map Ax),.HC (Gx.map Ao),.HC (HE.map Aq),I HI] s->
   Zr 0 1 Q w1 w68 k3 (.G5 0 0) (.HC (l.map Aq)) (I i) (I k) (.G5 bs 0) (I j) s:=by
 have hwk:=Abg k
 have done:∀(k3:Nat) (j e a:Int) (bs:Nat) (s:St),0<=j->¬(j<LR.length/\e=0)->L43 N e a bs [.HK nm,.HC (Lm.map Ax),.HC (LR.map Ax),.HC (Gx.map Ao),.HC (HE.map Aq),I HI] s->
   Zr 0 1 Q w1 w68 (k3+1) (.G5 0 0) (.HC (l.map Aq)) (I i) (I k) (.G5 bs 0) (I j) s:=by
  intro k3 j e a bs s h0 JU h;have Mt:=h.i.h0;have oL:=h.hs;show YS _ _ _ _ _ _ _ _ _ _ _ _ _;unfold YS;refine zv ?_;refine JG zh ?_;refine AWI (λh9=>?_) ?_
  .exact AfK
  .unfold gM;refine zv ?_;rw[hwk];exact Ix e a s h.i
 intro c
 induction c with
 |zero=>exact⟨1,λj e a bs s h0 h1 hc h=>done 0 j e a bs s h0 AA h⟩
 |succ c ih=>
  obtain⟨k3,ih⟩:=ih;refine⟨k3+1,λj e a bs s h0 h1 hc h=>?_⟩;by_cases JU:j<LR.length/\e=0
  case neg=>exact done k3 j e a bs s h0 JU h
  obtain⟨H5,he⟩:=JU;have OA:=Abg j;have HV:=UK h0 H5;have hw:=hun (LR[j.toNat]' AA) (Bl _);generalize LR[j.toNat]' AA=t at HV hw;obtain⟨r,e1,a1,I5,rfl⟩:=(lq (N:=N) hw e a).pc;have Mt:=h.i.h0;have oL:=h.hs;have j9:=h.s0;show YS _ _ _ _ _ _ _ _ _ _ _ _ _;unfold YS;exact Afh
end
end
section
open Go.Proofs
attribute [local irreducible] YR bz gM Zp
section
variable{N:List G8} {l:List Item} {x:Item} {i:Int} {Q:PV->LLP->Prop} {K:Nat}
def AEJ{nm:BA}{Lm LR:List Hc}{Gx:List HM}{HE:List Item}{HI:Int}(hul:Lm.length<=100000)(hun:∀t∈Lm,t.cond.WF)(SX:jj N HE){w1:PV->PV->F1}{w68:PV->PV->PV->F1}{k:Int}
  (Ix:∃k4,∀(e a:Int) (bs:Nat) (s:St),L43 N e a bs [.HK nm,.HC (Lm.map Ax),.HC (LR.map Ax),.HC (Gx.map Ao),.HC (HE.map Aq),I HI] s->Zr 0 1 Q w1 w68 k4 (.G5 0 0) (.HC (l.map Aq)) (I i) (I k) (.G5 bs 0) (I 0) s):
  ∀c:Nat,∃k3,∀(j e a:Int) (bs:Nat) (s:St),0<=j->j<=Lm.length->Lm.length-j<=c->L43 N e a bs [.HK nm,.HC (Lm.map Ax),.HC (LR.map Ax),.HC (Gx.map Ao),.HC (HE.map Aq),I HI] s->
   eL 0 1 Q w1 w68 k3 (.G5 0 0) (.HC (l.map Aq)) (I i) (I k) (.G5 bs 0) (I j) s:=by
 obtain⟨k4,hk4⟩:=Ix
 have done:∀(k3:Nat) (j e a:Int) (bs:Nat) (s:St),0<=j->¬(j<Lm.length/\e=0)->L43 N e a bs [.HK nm,.HC (Lm.map Ax),.HC (LR.map Ax),.HC (Gx.map Ao),.HC (HE.map Aq),I HI] s->
   eL 0 1 Q w1 w68 (k3+1) (.G5 0 0) (.HC (l.map Aq)) (I i) (I k) (.G5 bs 0) (I j) s:=by
  intro k3 j e a bs s h0 JU h;have Mt:=h.i.h0;have oL:=h.hs;have j9:=h.s0;obtain⟨r,e1,a1,I5,rfl⟩:=(SX e a).pc;show YT _ _ _ _ _ _ _ _ _ _ _ _ _;unfold YT;refine zv ?_;refine JG zh ?_;refine AWI (λh9=>?_) ?_
  .exact AfK
  .unfold Zp;refine zv ?_;refine Gz I5 rfl rfl AdX rfl ?_;simp only[Hu,NN];exact⟨k4,hk4 e1 a1 bs _ (h.ck e1 a1)⟩
 intro c
 induction c with
 |zero=>exact⟨1,λj e a bs s h0 h1 hc h=>done 0 j e a bs s h0 AA h⟩
 |succ c ih=>
  obtain⟨k3,ih⟩:=ih;refine⟨k3+1,λj e a bs s h0 h1 hc h=>?_⟩;by_cases JU:j<Lm.length/\e=0
  case neg=>exact done k3 j e a bs s h0 JU h
  obtain⟨H5,he⟩:=JU;have OA:=Abg j;have HV:=UK h0 H5;have hw:=hun (Lm[j.toNat]' AA) (Bl _);generalize Lm[j.toNat]' AA=t at HV hw;obtain⟨r,e1,a1,I5,rfl⟩:=(lq (N:=N) hw e a).pc;have Mt:=h.i.h0;have oL:=h.hs;have j9:=h.s0;show YT _ _ _ _ _ _ _ _ _ _ _ _ _;unfold YT;exact Afh
end
end
section
open Go.Proofs
structure AEp (N:List G8) (st:HF):Prop where
 Lm:U2.WF st.Lm
 LR:U2.WF st.LR
 HE:jj N st.HE
attribute [local irreducible] YR bz gM Zp
section
variable{N:List G8} {l:List Item} {x:Item} {i:Int} {Q:PV->LLP->Prop} {K:Nat}
def AGq(hi:0<=i)(O4:i<=100000){w1:PV->PV->F1}(Ix:∀e a s,Xo N e a s->w1 (.G5 0 0) (.HC (l.map Aq)) (I (i+1)) s){e a:Int}{s:St}(h:Xo N e a s):YR 0 1 Q w1 (.G5 0 0) (.HC (l.map Aq)) (I i) s:=by have dZ:=Abg i;unfold YR;refine zv ?_;rw[dZ];exact Ix e a s h
def APw(hi:0<=i)(O4:i<=100000)(HV:(l.map Aq)[i.toNat]?=some x.Gy)(hw:x.WF){w1:PV->PV->F1}(Ix:∀e a s,Xo N e a s->w1 (.G5 0 0) (.HC (l.map Aq)) (I (i+1)) s){e a:Int}{s:St}(h:Xo N e a s):bz 0 1 Q w1 (.G5 0 0) (.HC (l.map Aq)) (I i) s:=by
 have Mt:=h.h0;have H5:=h.lt;have hxe:x.e.WF:=by cases hw with|mk _ _ _ _ _ h2 _ _=>exact h2
 obtain⟨r,e1,a1,I5,rfl⟩:=(lq (N:=N) hxe e a).pc;unfold bz;refine pQ_v Ad5 ?_;refine pQ_v (IM (BQ x)) ?_;refine JG zh ?_;refine AWH ?_ λ_=>AGq hi O4 Ix h;refine pQ_v Ad5 ?_;refine Gu (OD (Item.cut x)) ?_;refine Gz I5 (Lh rfl) rfl AdX rfl ?_;simp only[Hu,NN];exact AGq hi O4 Ix (e:=e1) (a:=a1) ⟨Ay,H5⟩
def AHm(hi:0<=i)(O4:i<=100000)(HV:(l.map Aq)[i.toNat]?=some x.Gy)(hw:x.WF)(OS:x.G0.length<=100000)(KH:∀st∈x.G0,AEp N st){w1:PV->PV->F1}(Ix:∀e a s,Xo N e a s->w1 (.G5 0 0) (.HC (l.map Aq)) (I (i+1)) s):
  ∀c:Nat,∃k,∀(j e a:Int) (s:St),0<=j->j<=x.G0.length->x.G0.length-j<=c->Xo N e a s->Tx 0 1 Q w1 k (.G5 0 0) (.HC (l.map Aq)) (I i) (I j) s:=by
 have done:∀(k:Nat) (j e a:Int) (s:St),0<=j->¬(j<x.G0.length/\e=0)->Xo N e a s->Tx 0 1 Q w1 (k+1) (.G5 0 0) (.HC (l.map Aq)) (I i) (I j) s:=by
  intro k j e a s h0 JU h;have Mt:=h.h0;show eM _ _ _ _ _ _ _ _ _ _;unfold eM;refine pQ_v Ad5 ?_;refine pQ_v (IM (BQ x)) ?_;refine JG zh ?_;refine Gw (λh9=>?_) λ_=>APw hi O4 HV hw Ix h;exact AfK
 intro c
 induction c with
 |zero=>exact⟨1,λj e a s h0 h1 hc h=>done 0 j e a s h0 AA h⟩
 |succ c ih=>
  obtain⟨k,ih⟩:=ih;refine⟨k+1,λj e a s h0 h1 hc h=>?_⟩;by_cases JU:j<x.G0.length/\e=0
  case neg=>exact done k j e a s h0 JU h
  obtain⟨H5,he⟩:=JU;have Pd:=QB h0 H5;have mn:=KH (x.G0[j.toNat]' AA) (Bl _);generalize x.G0[j.toNat]' AA=st at Pd mn;obtain⟨nm,Lm,LR,Gx,HE,HI⟩:=st;obtain⟨t1,t2,t3⟩:=mn;simp only[HF.Lm,HF.LR,HF.HE]at t1 t2 t3;have mi:(HF.mk nm Lm LR Gx HE HI).Gy=[.HK nm,.HC (Lm.map Ax),.HC (LR.map Ax),.HC (Gx.map Ao),.HC (HE.map Aq),I HI]:=by rw[HF.JP];rfl
  obtain⟨k4,hk4⟩:=AH2 (N:=N) (l:=l) (i:=i) (Q:=Q) (nm:=nm) (Lm:=Lm) (LR:=LR) (Gx:=Gx) (HE:=HE) (HI:=HI) (w1:=w1) (w68:=Tx 0 1 Q w1 k) (k:=j) t2.len t2.all h0 AA (λe a s h=>ih (j+1) e a s AA AA AA h) LR.length;obtain⟨k5,hk5⟩:=AEJ (N:=N) (l:=l) (i:=i) (Q:=Q) (nm:=nm) (Lm:=Lm) (LR:=LR) (Gx:=Gx) (HE:=HE) (HI:=HI) (w1:=w1) (w68:=Tx 0 1 Q w1 k) (k:=j) t1.len t1.all t3 ⟨k4,λe a bs s h=>hk4 0 e a bs s AA AA AA h⟩ Lm.length;have Mt:=h.h0;have hl0:=h.lt;show eM _ _ _ _ _ _ _ _ _ _;unfold eM;refine pQ_v Ad5 ?_;refine pQ_v (IM (BQ x)) ?_;refine JG zh ?_;refine AWH ?_ λh9=>?_
  case refine_2=>simp[he]at h9;omega
  refine pQ_v Ad5 ?_;refine Gu (IM (BQ x)) ?_;refine Gu Ae0 ?_;refine Gu AfF ?_;rw[mi];refine zv ?_;exact⟨k5,hk5 0 e a s.next _ AA AA AA ⟨⟨zh,by simp only[Hj,Hz];omega⟩,zh,AA⟩⟩
def pR(hl:l.length<=100000)(hw:∀x∈l,x.WF)(KH:∀x∈l,∀st∈x.G0,AEp N st):jj N l:=by
 intro e a
 have done:∀(k:Nat) (i e a:Int) (s:St),0<=i->¬(i<l.length/\e=0)->Xo N e a s->SB 0 1 (λr c=>∃e' a',c=[ck N e' a']/\r=.tuple []) (k+1) (.G5 0 0) (.HC (l.map Aq)) (I i) s:=by
  intro k i e a s h0 JU h;have Mt:=h.h0;show kq _ _ _ _ _ _ _ _;unfold kq;exact Akf
 have loop:∀c:Nat,∃k,∀(i e a:Int) (s:St),0<=i->i<=l.length->l.length-i<=c->Xo N e a s->SB 0 1 (λr c=>∃e' a',c=[ck N e' a']/\r=.tuple []) k (.G5 0 0) (.HC (l.map Aq)) (I i) s:=by
  intro c
  induction c with
  |zero=>exact⟨1,λi e a s h0 h1 hc h=>done 0 i e a s h0 AA h⟩
  |succ c ih=>
   obtain⟨k,ih⟩:=ih;refine⟨k+1,λi e a s h0 h1 hc h=>?_⟩;by_cases JU:i<l.length/\e=0
   case neg=>exact done k i e a s h0 JU h
   obtain⟨H5,he⟩:=JU;have HV:=Vm h0 H5;have Kk:l[i.toNat]' AA∈l:=Bl _;generalize l[i.toNat]' AA=x at HV Kk;have OS:x.G0.length<=100000:=by cases hw x Kk with|mk _ _ _ _ _ _ h3 _=>exact h3
   obtain⟨k2,Jr⟩:=AHm (N:=N) (Q:=λr c=>∃e' a',c=[ck N e' a']/\r=.tuple []) (w1:=SB 0 1 (λr c=>∃e' a',c=[ck N e' a']/\r=.tuple []) k) h0 AA HV (hw x Kk) OS (KH x Kk) (λe a s h=>ih (i+1) e a s AA AA AA h) x.G0.length;have Mt:=h.h0;show kq _ _ _ _ _ _ _ _;unfold kq;refine zv ?_;refine JG zh ?_;refine AWH ?_ λh9=>?_
   case refine_2=>simp[he]at h9;omega
   exact⟨k2,Jr 0 e a s AA AA AA h⟩
 obtain⟨k,hk⟩:=loop l.length;refine ANb 0 rfl _ _ ?_;unfold c43;exact AiE
def ye:∀(c:Nat) (l:List Item),As l<=c->l.length<=100000->(∀x∈l,x.WF)->jj N l:=by
 intro c
 induction c with
 |zero=>
  intro l hl Xs hw;refine pR Xs hw λx hx st KH=>?_;exfalso;obtain⟨q,hq,si⟩:=By hx;have h1:=PJ hq;have h2:As l=As (l.take q)+As (l.drop q):=by rw[<- Item.Io,CP]
  rw[si]at h1;obtain⟨G6,ex,G0,HI⟩:=x;cases G0 with
  |nil=>exact Zq KH AcD
  |cons st r=>cases st;simp only[BE,A7,BK]at h1;omega
 |succ c ih=>
  intro l hl Xs hw;refine pR Xs hw λx hx st KH=>?_;have hxw:=hw x hx;obtain⟨q,hq,si⟩:=By hx;have h1:=PJ hq;have h2:As l=As (l.take q)+As (l.drop q):=by rw[<- Item.Io,CP]
  rw[si]at h1;obtain⟨q2,UQ,hqs⟩:=By KH;have h3:=XS UQ;rw[hqs]at h3
  have h4:A7 x.G0<=x.wt:=by
   exact Af6
  have zH:st.WF:=by cases hxw with|mk _ _ _ _ _ _ _ h9=>exact h9 _ KH
  obtain⟨nm,Lm,LR,Gx,HE,HI⟩:=st;cases zH with|mk _ _ _ _ _ _ w1 w2 w3 w4 w5=>
  simp only[BK]at h3;exact⟨w1,w2,ih HE AA w4 w5⟩
end
end
section
open Go.Proofs
attribute [local irreducible] kf
section
variable{N:List G8} {Q:PV->LLP->Prop}
def ASg{e a:Int}{s:St}(h:s.heap 1=some (.box (ck N e a)))(hQ:Q (.tuple [I a,I e]) []):kf 0 0 Q (.G5 1 0) s:=by unfold kf;exact Afy
def AKw(hN:N.length<=60)(hw:∀n∈N,n.WF)(hQ:∀e a:Int,Q (.tuple [I a,I e]) []):
  ∀c:Nat,∃k,∀(i e a:Int) (s:St),0<=i->i<=N.length->N.length-i<=c->s.heap 0=some (.box [.HC (N.map A2)])->s.heap 1=some (.box (ck N e a))->1<s.next->kg 0 0 Q k (.G5 0 0) (.G5 1 0) (I i) s:=by
 have done:∀(k:Nat) (i e a:Int) (s:St),0<=i->¬(i<N.length/\e=0)->s.heap 0=some (.box [.HC (N.map A2)])->s.heap 1=some (.box (ck N e a))->1<s.next->kg 0 0 Q (k+1) (.G5 0 0) (.G5 1 0) (I i) s:=by
  intro k i e a s h0 JU h1 h2 h3;show eH _ _ _ _ _ _ _ _;unfold eH;refine zv ?_;refine Tl zh ?_;refine Gw (λh9=>?_) λ_=>ASg zh (hQ _ _);exact AfK
 intro c
 induction c with
 |zero=>exact⟨1,λi e a s h0 h1 hc=>done 0 i e a s h0 AA⟩
 |succ c ih=>
  obtain⟨k,ih⟩:=ih;refine⟨k+1,λi e a s h0 h1' hc h1 h2 h3=>?_⟩;by_cases JU:i<N.length/\e=0
  case neg=>exact done k i e a s h0 JU h1 h2 h3
  obtain⟨H5,he⟩:=JU;have dZ:=Abg i;have HV:=Te h0 H5;have jL:=hw (N[i.toNat]' AA) (Bl _);generalize N[i.toNat]' AA=n at HV jL;obtain⟨r,e1,a1,K4,rfl⟩:=((ye (N:=N) _ n.HE (Bd _) jL.len jL.HE) e a).pc;show eH _ _ _ _ _ _ _ _;unfold eH;refine zv ?_;refine Tl zh ?_;refine AWH ?_ λh9=>?_
  case refine_2=>simp[he]at h9;omega
  refine zv ?_;refine pQ_v Aei ?_;rw[Item.Jc];refine Gz K4 rfl rfl AeD rfl ?_;simp only[Hu,NN];refine zv ?_;rw[dZ];exact ih _ e1 a1 _ AA AA AA zh zh Abo
def yd(hN:N.length<=60)(hw:∀n∈N,n.WF):∃a e:Int,PC BW 27 [.agg [.HC (N.map A2)]] [] (.tuple [I a,I e]) []:=by
 obtain⟨K,hK⟩:=AKw (N:=N) (Q:=λr c=>c=[]/\∃a e:Int,r=.tuple [I a,I e]) hN hw (λe a=>⟨rfl,a,e,rfl⟩) N.length
 have:PQ BW 27 [.agg [.HC (N.map A2)]] [] (λr c=>c=[]/\∃a e:Int,r=.tuple [I a,I e]):=by
  refine ANV 0 rfl _ ?_;unfold c27;exact Ajp
 exact Ah6
end
end
end Go.Vi
