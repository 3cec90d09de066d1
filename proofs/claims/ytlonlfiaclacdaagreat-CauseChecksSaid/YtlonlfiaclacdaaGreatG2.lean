/- Part of the proof of CauseChecks (own work, made small). -/
import Derived.Test.YtlonlfiaclacdaaGreatG1
set_option linter.all false
set_option maxRecDepth 100000
open Bool renaming and_eq_true->Bo
open Go renaming FuncId->B9
open Go.Proofs.Tryz renaming prog->BZ
open Go.Vi.GD renaming GG->A8,wt->BG,HS->Ax
open Go.Vi.Ge renaming name->Ao,GG->Am
open Go.Vi.Gj renaming GG->Aw
open Go.Vi.I1 renaming i->BV,is->BH
open Go.Vi.Item renaming GG->Aq,wt->BF,HS->As
open Go.Vi.St renaming H3->Az,G0->Av,Gg->Ar,HJ->A4
open List renaming all_cons->Co,all_eq_true->CY,append_assoc->B3,append_nil->CG,drop_eq_getElem_cons->Bt,drop_of_length_le->CB,drop_zero->CA,flatMap_cons->C4,getD_eq_getElem?_getD->CK,getElem?_eq_getElem->Bc,getElem?_eq_none->Ck,getElem?_eq_some_iff->Bp,getElem?_map->CV,getElem_mem->Bl,length_append->Bd,length_cons->CE,length_map->Bb,length_singleton->C3,map_append->Bu,map_set->E7,mem_append->Bf,mem_cons->Bm,mem_filterMap->CD,mem_map->B8,mem_of_getElem?->Bn,mem_singleton->By,nil_append->CC,nodup_cons->CP,set_cons_succ->Cb,set_cons_zero->Ca,take_append_drop->CX,take_of_length_le->Cc
open Nat renaming add_assoc->DY,add_mul->Ce,le_refl->Bg,zero_add->CZ,zero_le->DO
open Option.some renaming injEq->Bh
open Prod renaming fst->CO,snd->Bx
namespace Go.Vi
attribute [local irreducible] H0 HR Gp Ht Gf Hu GJ GM Gc HK HC JI G6 Hs Hq Ho JZ Jd Ip JN JW G2 Gq Hb pQ I2 Ic Gn Gb Gs HA HZ H8 Int.instDecidableEq Int.decEq instBEqOfDecidableEq IY II Ia Jq HF HH HN pC Nm OJ Jz Jc
section
open Go.Proofs
end
namespace Hp
end Hp
section
open Go.Proofs
end
section
open Go.Proofs
end
section
open Go.Proofs
end
section
open Go.Proofs
end
section
open Go.Proofs
end
section
open Go.Proofs
structure OnS (s:St) (b:Nat) (os:List (Option Nat×List Int)):Prop where
 K7:s.heap b=some (.K7 1 (os.map Hk))
 HE:∀p,p∈os->KQ s p
 nd:(os.filterMap CO).Nodup
def OnS.lt{s:St}(hf:Gm s){b:Nat}{os:List (OLI)}(h:OnS s b os){d:Nat}(hd:d∈os.filterMap CO):∃n,s.heap d=some (.HE n 1):=by obtain⟨p,hp,hc⟩:=CD.1 hd;have:=h.HE p hp;unfold KQ at this;rw[hc]at this;exact⟨_,this⟩
def AAk{d:Nat}:∀(os:List (OLI)) (i v:Nat) (p q:OLI),os[i]?=some p->os[v]?=some q->p.1=some d->q.1=some d->(os.filterMap CO).Nodup->i=v:=by
 intro os
 induction os with
 |nil=>intro i v p q h;simp at h
 |cons z os ih=>
  intro i v p q hi hv hp hq KO
  have AMg:(os.filterMap CO).Nodup:=by
   cases hz:z.1 with
   |none=>simpa only[List.filterMap_cons,hz]using KO
   |some e=>simp only[List.filterMap_cons,hz,CP]at KO;exact KO.2
  cases i with
  |zero=>
   cases v with
   |zero=>rfl
   |succ v=>
    exact AfJ
  |succ i=>
   cases v with
   |zero=>
    exact AfK
   |succ v=>simp at hi hv;rw[ih i v p q hi hv hp hq AMg]
def ANg{s:St}(hf:Gm s){b:Nat}{os:List (OLI)}(hO:OnS s b os){v:Nat}{p:OLI}(hv:os[v]?=some p){x:PV}{xs:LI}(hx:x.GK=some (I7 xs))(hn:p.2.length+xs.length<=1000000000):
  ∃y s1 s2 os',H8 (Hb 1 8 (Hk p) x) s y s1 [] p.1.toList/\y.IT=true/\H8 (Gc 1 y (.GN b v)) s1 .undef s2 [] [b]/\OnS s2 b os'/\os'.length=os.length/\os'.map Bx=OA (os.map Bx) v xs/\(∀d,d∈os'.filterMap CO->d∈os.filterMap CO\/s.next<=d)/\(∀d,d≠b->d∉os.filterMap CO->d<s.next->s2.heap d=s.heap d)/\HT s s2/\Gm s2/\(∀d,s.heap d≠none->p.1≠some d->s1.heap d=s.heap d):=by
 obtain⟨o,l⟩:=p;have hvl:=(Bp.1 hv).1;have hpm:(o,l)∈os:=Bn hv;obtain⟨c,s1,a1,a2,a3,a4,a5,a6⟩:=UA hf (hO.HE _ hpm) hx hn;have fO:=hO.K7
 have Wz:∀{p:OLI} {d:Nat},p∈os->p.1=some d->s.heap d=some (.HE p.2.length 1):=λ{p d} hp hd=>by
  have:=hO.HE p hp;unfold KQ at this;rw[hd]at this;exact this
 have hbc:b≠c:=by
  exact Afx
 have Lz:s1.heap b=some (.K7 1 (os.map Hk)):=(a3 b hbc).trans fO;have rf:(os.map Hk).set v (Hk (some c,l++xs))=(os.set v (some c,l++xs)).map Hk:=by rw[E7]
 have OW:∀d,d≠b->d≠c->(s1.set b (.K7 1 ((os.map Hk).set v (Hk (some c,l++xs))))).heap d=s.heap d:=λd h1 h2=>by rw[Ar h1,a3 d h2]
 refine⟨_,s1,s1.set b (.K7 1 ((os.map Hk).set v (Hk (some c,l++xs)))),os.set v (some c,l++xs),a1,LR,T3 Lz LR (by simpa using hvl),⟨by rw[A4,rf],λp hp=>?_,?_⟩,AD,?_,λd hd=>?_,λd h1 h2 h3=>?_,a6.trans (IV AS),Hx a5 AS,λd hd tY=>?_⟩
 .obtain⟨i,hi⟩:∃i,(os.set v (some c,l++xs))[i]?=some p:=List.mem_iff_getElem?.1 hp;rw[List.getElem?_set]at hi;split at hi
  .exact Age
  .rename_i Kk;have vK:p∈os:=Bn hi;refine(hO.HE p vK).Hi λd hd=>?_;have hdo:=Wz vK hd;refine OW d (JQ hdo fO AD) ?_;rintro rfl;rcases a4 with⟨h,_⟩|⟨_,h,_⟩
   .exact Kk (AAk os i v p (o,l) hi hv hd h hO.nd).symm
   .have:=Gu hf hdo;omega
 .refine nD hv hO.nd ?_;exact Aej
 .unfold OA;rw[E7,CK,CV,hv];rfl
 .exact AeS
 .refine OW d h1 ?_;exact Af5
 .exact Afa
end
section
open Go.Proofs
def j8(i:Int):dz BZ 55 (.i i)=true:=by kernel_rfl
def XC{n:Int}:BH (.i n) (.i n)=true:=by simp[BH]
def vT{n n':Int}(h:n'≠n):BH (.i n') (.i n)=false:=by simp[BH,h]
def dw{n:Int}{k:I1}(h:BH (.i n) k=true):k=.i n:=by
 cases k with
 |i m=>simp only[BH,beq_iff_eq]at h;rw[h]
 |s _=>cases h
def kG{n n':Int}{i:Int}:∀{M:ML},IQ (.i n') (Mv (.i n) i M)=if n'=n then some i else IQ (.i n') M
 |[]=>by
  by_cases h:n'=n
  .subst h;simp[Mv,IQ,XC]
  .simp[Mv,IQ,vT h,h]
 |(k,v)::r=>by
  unfold Mv;cases hk:BH (.i n) k with
  |true=>
   have:=dw hk;subst this;by_cases h:n'=n
   .subst h;simp[IQ,XC]
   .simp[IQ,vT h,h]
  |false=>
   simp only[cond_false,IQ];cases Rm:BH (.i n') k with
   |true=>
    have:=dw Rm;subst this;have h:n'≠n:=by rintro rfl;rw[XC]at hk;cases hk
    simp[h]
   |false=>simp only[cond_false];exact kG
def m5{n:Int}{i:Int}:∀{M:ML},M.all (λp=>(BV 0).NM p.1)=true->(Mv (.i n) i M).all (λp=>(BV 0).NM p.1)=true
 |[],_=>rfl
 |(k,v)::r,h=>by
  simp only[Co,Bo]at h;unfold Mv;cases BH (.i n) k with
  |true=>simp only[cond_true,Co,h.2,Bool.and_true];rfl
  |false=>simp only[cond_false,Co,h.1,m5 h.2,Bool.and_true]
def j4{n n':Int}{M:ML}(h:M.all (λp=>(BV n).NM p.1)=true):M.all (λp=>(BV n').NM p.1)=true:=by
 rw[CY]at h⊢;intro p hp;have:=h p hp;cases hk:p.1 with
 |i _=>rfl
 |s _=>rw[hk]at this;cases this
end
section
open Go.Proofs
end
section
open Go.Proofs
end
section
open Go.Proofs
def OO{i:Int}(h:0<=i)(h2:i<=1000000000):SP BZ .add 3 (I i) (I 1)=some (I (i+1)):=by show some (PVI (IntKind.i64.wrap _))=_;rw[HB AA AA]
end
section
open Go.Proofs
end
section
open Go.Proofs
end
section
open Go.Proofs
end
section
open Go.Proofs
end
section
open Go.Proofs
end
section
open Go.Proofs
end
section
open Go.Proofs
end
section
open Go.Proofs
mutual
theorem Ze:∀e:Gw,(Li e).length<=e.wt
 | .mk form sub name tk tl n m GP a=>by
  have h1:=yl GP;have h2:=ANo GP;simp only[Li,Gw.wt];split
  .simp
  .rename_i h6;simp only[Bd];split
   .rename_i h;rw[Ng AA];simp only[C3];split<;>omega
   .simp only[List.length_nil];split<;>omega
theorem yl:∀l:List Gw,(Qt l).length<=Gw.HS l
 |[]=>by simp[Qt]
 |k::r=>by
  have h1:=Ze k;have h2:=yl r;simp only[Qt,Gw.HS,Bd];omega
theorem ANo:∀l:List Gw,(rdH l).length<=Gw.HS l
 |[]=>by simp[rdH]
 |k::r=>by
  have h1:=Ze k;simp only[rdH,Gw.HS];omega
end
section
variable{ch:List Sc} {m:Nat} (hc:∀n,Lb n ch<m)
include hc
end
theorem xy{S:List BA}{w:BA}(h:w∈S):Kv S w=true:=OV.2 ⟨w,h,rfl⟩
theorem gY.YT{A B:List BA}(h:gY (A++B)){a b:BA}(ha:a∈A)(hb:b∈B):b≠a:=by
 rintro rfl;obtain⟨j,hj,hjb⟩:=List.mem_iff_getElem.1 hb;have:=h (A.length+j) AB;have he:(A++B)[A.length+j]' AB=b:=by rw[List.getElem_append_right AA];simp[hjb]
 rw[he,List.take_append,Cc AA,xy (Bf.2 (.inl ha))]at this;cases this
theorem GO.hd{n:GO}(h:gY n.vars):∀v,v∈n.JS->∀u,u∈n.Hz++n.GA->u.name≠v.name:=λv hv u hu=>by
 have hv':n.vars=n.JS.map Ao++(n.Hz++n.GA).map Ao:=by simp[GO.vars,GO.all]
 rw[hv']at h;exact h.YT (B8.2 ⟨v,hv,rfl⟩) (B8.2 ⟨u,hu,rfl⟩)
end
section
open Go.Proofs
end
section
mutual
def Item.YA:Item->List Int
 | .mk _ _ GB _=>GD.Mu GB
def Item.Mu:List Item->List Int
 |[]=>[]
 |x::r=>x.YA++Item.Mu r
def GD.YA:GD->List Int
 | .mk _ _ _ GA GQ _=>GA.map Ge.GY++Item.Mu GQ
def GD.Mu:List GD->List Int
 |[]=>[]
 |x::r=>x.YA++GD.Mu r
end
def S4(f:BA->Int)(k:Nat)(l:List Ge)(n:BA):Int:=match IQ (.s n) (Le [] k l)with
 |some i=>i
 |none=>f n
def GD.MO(l:List GD):List BA:=l.flatMap λs=>s.JB.flatMap λt=>Li t.cond
mutual
def Item.ed (b:Bool) (u w:Int):Item->(ByteArray->Int)->(Int->Prop)->Nat->Prop
 | .mk GL e GB _,f,M,k=>(GB=[]/\∃n,n∈GL/\f n=u/\(M w\/∃m,m∈Li e/\f m=w))\/GD.O3 b u w GB f (λc=>M c\/∃m,m∈GD.MO GB/\f m=c) k
def Item.O3 (b:Bool) (u w:Int):List Item->(ByteArray->Int)->(Int->Prop)->Nat->Prop
 |[],_,_,_=>False
 |x::r,f,M,k=>x.ed b u w f M k\/Item.O3 b u w r f M (k+x.YA.length)
def GD.ed (b:Bool) (u w:Int):GD->(ByteArray->Int)->(Int->Prop)->Nat->Prop
 | .mk _ _ _ GA GQ _,f,M,k=>(∃v,v∈GA/\S4 f k GA v.name=u/\((b=true/\M w)\/∃c,c∈v.Ga/\S4 f k GA c.name=w))\/Item.O3 b u w GQ (S4 f k GA) M (k+GA.length)
def GD.O3 (b:Bool) (u w:Int):List GD->(ByteArray->Int)->(Int->Prop)->Nat->Prop
 |[],_,_,_=>False
 |x::r,f,M,k=>x.ed b u w f M k\/GD.O3 b u w r f M (k+x.YA.length)
end
structure L2 (P P':List (List Int)) (n:Nat) (E:Int->Int->Prop):Prop where
 len:P'.length=P.length+n
 is:∀(u:Nat) (x:Int),x∈P'.getD u []<->x∈P.getD u []\/(0<=x/\E u x)
def L2.refl(P:LLI){E:Int->Int->Prop}(h:∀(u:Nat) x,0<=x->¬E u x):L2 P P 0 E:=⟨rfl,λu x=>⟨.inl,λh'=>h'.elim id λh1=>Zq h1.2 (h u x h1.1)⟩⟩
def L2.trans{P Q R:LLI}{n m k:Nat}{E F G:Int->Int->Prop}(h:L2 P Q n E)(h':L2 Q R m F)(hk:k=n+m)(hG:∀(u:Nat) x,0<=x->(G u x<->E u x\/F u x)):L2 P R k G:=
 ⟨by rw[h'.len,h.len];omega,λu x=>by
  rw[h'.is,h.is];constructor
  .rintro((h1|⟨h0,h1⟩)|⟨h0,h1⟩)
   .exact AgC
   .exact .inr ⟨h0,(hG u x h0).2 (.inl h1)⟩
   .exact .inr ⟨h0,(hG u x h0).2 (.inr h1)⟩
  .rintro(h1|⟨h0,h1⟩)
   .exact .inl (.inl h1)
   .rcases(hG u x h0).1 h1 with h2|h2
    .exact .inl (.inr ⟨h0,h2⟩)
    .exact .inr ⟨h0,h2⟩⟩
def L2.iff{P Q:LLI}{n:Nat}{E F:Int->Int->Prop}(h:L2 P Q n E)(hE:∀(u:Nat) x,0<=x->(F u x<->E u x)):L2 P Q n F:=⟨h.len,λu x=>by rw[h.is];exact or_congr_right (and_congr_right λh0=>(hE u x h0).symm)⟩
def qe{on:LLI}{v u:Nat}{xs:LI}:(OA on v xs).getD u []=if u=v/\v<on.length then on.getD u []++xs else on.getD u []:=by
 unfold OA;rw[CK,List.getElem?_set];by_cases h:v=u
 .subst h;by_cases hl:v<on.length
  .simp[hl]
  .rw[Ps rfl,Ng hl,Ng (by simp[hl]),CK,Ck AA]
 .rw[Ng h,Ng λe=>h e.1.symm,CK]
def gl{on:LLI}{v:Nat}{xs:LI}:(OA on v xs).length=on.length:=by simp[OA]
def Tz{P:LLI}{v:Nat}(hv:v<P.length){xs:LI}{E:Int->Int->Prop}(hE:∀(u:Nat) x,x∈xs/\u=v<->0<=x/\E u x):L2 P (OA P v xs) 0 E:=⟨gl,λu x=>by
 rw[qe,<- hE u x];by_cases h:u=v
 .rw[Ps ⟨h,hv⟩,Bf];simp[h]
 .rw[Ng λe=>h e.1];simp[h]⟩
def gO{i x:Int}:x∈lR i<->0<=x/\i=x:=by
 unfold lR;split
 .rw[By];exact⟨λh=>by subst h;exact⟨by assumption,rfl⟩,λh=>h.2.symm⟩
 .constructor
  .intro h;cases h
  .rintro⟨h,rfl⟩;contradiction
section
variable{ch:List Sc}
def eC{k:Nat}:∀{ns:List BA} {P:LLI},k<P.length->L2 P (Xv ch k P ns) 0 λu x=>u=k/\∃m,m∈ns/\Lb m ch=x
 |[],P,hk=>L2.refl P (by rintro u x _ ⟨_,m,hm,_⟩;cases hm)
 |n::ns,P,hk=>(Tz hk (xs:=lR (Lb n ch)) (E:=λu x=>u=k/\Lb n ch=x) λu x=>by
   rw[gO];exact⟨λh=>⟨h.1.1,AA,h.1.2⟩,λh=>⟨⟨h.1,h.2.2⟩,by have:=h.2.1;omega⟩⟩).trans (eC (k:=k) (ns:=ns) (by rw[gl];exact hk)) rfl λu x h0=>by
  constructor
  .rintro⟨h1,m,hm,h2⟩;rcases Bm.1 hm with rfl|hm
   .exact .inl ⟨h1,h2⟩
   .exact .inr ⟨h1,m,hm,h2⟩
  .rintro(⟨h1,h2⟩|⟨h1,m,hm,h2⟩)
   .exact⟨h1,n,AD,h2⟩
   .exact⟨h1,m,by simp[hm],h2⟩
def Mo(Ie:LI)(M:Int->Prop):Prop:=∀x:Int,x∈Ie<->0<=x/\M x
def AHv{Ie:LI}{M:Int->Prop}(hM:Mo Ie M){e:Gw}{P:LLI}{n:BA}(hn:Lb n ch<P.length):L2 P (lh ch Ie e P n) 0 λu x=>Lb n ch=u/\(M x\/∃m,m∈Li e/\Lb m ch=x):=by
 unfold lh;split
 .exact L2.refl P (by rintro u x _ ⟨h,_⟩;omega)
 .rename_i h0;have hk:(Lb n ch).toNat<P.length:=AA;refine(eC hk).trans (Tz (E:=λu x=>u=(Lb n ch).toNat/\M x) (by rw[(eC (ch:=ch) hk).len];exact hk) λu x=>?_) rfl λu x hx=>?_
  .rw[hM x];exact AeA
  .exact AeV
def Ny{α:Type}{F:LLI->α->LLI}{E:α->Int->Int->Prop}:∀{l:List α} {P:LLI},(∀a P',a∈l->P'.length=P.length->L2 P' (F P' a) 0 (E a))->L2 P (l.foldl F P) 0 λu x=>∃a,a∈l/\E a u x
 |[],P,_=>L2.refl P (by rintro u x _ ⟨a,ha,_⟩;cases ha)
 |a::l,P,h=>by
  have h1:=h a P AD rfl;refine h1.trans (Ny (E:=E) (l:=l) λb P' hb hl=>h b P' (by simp[hb]) (by rw[hl,h1.len];rfl)) rfl λu x _=>?_;constructor
  .rintro⟨b,hb,h2⟩;rcases Bm.1 hb with rfl|hb
   .exact .inl h2
   .exact .inr ⟨b,hb,h2⟩
  .rintro(h2|⟨b,hb,h2⟩)
   .exact⟨a,AD,h2⟩
   .exact⟨b,by simp[hb],h2⟩
def AD0{k:Nat}{l:List Edge}{P:LLI}(hk:k<P.length):L2 P (iq ch k P l) 0 λu x=>∃c,c∈l/\u=k/\Lb c.name ch=x:=by unfold iq;refine Ny (E:=λ(c:Edge) u x=>u=k/\Lb c.name ch=x) λc P' _ hl=>Tz AA λu x=>?_;rw[gO];exact AeA
def m9{M:ML}{l:List Ge}{P:LLI}(hk:∀v,v∈l->ZP M v.name<P.length):L2 P (TE ch M P l) 0 λu x=>∃v,v∈l/\∃c,c∈v.Ga/\u=ZP M v.name/\Lb c.name ch=x:=by unfold TE;exact Ny (E:=λ(v:Ge) u x=>∃c,c∈v.Ga/\u=ZP M v.name/\Lb c.name ch=x) λv P' hv hl=>AD0 (by rw[hl];exact hk v hv)
end
def bZ{P:LLI}{α:Type}{l:List α}{E:Int->Int->Prop}(hE:∀(u:Nat) x,0<=x->¬E u x):L2 P (P++l.map λ_=>[]) l.length E:=⟨AD,λu x=>by
 rw[CK,CK,List.getElem?_append];have Pt:¬(0<=x/\E u x):=λh=>hE u x h.1 h.2;split
 .simp[Pt]
 .rw[Ck (l:=P) AA,CV];cases l[u-P.length]?<;>simp[Pt]⟩
end
section
open Go.Proofs
structure CI (s1:St) (l:List Int) (oc:Option Nat) (s:St):Prop where
 old:∀b,b<s1.next->s.heap b=s1.heap b
 Iw:HT s1 s
 Iv:Gm s
 box:s.heap s1.next=some (.box [Hk (oc,l)])
 HE:KQ s (oc,l)
 new:∀c,oc=some c->s1.next<=c
def CJ(s1:St)(l:LI)(s:St):Prop:=∃oc,CI s1 l oc s
theorem CI.lt{s1 s:St}{l:LI}{oc:ON}(h:CI s1 l oc s):s1.next<s.next:=Gu h.Iv h.box
theorem CI.step{s1 s s':St}{l:LI}{oc:ON}(h:CI s1 l oc s)(hf:Gm s')(hn:s.next<=s'.next)(hk:∀b,b<s.next->s'.heap b=s.heap b):CI s1 l oc s':=
 have hl:=h.lt;have hg:=h.Iw.next
 ⟨λb hb=>(hk b AA).trans (h.old b hb),⟨AA,λb hb hh=>(hk b AA).trans (h.Iw.none b hb hh)⟩,hf,(hk _ hl).trans h.box,h.HE.Hi λc hc=>hk c (by
  have:=h.HE;unfold KQ at this;rw[hc]at this;exact Gu h.Iv this),h.new⟩
theorem CJ.step{s1 s s':St}{l:LI}(h:CJ s1 l s)(hf:Gm s')(hn:s.next<=s'.next)(hk:∀b,b<s.next->s'.heap b=s.heap b):CJ s1 l s':=h.imp λ_ h=>h.step hf hn hk
def SX(ch:List Sc)(ns:List BA):LI:=ns.flatMap λn=>lR (Lb n ch)
theorem Wu{ch:List Sc}:∀{ns:List BA},(SX ch ns).length<=ns.length
 |[]=>DO _
 |n::ns=>by
  have h1:=Wu (ch:=ch) (ns:=ns);have h2:=gH (i:=Lb n ch);simp only[SX,C4,Bd,CE]at h1⊢;omega
theorem jo{ch:List Sc}{a b:List BA}:SX ch (a++b)=SX ch a++SX ch b:=by simp[SX]
theorem CI.app{s1 s:St}{l:LI}{oc:ON}(h:CI s1 l oc s){x:PV}{xs:LI}(hx:x.GK=some (I7 xs))(hn:l.length+xs.length<=1000000000):
  ∃o' s2,H8 (Hb 1 8 (Hk (oc,l)) x) s (Hk (some o',l++xs)) s2 [] oc.toList/\s2.heap s1.next=some (.box [Hk (oc,l)])/\CI s1 (l++xs) (some o') (s2.set s1.next (.box [Hk (some o',l++xs)])):=by
 obtain⟨o',s2,a1,a2,a3,a4,a5,a6⟩:=UA h.Iv h.HE hx hn;have G7:=h.lt;have hg:=h.Iw.next
 have ho:s1.next<o':=by
  rcases a4 with⟨h1,_⟩|⟨_,h1,_⟩
  .have h2:=h.new _ h1;have h3:=h.HE;unfold KQ at h3;simp only[h1]at h3;have:=JQ h3 h.box AD;omega
  .omega
 have hb:s2.heap s1.next=some (.box [Hk (oc,l)]):=(a3 _ AA).trans h.box;refine⟨o',s2,a1,hb,λb OK=>?_,(h.Iw.trans a6).trans (IV (by rw[hb];simp)),Hx a5 (by rw[hb];simp),A4,?_,λc hc=>by cases hc;omega⟩
 .rw[Ar AA,a3 b AA,h.old b OK]
 .show(s2.set s1.next _).heap o'=_;rw[Ar AA,a2]
section
variable{s1:St} (MS:Gm s1) {sb:Nat} {sv:PV} (Ur:s1.heap sb=some (.box [sv])) {ch:List Sc} (hc:I9 s1 sv ch)
include MS Ur hc
theorem uY{s:St}{l:LI}{n:BA}(h:CJ s1 l s)(hl:l.length<=900000000){K:F0}(hK:∀s',CJ s1 (l++lR (Lb n ch)) s'->K s'):ay (.Hw .Jh) (.GN sb 0) (.GN s1.next 0) (.Gh n) K s:=by
 obtain⟨oc,h⟩:=h;have JK:I9 s sv ch:=hc.Hi λb hb=>h.old b (hc.lt MS hb);unfold ay;refine Fy pb ?_;refine Fy (GH ((h.old sb (Gu MS Ur)).trans Ur) rfl) ?_;refine Rc ((ft (E:=.Jh) h.Iv JK n).sw (Q:=λr s'=>r=I (Lb n ch)/\s'=s) ⟨rfl,rfl⟩) λv s' _ _ hq=>?_;obtain⟨rfl,hq⟩:=hq;rw[hq];refine Fy Il ?_;by_cases h0:0<=Lb n ch
 .refine Fy (Gt (AQG h0)) ?_;refine ct ?_;refine Fy (GH h.box rfl) ?_;refine Fy (bh (GK:=I7 [Lb n ch]) rfl) ?_;obtain⟨o',s2,a1,a2,a3⟩:=h.app (x:=.GV (I7 [Lb n ch])) (xs:=[Lb n ch]) rfl AB;refine Fy a1 ?_;refine Fy (KD a2 LR rfl rfl) ?_;refine hK _ ⟨some o',?_⟩;rw[show lR (Lb n ch)=[Lb n ch]from Ps h0];exact a3
 .refine Fy (Gt (AUK AA)) ?_;refine cf ?_;refine hK _ ⟨oc,?_⟩;rw[show lR (Lb n ch)=[]from Ng h0,CG];exact h
theorem AAu{e:Gw}(he:e.WF){s:St}{l:LI}(h:CJ s1 l s){eb:Nat}(heb:s.heap eb=some (.box e.GG))(hl:l.length+(Li e).length<=900000000){K:F0}(hK:∀s',CJ s1 (l++SX ch (Li e)) s'->K s'):
  Jc BZ (.Hw .Jh) (.fn 104 [.GN eb 0]) (ay (.Hw .Jh) (.GN sb 0) (.GN s1.next 0)) K s:=by
 have I0:∀{pre:LP} {s s':St},(∃ns,pre=MM ns/\CJ s1 (l++SX ch ns) s)->Gm s->Gm s'->s.next<=s'.next->(∀b,b<s.next->s'.heap b=s.heap b)->∃ns,pre=MM ns/\CJ s1 (l++SX ch ns) s':=λ⟨ns,h1,h2⟩ _ c d e=>⟨ns,h1,h2.step c d e⟩
 have hI0:∃ns,[]=MM ns/\CJ s1 (l++SX ch ns) s:=⟨[],rfl,by rw[show l++SX ch []=l from CG l];exact h⟩
 have hf:Gm s:=h.elim λ_ h=>h.Iv;unfold Jc;refine⟨λ_=>trivial,104,[.GN eb 0],λpre s=>∃ns,pre=MM ns/\CJ s1 (l++SX ch ns) s,λ_ _=>True,MM (Li e),rfl,by kernel_rfl,λpre x post s2 hx hI _=>?_,λE' L hr=>?_,λs2 hI _ _=>?_⟩
 .obtain⟨ns,rfl,h2⟩:=hI
  obtain⟨n,rfl⟩:∃n,x=.Gh n:=by
   exact AgF
  have HM:ns.length<(Li e).length:=by
   exact Ag3
  have hh:=Wu (ch:=ch) (ns:=ns);refine uY MS Ur hc h2 AB λs3 h3=>⟨⟨ns++[n],by simp[MM],?_⟩,trivial⟩
  rw[jo,<- B3,show SX ch [n]=lR (Lb n ch)from CG _];exact h3
 .exact nP (I:=λpre s=>∃ns,pre=MM ns/\CJ s1 (l++SX ch ns) s) he ⟨I0,λpre x post s2 hx hI M4=>by
   intro m w HP a b c;obtain⟨l',h1,h2,h3⟩:=hr pre x post s2 hx hI M4 m w HP a b c;refine⟨l',h1,h2,h3.mono ?_⟩;rintro en w' ⟨m',v,r,s',k1,k2,k3,k4,k5,k6,k7,k8,_⟩;exact⟨m',v,r,s',k1,k2,k3,k4,k5,k6,k7,k8⟩⟩ hf hI0 heb
 .obtain⟨ns,h1,h2⟩:=hI;rw[<- ko h1]at h2;exact hK s2 h2
variable{Q:F1} {w1:PV->PV->PV->PV->PV->PV->F1} {mv iv gv xv lv nv jv:PV}
theorem fI{w2:PV->PV->PV->PV->PV->PV->PV->PV->PV->PV->PV->F1}{tv kv qv:PV}{l:List Gj}(hl:l.length<=100000)(hw:∀t,t∈l->t.cond.WF):∀(n i:Nat),l.length-i=n->i<=l.length->∀{s:St} {c:LI},CJ s1 c s->c.length+((l.drop i).flatMap λt=>Li t.cond).length<=900000000->
  (∀s',CJ s1 (c++SX ch ((l.drop i).flatMap λt=>Li t.cond)) s'->gB (.Hw .Jh) Q w1 w2 mv iv gv (.GN sb 0) xv (.GN s1.next 0) lv nv jv tv kv qv s')->
  Xr (.Hw .Jh) Q w1 w2 (n+1) mv iv gv (.GN sb 0) xv (.GN s1.next 0) lv nv jv tv kv qv (.GV (l.map Aw)) (I l.length) (I i) s
 |0,i,hi,Ml,s,c,h,Pq,hW=>by
  rw[CB AA]at hW;unfold Xr jY;refine Fy AbX ?_;refine cf ?_;refine hW s ?_;rw[show c++SX ch ([].flatMap λt:Gj=>Li t.cond)=c from CG c];exact h
 |n+1,i,hi,Ml,s,c,h,Pq,hW=>by
  have G7:i<l.length:=AA;rw[Bt G7]at hW Pq;obtain⟨t,htd⟩:∃t,t=l[i]:=⟨_,rfl⟩
  rw[<- htd]at hW Pq;have hti:l[i]?=some t:=by rw[htd];exact Bc G7
  have htw:=hw t (Bn hti);simp only[C4,Bd]at Pq hW;have hf:Gm s:=h.elim λ_ h=>h.Iv;have hr9:=t.cond.GX;have hsc:t.GG.all PV.IT=true:=by unfold Aw;rw[Gw.IC];rfl
  obtain⟨s2,JY⟩:∃s2,s2=(s.new (.box [I 0,I 0,.Gh ⟨#[]⟩,I 0,I 0,I 0,I 0,.nil,I 0,.Gh ⟨#[]⟩,.bool false,I 0])).set s.next (.box t.GG):=⟨_,rfl⟩
  have Jm:∀b,b<s.next->s2.heap b=s.heap b:=λb hb=>by rw[JY,Ar AA,Av rfl AA]
  have gJ:s2.next=s.next+1:=by rw[JY];rfl
  have M4:Gm s2:=by rw[JY];exact Hx (Hh hf) AH
  have L0:s2.heap s.next=some (.box t.GG):=by rw[JY];exact A4
  have h2:CJ s1 c s2:=h.step M4 AA Jm;unfold Xr jY;refine Fy AbW ?_;refine ct ?_;refine Fy AcZ ?_;refine Fy (IB t.GX) ?_;refine Fy (Lw rfl) ?_;refine Fy (IZ (Az rfl) t.GX hsc rfl) ?_;rw[<- JY];refine Fy Hj ?_
  refine Fy (M7 L0 (v:=.agg t.cond.GG) (by
   simp only[TF,CZ,t.GX];rw[Ps AA];simp[Aw,hr9])) ?_
  refine Rc (nO M4) λv s3 _ _ hq=>?_;obtain⟨rfl,Ra⟩:=hq;have Tl:Gm s3:=by rw[Ra];exact Hh M4
  refine AAu MS Ur hc htw (h2.step Tl (by rw[Ra];exact Nat.le_succ _) λb hb=>by rw[Ra,Av rfl AA]) (by rw[Ra];exact St.Kr) AA λs4 h4=>?_;have hh:=Wu (ch:=ch) (ns:=Li t.cond)
  refine Fy (Gt (v:=I (i+1:Nat)) (by
   show some (PVI (IntKind.i64.wrap _))=_;rw[HB AA AA];simp)) ?_
  refine fI hl hw n (i+1) AA G7 h4 (by simp only[Bd];omega) λs5 h5=>hW s5 ?_;rw[jo,<- B3];exact h5
theorem cI{l:List GD}(hl:l.length<=100000)(hw:∀t,t∈l->NN.WF t.JB):∀(n i:Nat),l.length-i=n->i<=l.length->∀{s:St} {c:LI},CJ s1 c s->c.length+(GD.MO (l.drop i)).length<=900000000->
  (∀s',CJ s1 (c++SX ch (GD.MO (l.drop i))) s'->o4 (.Hw .Jh) Q w1 mv iv gv (.GN sb 0) xv (.GN s1.next 0) lv nv jv s')->
  Sy (.Hw .Jh) Q w1 (n+1) mv iv gv (.GN sb 0) xv (.GN s1.next 0) lv nv jv (.GV (l.map A8)) (I l.length) (I i) s
 |0,i,hi,Ml,s,c,h,Pq,hW=>by
  rw[CB AA]at hW;unfold Sy jX;refine Fy AbX ?_;refine cf ?_;refine hW s ?_;rw[show c++SX ch (GD.MO [])=c from CG c];exact h
 |n+1,i,hi,Ml,s,c,h,Pq,hW=>by
  have G7:i<l.length:=AA;rw[Bt G7]at hW Pq;obtain⟨t,htd⟩:∃t,t=l[i]:=⟨_,rfl⟩
  rw[<- htd]at hW Pq;have hti:l[i]?=some t:=by rw[htd];exact Bc G7
  have htw:=hw t (Bn hti);simp only[GD.MO,C4,Bd]at Pq hW;have hf:Gm s:=h.elim λ_ h=>h.Iv;have Gl:=t.IC;obtain⟨s2,JY⟩:∃s2,s2=(s.new (.box [.Gh ⟨#[]⟩,.nil,.nil,.nil,.nil,I 0])).set s.next (.box t.GG):=⟨_,rfl⟩
  have Jm:∀b,b<s.next->s2.heap b=s.heap b:=λb hb=>by rw[JY,Ar AA,Av rfl AA]
  have gJ:s2.next=s.next+1:=by rw[JY];rfl
  have M4:Gm s2:=by rw[JY];exact Hx (Hh hf) AH
  have L0:s2.heap s.next=some (.box t.GG):=by rw[JY];exact A4
  have h2:CJ s1 c s2:=h.step M4 AA Jm;unfold Sy jX;refine Fy AbW ?_;refine ct ?_;refine Fy AcZ ?_;refine Fy (IB t.GX) ?_;refine Fy (Lw rfl) ?_;refine Fy (IZ (Az rfl) t.GX Al rfl) ?_;rw[<- JY];refine Fy Hj ?_;refine Fy (GH L0 (v:=.GV (t.JB.map Aw)) Al) ?_;refine Fy (H5 (GK:=t.JB.map Aw) rfl) ?_;rw[Bb];refine⟨_,fI MS Ur hc htw.len htw.all t.JB.length 0 AA AA h2 Aaq λs3 h3=>?_⟩;rw[CA]at h3;unfold gB
  refine Fy (Gt (v:=I (i+1:Nat)) (by
   show some (PVI (IntKind.i64.wrap _))=_;rw[HB AA AA];simp)) ?_
  have hh:=Wu (ch:=ch) (ns:=t.JB.flatMap λt=>Li t.cond);refine cI hl hw n (i+1) AA G7 h3 (by simp only[Bd,GD.MO];omega) λs5 h5=>hW s5 ?_;rw[jo,<- B3];exact h5
end
end
section
open Go.Proofs
structure TU (s:St) (g:Gr) (s':St) (g':Gr):Prop where
 gs:GS s' g'
 gp:g'.gp=g.gp
 H2:∀b,b∈g'.H2->b∈g.H2\/s.next<=b
 Hi:∀b,b∉g.H2->b<s.next->s'.heap b=s.heap b
 Iw:HT s s'
 Iv:Gm s'
def TU.trans{s1 s2 s3:St}{g1 g2 g3:Gr}(h:TU s1 g1 s2 g2)(k:TU s2 g2 s3 g3):TU s1 g1 s3 g3:=
 have hn:=h.Iw.next
 ⟨k.gs,k.gp.trans h.gp,λb hb=>by
  rcases k.H2 b hb with h1|h1
  .exact h.H2 b h1
  .exact .inr AA,λb h1 h2=>by
  rw[k.Hi b (λhm=>by
   rcases h.H2 b hm with h3|h3
   .exact h1 h3
   .omega) AA]
  exact h.Hi b h1 h2,h.Iw.trans k.Iw,k.Iv⟩
def OF.JD{s s':St}{g g':Gr}(h:OF s g s' g'):TU s g s' g':=⟨h.gs,h.gp,λb hb=>h.H2 hb,λb hb hl=>h.at hb hl,h.Iw,h.Iv⟩
def TU.S5{s s':St}{g:Gr}(hf:Gm s)(hg:GS s g)(jm:Gm s')(hG:HT s s')(hk:∀b,b<s.next->s'.heap b=s.heap b):TU s g s' g:=⟨hg.Hi λb hb=>hk b (hg.lt hf hb),rfl,λ_ h=> .inl h,λb _ h=>hk b h,hG,jm⟩
structure Ap (s:St) (g:Gr) (b:Nat) (o:Obj):Prop where
 GY:s.heap b=some o
 H2:b∉g.H2
def Ap.JD{s s':St}{g g':Gr}{b:Nat}{o:Obj}(h:Ap s g b o)(hf:Gm s)(k:TU s g s' g'):Ap s' g' b o:=
 ⟨(k.Hi b h.H2 (Gu hf h.GY)).trans h.GY,λhm=>by
  rcases k.H2 b hm with h1|h1
  .exact h.H2 h1
  .have:=Gu hf h.GY;omega⟩
def Ap.new{s s':St}{g:Gr}{b:Nat}{o:Obj}(hf:Gm s)(hg:GS s g)(hb:s.next<=b)(h:s'.heap b=some o):Ap s' g b o:=⟨h,λhm=>by have:=hg.lt hf hm;omega⟩
def I9.JD{s s':St}{g g':Gr}{v:PV}{l:List Sc}(h:I9 s v l)(hf:Gm s)(hg:GS s g)(k:TU s g s' g'):I9 s' v l:=h.Hi λb hb=>k.Hi b (h.YT hg hb) (h.lt hf hb)
def ADl{gb sp mp:Nat}{ch:List Sc}{st:GD}(hl:TB.WF st.GA){s:St}(hf:Gm s){g:Gr}(hg:GS s g)(Tn:s.heap gb=some (.box [.GN g.gp 0]))(hn:g.os.length+st.GA.length<=100000)(ha:g.IK.length=g.os.length)(hc:I9 s (.GN sp 0) ((sp,mp,[])::ch))(KO:(KF ((sp,mp,([]:ML))::ch)).Nodup)
  {T:Nat}(hT:JG (g.os.map Bx) T)(Mk:T+17*st.GA.length<=900000000):
  SW .Jh BZ 46 [.agg st.GG,.GN sp 0,.GN gb 0] s λr s'=>∃s1 g',(HT s s1/\∀b,b<s.next->s1.heap b=s.heap b)/\Put s1 g sp mp [] ch st.GA s' g':=by
 have Gl:=st.IC;refine(ALs (.Hw .Jh) _ _ _ ?_).sw hf;obtain⟨s1,Kq⟩:∃s1,s1=s.new (.box st.GG):=⟨_,rfl⟩
 have LX:∀b,b<s.next->s1.heap b=s.heap b:=λb hb=>by rw[Kq,Av rfl AA]
 have MS:Gm s1:=by rw[Kq];exact Hh hf
 unfold g46;refine Fy (Mh Al rfl) ?_;rw[<- Kq];refine Fy (GH ((LX _ (Gu hf Tn)).trans Tn) rfl) ?_;refine Fy Hj ?_;refine Fy (GH (v:=.GV (st.GA.map Am)) AZ3 Al) ?_;refine Rc (wE hl MS (hg.Hi λb hb=>LX b (hg.lt hf hb)) hn ha (hc.Hi λb hb=>LX b (hc.lt hf hb)) KO hT Mk) λv s2 _ _ hq=>?_;obtain⟨_,g',hP⟩:=hq;exact L5 (Q:=λr s'=>∃s1 g',(HT s s1/\∀b,b<s.next->s1.heap b=s.heap b)/\Put s1 g sp mp [] ch st.GA s' g') rfl ⟨s1,g',⟨by rw[Kq];exact H9,LX⟩,hP⟩
def yK(f:BA->Int)(cs:LI)(P:LLI)(l:List Ge):LLI:=l.foldl (λP v=>OA P (f v.name).toNat cs) P
def j6{f:BA->Int}{cs:LI}:∀{l:List Ge} {P:LLI} {T:Nat},JG P T->JG (yK f cs P l) (T+l.length*cs.length)
 |[],_,_,h=>h.mono AA
 |v::l,P,T,h=>by
  have:=j6 (f:=f) (cs:=cs) (l:=l) (Mq (v:=(f v.name).toNat) (xs:=cs) h);exact this.mono Aa7
variable{Q:F1} {w1:PV->PV->PV->PV->PV->PV->F1} {w2:PV->PV->PV->PV->PV->PV->PV->PV->PV->PV->PV->F1} {mv iv sv xv uv lv nv jv tv mv2 kv:PV}
def AAU{s:St}(hf:Gm s){g:Gr}(hg:GS s g){gb cb:Nat}(Tn:Ap s g gb (.box [.GN g.gp 0])){oc:ON}{cs:LI}(xz:Ap s g cb (.box [Hk (oc,cs)]))(x9:KQ s (oc,cs)){sp:Nat}{ch:List Sc}(hc:I9 s (.GN sp 0) ch)
  {l:List Ge}(hl:l.length<=100000){i:Nat}{v:Ge}(hv:l[i]?=some v){k:Nat}(hk:Lb v.name ch=k)(fQ:k<g.os.length){T:Nat}(hT:JG (g.os.map Bx) T)(Mk:T+cs.length<=900000000)
  {w3:PV->PV->PV->PV->PV->PV->PV->PV->PV->PV->PV->PV->PV->PV->PV->PV->F1}
  (hW:∀s' g',OF s g s' g'->g'.os.map Bx=OA (g.os.map Bx) k cs->w3 mv iv (.GN gb 0) sv xv (.GN cb 0) uv (.GN sp 0) lv nv jv tv mv2 kv (.GV (l.map Am)) (I l.length) (I (i+1:Nat)) s'):
  ax (.Hw .Jh) Q w1 w2 w3 mv iv (.GN gb 0) sv xv (.GN cb 0) uv (.GN sp 0) lv nv jv tv mv2 kv (.GV (l.map Am)) (I l.length) (I i) s:=by
 have pF:i<l.length:=(Bp.1 hv).1;obtain⟨s2,JY⟩:∃s2,s2=(s.new (.box [.Gh ⟨#[]⟩,I 0,I 0,.nil,I 0])).set s.next (.box v.GG):=⟨_,rfl⟩
 have Jm:∀b,b<s.next->s2.heap b=s.heap b:=λb hb=>by rw[JY,Ar AA,Av rfl AA]
 have M4:Gm s2:=by rw[JY];exact Hx (Hh hf) AH
 have L0:s2.heap s.next=some (.box v.GG):=by rw[JY];exact A4
 have xq:HT s s2:=by rw[JY];exact H9.trans (IV AH)
 have ju:=TU.S5 hf hg M4 xq Jm;have Tm:=ju.gs;have AHH:=Tn.JD hf ju;have AMF:=xz.JD hf ju;obtain⟨p,hp⟩:∃p,g.os[k]?=some p:=⟨_,Bc fQ⟩
 obtain⟨ob,mn,lX⟩:=Tm.RD fQ;have fW:p.2.length<=T:=hT _ (B8.2 ⟨p,Bn hp,rfl⟩);obtain⟨y,s4,s5,g5,a1,a2,a3,a4,a5,a6,a7⟩:=ik M4 Tm hp (x:=Hk (oc,cs)) (xs:=cs) (NY x9) AA mn;unfold ax;refine Fy AbW ?_;refine ct ?_;refine Fy Aba ?_;refine Fy (IB rfl) ?_;refine Fy (Lw rfl) ?_;refine Fy Abw ?_;rw[<- JY];refine Fy Hj ?_;refine Fy (GH L0 (v:=.Gh v.name) rfl) ?_;refine Rc ((ft (E:=.Jh) M4 (hc.JD hf hg ju) v.name).sw (Q:=λr s'=>r=I k/\s'=s2) ⟨by rw[hk],rfl⟩) λx s' _ _ hq=>?_;obtain⟨rfl,hq⟩:=hq;rw[hq];refine Fy Il ?_;refine Fy (Gt (AQG AA)) ?_;refine ct ?_;refine GR (GH AHH.GY rfl) ?_;refine GR Kl ?_;refine GR Hj ?_;refine GR (GH Tm.box rfl) ?_;rw[mn];refine GR (GH AHH.GY rfl) ?_;refine GR Kl ?_;refine GR Hj ?_;refine GR (GH Tm.box rfl) ?_;rw[mn];refine GR (Jt AA (by simpa using fQ)) ?_;refine GR AcY ?_;refine GR (GH AMF.GY rfl) ?_;refine GR a1 ?_;refine GR (Jt AA (by simpa using fQ)) ?_;refine GR a3 ?_;refine⟨?_,?_⟩
 .have To:∀d,p.1=some d->d≠g.gp/\d≠gb/\d≠cb:=λd hd=>by
   have:=Tm.HE p (Bn hp);unfold KQ at this;rw[hd]at this;exact⟨JQ this Tm.box AD,JQ this AHH.GY AD,JQ this AMF.GY AD⟩
  have YK:=Gu M4 Tm.box;have cM:=Gu M4 AHH.GY;have mg:=Gu M4 AMF.GY;simp[Hl,IA,Iy,H2];exact⟨⟨⟨λh=>(To _ h).2.1 rfl,λh=>by omega⟩,λ_=>⟨λh=>(To _ h).1 rfl,λh=>by omega⟩,Ix AF,Ix AF,Ix AF,Ix AF⟩,Ix AF,Ix AF,Ix AF,by kernel_rfl,Ix AF,Ix AF⟩
 .unfold gA
  refine Fy (Gt (v:=I (i+1:Nat)) (by
   show some (PVI (IntKind.i64.wrap _))=_;rw[HB AA AA];simp)) ?_
  exact hW s5 g5 (a4.ZR.MW hf hg xq Jm) a4.on
def m7{gb cb:Nat}{oc:ON}{cs:LI}{sp:Nat}{ch:List Sc}{l:List Ge}(hl:l.length<=100000):∀(n i:Nat),l.length-i=n->i<=l.length->
  ∀{s:St} (hf:Gm s) {g:Gr} (hg:GS s g) (Tn:Ap s g gb (.box [.GN g.gp 0])) (xz:Ap s g cb (.box [Hk (oc,cs)])) (x9:∀c,oc=some c->Ap s g c (.HE cs.length 1)) (h0:oc=none->cs=[]) (hc:I9 s (.GN sp 0) ch) (Zr:∀v,v∈l->0<=Lb v.name ch/\Lb v.name ch<g.os.length) {T:Nat} (hT:JG (g.os.map Bx) T) (Mk:T+n*cs.length<=900000000)
  (hW:∀s' g',OF s g s' g'->g'.os.map Bx=yK (λn=>Lb n ch) cs (g.os.map Bx) (l.drop i)->fy (.Hw .Jh) Q w1 w2 mv iv (.GN gb 0) sv xv (.GN cb 0) uv (.GN sp 0) lv nv jv tv mv2 kv s'),
  Uj (.Hw .Jh) Q w1 w2 (n+1) mv iv (.GN gb 0) sv xv (.GN cb 0) uv (.GN sp 0) lv nv jv tv mv2 kv (.GV (l.map Am)) (I l.length) (I i) s
 |0,i,hi,Ml,s,hf,g,hg,Tn,xz,x9,h0,hc,Zr,T,hT,Mk,hW=>by
  rw[CB AA]at hW;unfold Uj ax;exact Ae2
 |n+1,i,hi,Ml,s,hf,g,hg,Tn,xz,x9,h0,hc,Zr,T,hT,Mk,hW=>by
  have G7:i<l.length:=AA;rw[Bt G7]at hW;obtain⟨h1,h2⟩:=Zr _ (Bl G7);rw[Ce]at Mk;unfold Uj
  refine AAU hf hg Tn xz (by
   unfold KQ;split
   .exact h0 AN
   .exact(x9 _ AN).GY) hc hl (Bc G7) (k:=(Lb (l[i]).name ch).toNat) AA AA hT AA λs1 g1 k1 k2=>?_
  have hr:=k1.JD;refine m7 hl n (i+1) AA G7 k1.Iv k1.gs (by rw[k1.gp];exact Tn.JD hf hr) (xz.JD hf hr) (λc pD=>(x9 c pD).JD hf hr) h0 (hc.JD hf hg hr) (λv hv=>by rw[k1.len];exact Zr v hv) (T:=T+cs.length) (by rw[k2];exact Mq hT) AA λs2 g2 j1 j2=>hW s2 g2 (k1.trans j1) (by rw[j2,k2];rfl)
end
section
open Go.Proofs
abbrev Gr.on(g:Gr):LLI:=g.os.map Bx
structure wu (g g':Gr) (A:List Int) (E:Int->Int->Prop) (T:Nat):Prop where
 IK:g'.IK=g.IK++A
 on:L2 g.on g'.on A.length E
 PX:JG g'.on T
def wu.len{g g':Gr}{A:LI}{E:Int->Int->Prop}{T:Nat}(h:wu g g' A E T):g'.os.length=g.os.length+A.length:=by have:=h.on.len;simpa using this
def wu.trans{g1 g2 g3:Gr}{A B C:LI}{E F G:Int->Int->Prop}{T T':Nat}(h:wu g1 g2 A E T)(k:wu g2 g3 B F T')(hC:C=A++B)(hG:∀(u:Nat) x,0<=x->(G u x<->E u x\/F u x)):wu g1 g3 C G T':=⟨by rw[k.IK,h.IK,hC,B3],h.on.trans k.on (by rw[hC,Bd]) hG,k.PX⟩
mutual
def Item.ZT:∀x:Item,x.YA.length<=x.wt
 | .mk _ _ GB _=>by have:=GD.PW GB;simp only[Item.YA,BF];omega
def Item.PW:∀l:List Item,(Item.Mu l).length<=As l
 |[]=>Bg _
 |x::r=>by have h1:=Item.ZT x;have h2:=Item.PW r;simp only[Item.Mu,As,Bd];omega
def GD.ZT:∀x:GD,x.YA.length<=x.wt
 | .mk _ _ _ GA GQ _=>by have h2:=Item.PW GQ;simp only[GD.YA,BG,Bd,Bb];omega
def GD.PW:∀l:List GD,(GD.Mu l).length<=Ax l
 |[]=>Bg _
 |x::r=>by have h1:=GD.ZT x;have h2:=GD.PW r;simp only[GD.Mu,Ax,Bd];omega
end
def ItC(l:List Item):Prop:=∀{s:St} {g:Gr} {sv:PV} {ch:List Sc} {mv:PV} {Ie:LI} {M:Int->Prop} {g0 T:Nat},Gm s->GS s g->Ap s g g0 (.box [.GN g.gp 0])->I9 s sv ch->(KF ch).Nodup->mv.GK=some (I7 Ie)->Mo Ie M->JG g.on T->T+20020*As l<=800000000->
 Ie.length+As l<=20000->g.os.length+As l<=90000->g.IK.length=g.os.length->(∀n,Lb n ch<g.os.length)->
 SW .Jh BZ 45 [.GN g.gp 0,.GV (l.map Aq),sv,mv,.fn 46 [.GN g0 0]] s λr s'=>r=.tuple []/\∃g',TU s g s' g'/\wu g g' (Item.Mu l) (λu w=>Item.O3 true u w l (λn=>Lb n ch) M g.os.length) (T+20020*As l)
def AD1{f:BA->Int}{cs:LI}{M:Int->Prop}(hM:Mo cs M){l:List Ge}{P:LLI}(hf:∀v,v∈l->0<=f v.name/\f v.name<P.length):L2 P (yK f cs P l) 0 λu x=>∃v,v∈l/\f v.name=u/\M x:=by unfold yK;refine Ny (E:=λ(v:Ge) u x=>f v.name=u/\M x) λv P' hv hl=>Tz (by have:=hf v hv;omega) λu x=>?_;rw[hM x];have:=hf v hv;exact AeA
def XB{f:BA->Int}{k:Nat}{l:List Ge}(hf:∀n,f n<k)(n:BA):S4 f k l n<k+l.length:=by
 unfold S4;split
 .rename_i i h;rcases br h with h|h
  .cases h
  .omega
 .have:=hf n;omega
def Us{f:BA->Int}{k:Nat}{l:List Ge}{v:Ge}(hv:v∈l):(k:Int)<=S4 f k l v.name/\S4 f k l v.name<k+l.length/\(ZP (Le [] k l) v.name:Int)=S4 f k l v.name:=by obtain⟨j,h1,h2,h3⟩:=XJ (M:=[]) (k:=k) hv;unfold S4 ZP;rw[h3];simp;omega
def AIA{s:St}{sv:PV}{ch:List Sc}(hc:I9 s sv ch){s':St}{m:Nat}:H8 (Gf [.Za,.PY] [(some (0,1),.map m),(some (1,1),sv)]) s' (.agg [.map m,sv]) s' [] []:=by cases hc<;>exact bj rfl rfl
def wT{s:St}{sv:PV}{ch:List Sc}(hc:I9 s sv ch){m:Nat}:[PV.map m,sv].all PV.IT=true:=by cases hc<;>rfl
variable{Q:F1} {w1:PV->PV->PV->PV->PV->PV->F1} {mv xv lv nv jv:PV}
def AEz{s:St}(hf:Gm s){g:Gr}(hg:GS s g){g0 gb sb cb:Nat}(vD:Ap s g g0 (.box [.GN g.gp 0]))(Tn:Ap s g gb (.box [.GN g.gp 0])){sv:PV}(Ur:Ap s g sb (.box [sv])){oc:ON}{cs:LI}(xz:Ap s g cb (.box [Hk (oc,cs)]))(x9:∀c,oc=some c->Ap s g c (.HE cs.length 1))(ho0:oc=none->cs=[]){ch:List Sc}(hc:I9 s sv ch)(KO:(KF ch).Nodup)
  {M:Int->Prop}(hM:Mo cs M){l:List GD}(hl:l.length<=100000){i:Nat}{st:GD}(hi:l[i]?=some st)(hw:TB.WF st.GA)(IH:ItC st.GQ){T:Nat}(hT:JG g.on T)(Mk:T+20020*st.wt<=800000000)(hm:cs.length+As st.GQ<=20000)(HM:g.os.length+st.wt<=90000)(ha:g.IK.length=g.os.length)(Up:∀n,Lb n ch<g.os.length)
  {w2:PV->PV->PV->PV->PV->PV->PV->PV->PV->PV->PV->F1}
  (hW:∀s' g',TU s g s' g'->wu g g' st.YA (λu w=>st.ed true u w (λn=>Lb n ch) M g.os.length) (T+20020*st.wt)->w2 mv (.fn 46 [.GN g0 0]) (.GN gb 0) (.GN sb 0) xv (.GN cb 0) lv nv jv (.GV (l.map A8)) (I l.length) (I (i+1:Nat)) s'):
  aw (.Hw .Jh) Q w1 w2 mv (.fn 46 [.GN g0 0]) (.GN gb 0) (.GN sb 0) xv (.GN cb 0) lv nv jv (.GV (l.map A8)) (I l.length) (I i) s:=by
 obtain⟨nm,JB,Jg,GA,GQ,GY⟩:=st;have pF:i<l.length:=(Bp.1 hi).1;simp only[BG]at Mk HM;simp only[GD.GA]at hw;simp only[GD.GQ]at IH hm;have Gl:(GD.mk nm JB Jg GA GQ GY).GG=[.Gh nm,.GV (JB.map Aw),.GV (Jg.map Aw),.GV (GA.map Am),.GV (GQ.map Aq),I GY]:=GD.IC _;generalize I0:GD.mk nm JB Jg GA GQ GY=st at*;obtain⟨N,hN⟩:∃N,N=s.next:=⟨_,rfl⟩
 obtain⟨s1,Kq⟩:∃s1,s1=(s.new (.box [.Gh ⟨#[]⟩,.nil,.nil,.nil,.nil,I 0])).set N (.box st.GG):=⟨_,rfl⟩
 obtain⟨s2,JY⟩:∃s2,s2=s1.new (.map []):=⟨_,rfl⟩
 obtain⟨s3,Ra⟩:∃s3,s3=s2.new (.box [.map (N+1),sv]):=⟨_,rfl⟩
 have fT:s1.next=N+1:=by rw[Kq,hN];rfl
 have gJ:s2.next=N+2:=by rw[JY];show s1.next+1=_;omega
 have hn3:s3.next=N+3:=by rw[Ra];show s2.next+1=_;omega
 have MS:Gm s1:=by rw[Kq,hN];exact Hx (Hh hf) AH
 have M4:Gm s2:=by rw[JY];exact Hh MS
 have Tl:Gm s3:=by rw[Ra];exact Hh M4
 have LX:∀b,b<N->s1.heap b=s.heap b:=λb hb=>by rw[Kq,Ar AA,Av rfl AA]
 have Jm:∀b,b<N+1->s2.heap b=s1.heap b:=λb hb=>by rw[JY,Av rfl AA]
 have gI:∀b,b<N+2->s3.heap b=s2.heap b:=λb hb=>by rw[Ra,Av rfl AA]
 have hk:∀b,b<s.next->s3.heap b=s.heap b:=λb hb=>by rw[gI b AA,Jm b AA,LX b AA]
 have hG3:HT s s3:=by rw[Ra,JY,Kq,hN];exact((H9.trans (IV AH)).trans H9).trans H9
 have hu1:s1.heap N=some (.box st.GG):=by rw[Kq];exact A4
 have hu3:s3.heap N=some (.box st.GG):=by rw[gI _ AA,Jm _ AA];exact hu1
 have fS:s3.heap (N+1)=some (.map []):=by rw[gI _ AA,JY];exact Az fT
 have rX:s3.heap (N+2)=some (.box [.map (N+1),sv]):=by rw[Ra];exact Az gJ
 have eu:=TU.S5 hf hg Tl hG3 hk;have hc3:=hc.JD hf hg eu;have AUm:I9 s3 (.GN (N+2) 0) ((N+2,N+1,[])::ch):=.cons _ _ _ _ _ rX fS rfl hc3;have hch:∀b,b∈KF ch->b<N:=λb hb=>by rw[hN];exact hc.lt hf hb
 have ARH:(KF ((N+2,N+1,([]:ML))::ch)).Nodup:=by
  simp only[KF,CP,Bm,not_or];exact⟨⟨AA,λh=>by have:=hch _ h;omega⟩,λh=>by have:=hch _ h;omega,KO⟩
 unfold aw;refine Fy AbW ?_;refine ct ?_;refine Fy (Gk AA (GG:=st.GG) (by simp[hi]) st.GX) ?_;refine Fy (IB st.GX) ?_;refine Fy (Lw hN.symm) ?_;refine Fy (IZ (Az hN.symm) st.GX Al rfl) ?_;rw[<- Kq];refine Fy (yY fT) ?_;rw[<- JY];refine Fy (GH (by rw[Jm _ Aa4,LX _ Aa4];exact Ur.GY) rfl) ?_;refine Fy (AIA hc) ?_;refine Fy (Mh (wT hc) gJ) ?_;rw[<- Ra];refine Fy Zb ?_;refine Fy (Hm hu3 st.GX) ?_;refine pk (.inl ⟨46,[.GN g0 0],[.agg st.GG,.GN (N+2) 0],Tryz.f46,rfl,Tryz.func46,by kernel_rfl,by kernel_rfl,ADl (st:=st) (by rw[<- I0];exact hw) Tl eu.gs (vD.JD hf eu).GY AaU ha AUm ARH hT AaU⟩) λv s5 hG5 hf5 hq=>?_;obtain⟨s4,g5,⟨hG4,me⟩,P5⟩:=hq;have pG:st.GA=GA:=by rw[<- I0];rfl
 rw[pG]at P5;have hG4n:=hG4.next;have mr:TU s g s5 g5:=⟨P5.gs,P5.gp,λb hb=>(P5.H2 b hb).imp id λh=>by omega,λb h1 h2=>by rw[P5.Hi b h1 AA AA,me b AA,hk b h2],hG3.trans hG5,hf5⟩
 have hu5:s5.heap N=some (.box st.GG):=by rw[P5.Hi N (λh=>by have:=hg.lt hf h;omega) AA AA,me N AA];exact hu3
 have hc5:=P5.chain;obtain⟨ch',AHF⟩:∃ch',ch'=(N+2,N+1,Le [] g.os.length GA)::ch:=⟨_,rfl⟩
 rw[<- AHF]at hc5;have AHQ:∀n,Lb n ch'=S4 (λn=>Lb n ch) g.os.length GA n:=λn=>by rw[AHF];rfl
 have hU5:Ap s5 g5 N (.box st.GG):=⟨hu5,λhm=>by
  rcases P5.H2 _ hm with h1|h1
  .have:=hg.lt hf h1;omega
  .omega⟩
 have TI:∀v,v∈GA->0<=Lb v.name ch'/\Lb v.name ch'<g5.os.length:=λv hv=>by
  rw[AHQ,P5.len];have:=Us (f:=λn=>Lb n ch) (k:=g.os.length) hv;omega
 have AQh:∀v,v∈GA->v.Ga.length<=17:=λv hv=>(hw.all v hv).Ga
 have hT0:JG (g.on++GA.map λ_=>[]) T:=λx hx=>by
  rcases Bf.1 hx with h|h
  .exact hT x h
  .obtain⟨_,_,rfl⟩:=B8.1 h;simp
 have hT5:JG g5.on (T+17*GA.length):=by
  show JG (g5.os.map Bx) _;rw[P5.on];exact Wi AQh hT0
 have YL:GA.length*cs.length<=GA.length*20000:=Nat.mul_le_mul_left _ AA;refine Fy Hj ?_;refine Fy (GH hu5 (v:=.GV (GA.map Am)) Al) ?_;refine Fy (H5 (GK:=GA.map Am) rfl) ?_;rw[Bb];have AU9:=mr.gp;refine⟨_,m7 hw.len GA.length 0 AA AA hf5 P5.gs (by rw[AU9];exact Tn.JD hf mr) (xz.JD hf mr) (λc pD=>(x9 c pD).JD hf mr) ho0 hc5 TI hT5 AA λs6 g6 k1 k2=>?_⟩;rw[CA]at k2;have hf6:=k1.Iv;have AMr:=k1.JD;have yD:=mr.trans AMr
 have hT6:JG g6.on (T+17*GA.length+GA.length*cs.length):=by
  show JG (g6.os.map Bx) _;rw[k2];exact j6 hT5
 have hc6:=hc5.JD hf5 P5.gs AMr;have x7:g6.os.length=g.os.length+GA.length:=by rw[k1.len,P5.len]
 have AUl:=xz.JD hf yD;have AVA:st.GQ=GQ:=by rw[<- I0];rfl
 unfold fy;refine Fy (GH (Tn.JD hf yD).GY rfl) ?_;refine Fy Hj ?_;refine Fy (GH (hU5.JD hf5 AMr).GY (v:=.GV (GQ.map Aq)) Al) ?_;refine Fy (GH AUl.GY rfl) ?_
 have js:KQ s6 (oc,cs):=by
  unfold KQ;split
  .exact ho0 AN
  .exact((x9 _ AN).JD hf yD).GY
 rw[<- yD.gp];refine Rc (IH (s:=s6) (g:=g6) (ch:=ch') (Ie:=cs) (M:=M) (T:=T+20000*GA.length+17*GA.length) hf6 k1.gs (by rw[yD.gp];exact vD.JD hf yD) hc6 (by rw[AHF];exact ARH) (NY js) hM (hT6.mono AA) AA hm AA (by rw[k1.IK,P5.IK,x7];simp[ha]) λn=>by rw[AHQ,x7];exact XB Up n) λv s7 _ _ hq=>?_;obtain⟨_,g7,hr7,A7⟩:=hq;have AVq:=yD.trans hr7
 refine Fy (Gt (v:=I (i+1:Nat)) (by
  show some (PVI (IntKind.i64.wrap _))=_;rw[HB AA AA];simp)) ?_
 rw[<- I0]at hW;refine hW s7 g7 AVq ⟨?_,?_,A7.PX.mono (by simp only[BG];omega)⟩
 .rw[A7.IK,k1.IK,P5.IK];simp[GD.YA]
 .have m1:L2 g.on g5.on GA.length λu x=>∃v,v∈GA/\∃c,c∈v.Ga/\u=ZP (Le [] g.os.length GA) v.name/\Lb c.name ch'=x:=by
   show L2 _ (g5.os.map Bx) _ _;rw[P5.on,<- AHF];refine(bZ (E:=λ_ _=>False) λ_ _ _ h=>h).trans (m9 λv hv=>?_) rfl λu x _=>by simp
   have:=Us (f:=λn=>Lb n ch) (k:=g.os.length) hv;simp;omega
  have m2:L2 g5.on g6.on 0 λu x=>∃v,v∈GA/\Lb v.name ch'=u/\M x:=by
   show L2 _ (g6.os.map Bx) _ _;rw[k2];exact AD1 hM λv hv=>by simpa using TI v hv
  have m3:=A7.on;rw[x7]at m3;refine(m1.trans m2 rfl (G:=λu w=>∃v,v∈GA/\S4 (λn=>Lb n ch) g.os.length GA v.name=u/\((true=true/\M w)\/∃c,c∈v.Ga/\S4 (λn=>Lb n ch) g.os.length GA c.name=w)) λu x _=>?_).trans m3 (by simp[GD.YA]) λu x _=>?_
  .simp only[AHQ];constructor
   .rintro⟨v,h1,h2,h3|⟨c,h3,h4⟩⟩
    .exact .inr ⟨v,h1,h2,h3.2⟩
    .exact .inl ⟨v,h1,c,h3,by have:=(Us (f:=λn=>Lb n ch) (k:=g.os.length) h1).2.2;omega,h4⟩
   .rintro(⟨v,h1,c,h2,h3,h4⟩|⟨v,h1,h2,h3⟩)
    .exact⟨v,h1,by have:=(Us (f:=λn=>Lb n ch) (k:=g.os.length) h1).2.2;omega,.inr ⟨c,h2,h4⟩⟩
    .exact⟨v,h1,h2,.inl ⟨trivial,h3⟩⟩
  .have he:(λn=>Lb n ch')=S4 (λn=>Lb n ch) g.os.length GA:=funext AHQ;rw[he];simp only[GD.ed]
end
section
open Go.Proofs
def xi:∀l:List Gj,(l.flatMap λt=>Li t.cond).length<=Gj.HS l
 |[]=>DO _
 |t::l=>by
  have h1:=xi l;have h2:=Ze t.cond;simp only[C4,Bd,Gj.HS,Gj.wt];omega
def jA:∀l:List GD,(GD.MO l).length<=Ax l/\∀st,st∈l->(GD.MO l).length+As st.GQ<=Ax l
 |[]=>⟨DO _,λst h=>by cases h⟩
 | .mk nm JB Jg GA GQ a::l=>by
  obtain⟨h1,h2⟩:=jA l;have h3:=xi JB;have e:GD.MO (.mk nm JB Jg GA GQ a::l)=(JB.flatMap λt=>Li t.cond)++GD.MO l:=rfl;rw[e,Bd];simp only[Ax,BG];refine⟨AA,λst h=>?_⟩;rcases Bm.1 h with rfl|h
  .simp only[GD.GQ];omega
  .have:=h2 st h;omega
def ADz{ch:List Sc}{ns:List BA}{x:Int}:x∈SX ch ns<->0<=x/\∃m,m∈ns/\Lb m ch=x:=by
 unfold SX;rw[List.mem_flatMap];constructor
 .rintro⟨m,h1,h2⟩;rw[gO]at h2;exact⟨h2.1,m,h1,h2.2⟩
 .rintro⟨h0,m,h1,h2⟩;exact⟨m,h1,gO.2 ⟨h0,h2⟩⟩
section
variable{Q:F1} {w1:PV->PV->PV->PV->PV->PV->F1} {mv xv lv nv jv:PV}
def y6{g0 gb sb cb:Nat}{sv:PV}{oc:ON}{cs:LI}(ho0:oc=none->cs=[]){ch:List Sc}(KO:(KF ch).Nodup){M:Int->Prop}(hM:Mo cs M){l:List GD}(hl:l.length<=100000)(hw:∀st,st∈l->TB.WF st.GA)(IH:∀st,st∈l->ItC st.GQ)(hm:∀st,st∈l->cs.length+As st.GQ<=20000):∀(n i:Nat),l.length-i=n->i<=l.length->
  ∀{s:St} (hf:Gm s) {g:Gr} (hg:GS s g) (vD:Ap s g g0 (.box [.GN g.gp 0])) (Tn:Ap s g gb (.box [.GN g.gp 0])) (Ur:Ap s g sb (.box [sv])) (xz:Ap s g cb (.box [Hk (oc,cs)])) (x9:∀c,oc=some c->Ap s g c (.HE cs.length 1)) (hc:I9 s sv ch)
   {T:Nat} (hT:JG g.on T) (Mk:T+20020*Ax (l.drop i)<=800000000) (HM:g.os.length+Ax (l.drop i)<=90000) (ha:g.IK.length=g.os.length) (Up:∀n,Lb n ch<g.os.length)
   (hW:∀s' g',TU s g s' g'->wu g g' (GD.Mu (l.drop i)) (λu w=>GD.O3 true u w (l.drop i) (λn=>Lb n ch) M g.os.length) (T+20020*Ax (l.drop i))->o5 (.Hw .Jh) Q w1 mv (.fn 46 [.GN g0 0]) (.GN gb 0) (.GN sb 0) xv lv nv jv s'),
  QO (.Hw .Jh) Q w1 (n+1) mv (.fn 46 [.GN g0 0]) (.GN gb 0) (.GN sb 0) xv (.GN cb 0) lv nv jv (.GV (l.map A8)) (I l.length) (I i) s
 |0,i,hi,Ml,s,hf,g,hg,vD,Tn,Ur,xz,x9,hc,T,hT,Mk,HM,ha,Up,hW=>by
  rw[CB AA]at hW;unfold QO aw;refine Fy AbX ?_;refine cf ?_;exact hW s g (.S5 hf hg hf (.refl s) λ_ _=>rfl) ⟨by simp[GD.Mu],.refl _ λu x _ h=>by simp[GD.O3]at h,by simpa[Ax]using hT⟩
 |n+1,i,hi,Ml,s,hf,g,hg,vD,Tn,Ur,xz,x9,hc,T,hT,Mk,HM,ha,Up,hW=>by
  have G7:i<l.length:=AA;rw[Bt G7]at hW Mk HM;obtain⟨st,I0⟩:∃st,st=l[i]:=⟨_,rfl⟩
  rw[<- I0]at hW Mk HM;have hsi:l[i]?=some st:=by rw[I0];exact Bc G7
  have hsm:=Bn hsi;simp only[Ax]at Mk HM hW;have hlw:=GD.ZT st;unfold QO;refine AEz hf hg vD Tn Ur xz x9 ho0 hc KO hM hl hsi (hw st hsm) (IH st hsm) hT AA (hm st hsm) AA ha Up λs1 g1 h1 a1=>?_;have YK:=a1.len;refine y6 ho0 KO hM hl hw IH hm n (i+1) AA G7 h1.Iv h1.gs (by rw[h1.gp];exact vD.JD hf h1) (by rw[h1.gp];exact Tn.JD hf h1) (Ur.JD hf h1) (xz.JD hf h1) (λc pD=>(x9 c pD).JD hf h1) (hc.JD hf hg h1) (T:=T+20020*st.wt) a1.PX AA AA AbI (λn=>by have:=Up n;omega) λs2 g2 h2 a2=>hW s2 g2 (h1.trans h2) ?_;have a3:=a1.trans (C:=GD.Mu (st::l.drop (i+1))) (G:=λu w=>GD.O3 true u w (st::l.drop (i+1)) (λn=>Lb n ch) M g.os.length) a2 (by simp only[GD.Mu]) λu x _=>by rw[YK];simp only[GD.O3]
  exact⟨a3.IK,a3.on,a3.PX.mono AA⟩
end
def GD.WF.ASn{st:GD}(h:st.WF):NN.WF st.JB:=by cases h with|mk _ _ _ _ _ _ h1 h2 h3 h4 h5=>exact h1
def GD.WF.AR4{st:GD}(h:st.WF):TB.WF st.GA:=by cases h with|mk _ _ _ _ _ _ h1 h2 h3 h4 h5=>exact h3
def GD.WF.AHm{st:GD}(h:st.WF):st.GQ.length<=100000/\∀i,i∈st.GQ->i.WF:=by cases h with|mk _ _ _ _ _ _ h1 h2 h3 h4 h5=>exact⟨h4,h5⟩
def rL{n:Nat}(h:0<n):SP BZ .gtr 3 (I n) (I 0)=some (.bool true):=by show some (PV.bool (decide ((n:Int)>0)))=_;simp[h]
def wu.refl{g:Gr}{E:Int->Int->Prop}{T:Nat}(hT:JG g.on T)(h:∀(u:Nat) x,0<=x->¬E u x):wu g g [] E T:=⟨AD,.refl _ h,hT⟩
section
variable{Q:F1}
def tS{g0 gb sb:Nat}{sv mv:PV}{Ie:LI}(lV:mv.GK=some (I7 Ie)){ch:List Sc}(KO:(KF ch).Nodup){M:Int->Prop}(hM:Mo Ie M){l:List Item}(hl:l.length<=100000)(hw:∀x,x∈l->x.WF)(IH:∀x,x∈l->∀st,st∈x.GB->ItC st.GQ)(hm:Ie.length+As l<=20000):∀(n i:Nat),l.length-i=n->i<=l.length->
  ∀{s:St} (hf:Gm s) {g:Gr} (hg:GS s g) (vD:Ap s g g0 (.box [.GN g.gp 0])) (Tn:Ap s g gb (.box [.GN g.gp 0])) (Ur:Ap s g sb (.box [sv])) (hc:I9 s sv ch)
   {T:Nat} (hT:JG g.on T) (Mk:T+20020*As (l.drop i)<=800000000) (HM:g.os.length+As (l.drop i)<=90000) (ha:g.IK.length=g.os.length) (Up:∀n,Lb n ch<g.os.length)
   (hW:∀s' g',TU s g s' g'->wu g g' (Item.Mu (l.drop i)) (λu w=>Item.O3 true u w (l.drop i) (λn=>Lb n ch) M g.os.length) (T+20020*As (l.drop i))->Q (.tuple []) s'),
  Md (.Hw .Jh) Q (n+1) mv (.fn 46 [.GN g0 0]) (.GN gb 0) (.GN sb 0) (.GV (l.map Aq)) (I l.length) (I i) s
 |0,i,hi,Ml,s,hf,g,hg,vD,Tn,Ur,hc,T,hT,Mk,HM,ha,Up,hW=>by
  rw[CB AA]at hW;unfold Md u7;refine Fy AbX ?_;refine cf ?_;exact L5 rfl (hW s g (.S5 hf hg hf (.refl s) λ_ _=>rfl) (wu.refl (by simpa[As]using hT) λu x _ h=>by simp[Item.O3]at h))
 |n+1,i,hi,Ml,s,hf,g,hg,vD,Tn,Ur,hc,T,hT,Mk,HM,ha,Up,hW=>by
  have G7:i<l.length:=AA;have dq:=Item.HY (l.take i) (l.drop i);rw[CX]at dq;rw[Bt G7]at hW Mk HM dq;obtain⟨x,hxd⟩:∃x,x=l[i]:=⟨_,rfl⟩
  rw[<- hxd]at hW Mk HM dq;have lZ:l[i]?=some x:=by rw[hxd];exact Bc G7
  have hxm:=Bn lZ;simp only[As]at Mk HM dq hW;have ADg:=Item.ZT x;have IHx:=IH x hxm;have lF:=hw x hxm;obtain⟨GL,e,GB,GY⟩:=x;have hwe:e.WF/\GL.length<=100000/\GB.length<=100000/\∀st,st∈GB->st.WF:=by cases lF with|mk _ _ _ _ h1 h2 h3 h4=>exact⟨h2,h1,h3,h4⟩
  obtain⟨hwe,Pr,La,vP⟩:=hwe;simp only[Item.GB]at IHx;simp only[BF]at Mk HM dq ADg;have hxr:(Item.mk GL e GB GY).GG=[.GV (GL.map GC)]++e.GG++[.GV (GB.map A8),I GY]:=Item.IC _;have h0:(Item.mk GL e GB GY).GG[0]?=some (.GV (GL.map GC)):=by rw[hxr];rfl
  have z9:(Item.mk GL e GB GY).GG[10]?=some (.GV (GB.map A8)):=by rw[hxr,Gw.IC];rfl
  have hxE:(Item.mk GL e GB GY).e=e:=rfl;have hxN:(Item.mk GL e GB GY).GL=GL:=rfl;generalize hx:Item.mk GL e GB GY=x at*;have hrd:=Ze e;obtain⟨hcw,AMG⟩:=jA GB;obtain⟨s1,Kq⟩:∃s1,s1=(s.new (.box [.nil,(I 0),(I 0),(.Gh ⟨#[]⟩),(I 0),(I 0),(I 0),(I 0),.nil,(I 0),.nil,(I 0)])).set s.next (.box x.GG):=⟨_,rfl⟩
  have LX:∀b,b<s.next->s1.heap b=s.heap b:=λb hb=>by rw[Kq,Ar AA,Av rfl AA]
  have fT:s1.next=s.next+1:=by rw[Kq];rfl
  have MS:Gm s1:=by rw[Kq];exact Hx (Hh hf) AH
  have hG1:HT s s1:=by rw[Kq];exact H9.trans (IV AH)
  have hi1:s1.heap s.next=some (.box x.GG):=by rw[Kq];exact A4
  have VO:=TU.S5 hf hg MS hG1 LX;have ZI:=hc.JD hf hg VO;have AVv:=(Ur.JD hf VO).GY;obtain⟨s2,JY⟩:∃s2,s2=s1.new (.box [.nil]):=⟨_,rfl⟩
  have M4:Gm s2:=by rw[JY];exact Hh MS
  have Jm:∀b,b<s1.next->s2.heap b=s1.heap b:=λb hb=>by rw[JY,Av rfl AA]
  have hJ2:CJ s1 [] s2:=⟨none,Jm,by rw[JY];exact H9,M4,by rw[JY];exact St.Kr,rfl,λc h=>by cases h⟩
  unfold Md u7;refine Fy AbW ?_;refine ct ?_;refine Fy Acj ?_;refine Fy (IB x.GX) ?_;refine Fy (Lw rfl) ?_;refine Fy AcR ?_;rw[<- Kq];refine Fy (Lw rfl) ?_;rw[<- JY];refine Fy Hj ?_;refine Fy (GH ((Jm _ AA).trans hi1) z9) ?_;refine Fy AcN ?_;rw[Bb];refine⟨_,cI MS AVv ZI La (λt ht=>(vP t ht).ASn) GB.length 0 AA AA hJ2 (by rw[CA];simp;omega) λs3 h3=>?_⟩;rw[CA,CC]at h3;obtain⟨oc3,h3⟩:=h3;have hhl:=Wu (ch:=ch) (ns:=GD.MO GB);obtain⟨cs,JK⟩:∃cs,cs=SX ch (GD.MO GB)++Ie:=⟨_,rfl⟩
  have Pq:cs.length<=(GD.MO GB).length+Ie.length:=by rw[JK,Bd];omega
  obtain⟨o',s4',a1,a2,a3⟩:=h3.app lV AA;rw[<- JK]at a1 a3;obtain⟨s4,cO⟩:∃s4,s4=s4'.set s1.next (.box [Hk (some o',cs)]):=⟨_,rfl⟩
  rw[<- cO]at a3;unfold o4;refine Fy (GH h3.box rfl) ?_;refine Fy a1 ?_;refine Fy (KD a2 LR rfl rfl) ?_;rw[show([Hk (oc3,SX ch (GD.MO GB))].set 0 (Hk (some o',cs)))=[Hk (some o',cs)]from rfl,<- cO];have me:∀b,b<s.next->s4.heap b=s.heap b:=λb hb=>(a3.old b AA).trans (LX b hb);have hi4:s4.heap s.next=some (.box x.GG):=(a3.old _ AA).trans hi1;have hr4:=TU.S5 hf hg a3.Iv (hG1.trans a3.Iw) me;have hf4:=a3.Iv
  have hM':Mo cs λc=>M c\/∃m,m∈GD.MO GB/\Lb m ch=c:=λy=>by
   rw[JK,Bf,ADz,hM y];constructor
   .rintro(⟨p,q⟩|⟨p,q⟩)
    .exact⟨p,.inr q⟩
    .exact⟨p,.inl q⟩
   .rintro⟨p,q|q⟩
    .exact .inr ⟨p,q⟩
    .exact .inl ⟨p,q⟩
  have hX4:Ap s4 g s.next (.box x.GG):=.new hf hg (Bg _) hi4;refine Fy Hj ?_;refine Fy (GH hi4 z9) ?_;refine Fy AcN ?_;rw[Bb];refine⟨_,y6 (oc:=some o') (cs:=cs) AcB KO hM' La (λt ht=>(vP t ht).AR4) IHx (λt ht=>by have:=AMG t ht;omega) GB.length 0 AA AA hf4 hr4.gs (vD.JD hf hr4) (Tn.JD hf hr4) (Ur.JD hf hr4) (.new hf hg AA a3.box) (λc pD=> .new hf hg (by have:=a3.new c pD;omega) (by cases pD;exact a3.HE)) (hc.JD hf hg hr4) hT Aaq Aaq ha Up λs5 g5 h5 A5=>?_⟩;rw[CA]at A5;have mr:=hr4.trans h5;have hf5:=h5.Iv;have hX5:=hX4.JD hf4 h5;have hl5:=A5.len;have hslw:=GD.PW GB
  have key:∀s6 g6,TU s g s6 g6->wu g g6 x.YA (λu w=>x.ed true u w (λn=>Lb n ch) M g.os.length) (T+20020*x.wt)->dW (.Hw .Jh) Q (Md (.Hw .Jh) Q (n+1)) mv (.fn 46 [.GN g0 0]) (.GN gb 0) (.GN sb 0) (.GV (l.map Aq)) (I l.length) (I i) s6:=λs6 g6 h6 A6=>by
   have x7:=A6.len;have vR:x.wt=GL.length+e.wt+Ax GB:=by rw[<- hx];simp only[BF]
   unfold dW
   refine Fy (Gt (v:=I (i+1:Nat)) (by
    show some (PVI (IntKind.i64.wrap _))=_;rw[HB AA AA];simp)) ?_
   refine tS lV KO hM hl hw IH hm n (i+1) AA G7 h6.Iv h6.gs (by rw[h6.gp];exact vD.JD hf h6) (by rw[h6.gp];exact Tn.JD hf h6) (Ur.JD hf h6) (hc.JD hf hg h6) (T:=T+20020*x.wt) A6.PX AA AA (by rw[A6.IK,x7];simp[ha]) (λn=>by have:=Up n;omega) λs7 g7 h7 A7=>hW s7 g7 (h6.trans h7) ?_;have a3:=A6.trans (C:=Item.Mu (x::l.drop (i+1))) (G:=λu w=>Item.O3 true u w (x::l.drop (i+1)) (λn=>Lb n ch) M g.os.length) A7 (by simp only[Item.Mu]) λu x _=>by rw[x7];simp only[Item.O3]
   exact⟨a3.IK,a3.on,a3.PX.mono AA⟩
  have x8:x.YA=GD.Mu GB:=by rw[<- hx];simp only[Item.YA]
  unfold o5;refine Fy Hj ?_;refine Fy (GH hX5.GY z9) ?_;refine Fy AcN ?_;rw[Bb];by_cases I0:GB=[]
  .subst I0;refine Fy (Gt (v:=.bool false) rfl) ?_;refine cf ?_;refine Fy Hj ?_;refine Fy (GH hX5.GY h0) ?_;refine Fy (H5 (GK:=GL.map GC) rfl) ?_;rw[Bb];have hB5:mA s5 g5 gb sb s.next sv x:=⟨by rw[h5.gp];exact(Tn.JD hf mr).GY,(Ur.JD hf mr).GY,hX5.GY⟩
   have YL:GL.length*((Li x.e).length+Ie.length)<=GL.length*20000:=Nat.mul_le_mul_left _ Aak;rw[<- hxN]at YL Pr⊢;refine⟨_,yU (by rw[hxE];exact hwe) lV Pr x.GL.length 0 AA AA hf5 h5.gs hB5 (hc.JD hf hg mr) A5.PX (by rw[hxN]at YL⊢;omega) (λn=>by have:=Up n;omega) λs6 g6 k1 k2=>key s6 g6 (mr.trans k1.JD) ⟨?_,?_,?_⟩⟩
   .rw[k1.IK,A5.IK,x8]
   .rw[CA]at k2
    have m2:L2 g5.on g6.on 0 λu w=>∃n,n∈x.GL/\Lb n ch=u/\(M w\/∃m,m∈Li x.e/\Lb m ch=w):=by
     show L2 _ (g6.os.map Bx) _ _;rw[k2];exact Ny (E:=λn u w=>Lb n ch=u/\(M w\/∃m,m∈Li x.e/\Lb m ch=w)) λn P' _ hl'=>AHv hM (by rw[hl',Bb];have:=Up n;omega)
    refine A5.on.trans m2 (by rw[x8];rfl) λu w _=>?_;rw[hxN,hxE,<- hx];simp only[Item.ed,GD.O3,or_false,false_or,true_and]
   .show JG (g6.os.map Bx) _;rw[k2,CA];refine(eg A5.PX).mono ?_;have vR:x.wt=GL.length+e.wt+Ax []:=by rw[<- hx];simp only[BF]
    rw[hxN]at YL⊢;omega
  .refine Fy (Gt (rL (List.length_pos_iff.2 I0))) ?_;refine ct ?_;refine key s5 g5 mr ⟨?_,?_,A5.PX.mono (by rw[<- hx];simp only[BF];omega)⟩
   .rw[A5.IK,x8]
   .rw[x8];refine A5.on.iff λu w _=>?_;rw[<- hx];simp only[Item.ed,I0,false_and,false_or]
end
def ADp{l:List Item}(hl:l.length<=100000)(hw:∀x,x∈l->x.WF)(IH:∀x,x∈l->∀st,st∈x.GB->ItC st.GQ):ItC l:=by
 intro s g sv ch mv Ie M g0 T hf hg vD hc KO lV hM hT Mk hm HM ha Up;have hsv:sv.IT=true:=by cases hc<;>rfl
 refine(ALr (.Hw .Jh) _ _ _ _ _ ?_).sw hf;have M4:Gm ((s.new (.box [.GN g.gp 0])).new (.box [sv])):=Hh (Hh hf)
 have hk:∀b,b<s.next->((s.new (.box [.GN g.gp 0])).new (.box [sv])).heap b=s.heap b:=λb hb=>by
  rw[Av (n:=s.next+1) rfl AA,Av rfl AA]
 have hr:=TU.S5 hf hg M4 (H9.trans H9) hk;unfold g45;refine Fy (pd rfl rfl) ?_;refine Fy (pd hsv rfl) ?_;refine Fy Ab4 ?_;rw[Bb];refine⟨_,tS lV KO hM hl hw IH hm l.length 0 AA AA M4 hr.gs (vD.JD hf hr) (.new hf hg (b:=s.next) (Bg _) ?_) (.new hf hg (b:=s.next+1) AA St.Kr) (hc.JD hf hg hr) hT (by rw[CA];exact Mk) (by rw[CA];exact HM) ha Up λs' g' h1 h2=>⟨rfl,g',hr.trans h1,by rw[CA]at h2;exact h2⟩⟩;rw[Av (n:=s.next+1) rfl AA];exact St.Kr
def wm:∀(c:Nat) (l:List Item),As l<=c->l.length<=100000->(∀x,x∈l->x.WF)->ItC l:=by
 intro c
 induction c using Nat.strongRecOn with
 |ind c ih=>
  intro l hc hl hw;refine ADp hl hw λx hx st I0=>?_;obtain⟨GL,e,GB,GY⟩:=x;have vP:st.WF:=by cases hw _ hx with|mk _ _ _ _ h1 h2 h3 h4=>exact h4 st I0
  have h1:Ax GB<=As l:=by
   obtain⟨a,b,rfl⟩:=List.append_of_mem hx;rw[Item.HY];simp only[As,BF];omega
  have h2:st.wt<=Ax GB:=by
   obtain⟨a,b,qS⟩:=List.append_of_mem I0;simp only[Item.GB]at qS;rw[qS,GD.HY];simp only[Ax];omega
  have h3:As st.GQ<st.wt:=by cases st;simp only[BG,GD.GQ];omega
  have:=@ih (As st.GQ) (by omega) st.GQ (Bg _) vP.AHm.1 vP.AHm.2;exact@this
end
section
open Go.Proofs
def GO.ed(n:GO)(b:Bool)(f:BA->Int)(k:Nat)(u w:Int):Prop:=(∃v,v∈n.GA/\f v.name=u/\∃c,c∈v.Ga/\f c.name=w)\/Item.O3 b u w n.GQ f (λ_=>False) k
def GO.fP(n:GO):BA->Int:=S4 (λ_=> -1) 0 (n.Hz++n.GA)
structure ABo (s:St) (n:GO) (r:PV) (s':St) (g:Gr):Prop where
 res:r=.GN g.gp 0
 gs:GS s' g
 IK:g.IK=(n.Hz++n.GA).map Ge.GY++Item.Mu n.GQ
 on:L2 [] g.on (n.Hz.length+n.GA.length+(Item.Mu n.GQ).length) (n.ed true n.fP (n.Hz.length+n.GA.length))
 PX:JG g.on 410000000
 Hi:∀b,b<s.next->s'.heap b=s.heap b
 new:∀b,b∈g.H2->s.next<=b
def AFD{n:GO}(hn:n.WF)(hd:∀v,v∈n.JS->∀u,u∈n.Hz++n.GA->u.name≠v.name)(Pv:n.wt<=20000){s:St}(hf:Gm s):
  SW .Jh BZ 28 [.agg n.GG] s λr s'=>∃g,ABo s n r s' g:=by
 unfold GO.wt at Pv;refine(ALm (.Hw .Jh) _ ?_).sw hf;have Gl:n.GG=[.Gh n.name,.GV (n.JS.map Am),.GV (n.Hz.map Am),.GV (n.GA.map Am),.GV (n.GQ.map Aq),I n.GY]:=n.Zg;rw[Gl];obtain⟨N,hN⟩:∃N,s.next=N:=⟨_,rfl⟩
 obtain⟨s6,te⟩:∃s6,s6=((((((s.new (.box [.Gh n.name,.GV (n.JS.map Am),.GV (n.Hz.map Am),.GV (n.GA.map Am),.GV (n.GQ.map Aq),I n.GY])).new (.box [.nil,.nil])).new (.box [.PY])).set (N+2) (.box [.GN (N+1) 0])).new (.map [])).new (.box [.map (N+3),.PY])):=⟨_,rfl⟩
 have e0:s6.next=N+5:=by rw[te];show s.next+1+1+1+1+1=_;omega
 have hh:∀b,b<N->s6.heap b=s.heap b:=λb hb=>by
  rw[te,Av (n:=N+4) AK AA,Av (n:=N+3) AT AA,Ar AA,Av (n:=N+2) AZm AA,Av (n:=N+1) AZs AA,Av hN AA]
 have hnb:s6.heap N=some (.box [.Gh n.name,.GV (n.JS.map Am),.GV (n.Hz.map Am),.GV (n.GA.map Am),.GV (n.GQ.map Aq),I n.GY]):=by
  rw[te,Av (n:=N+4) AK AA,Av (n:=N+3) AT AA,Ar AA,Av (n:=N+2) AZm AA,Av (n:=N+1) AZs AA];exact Az hN
 have x6:s6.heap (N+1)=some (.box [.nil,.nil]):=by
  rw[te,Av (n:=N+4) AK AA,Av (n:=N+3) AT AA,Ar AA,Av (n:=N+2) AZm AA];exact Az AZs
 have Tn:s6.heap (N+2)=some (.box [.GN (N+1) 0]):=by
  rw[te,Av (n:=N+4) AK AA,Av (n:=N+3) AT AA];exact A4
 have hmp:s6.heap (N+3)=some (.map []):=by
  rw[te,Av (n:=N+4) AK AA];exact Az AT
 have hsp:s6.heap (N+4)=some (.box [.map (N+3),.PY]):=by
  rw[te];exact Az AK
 have hf6:Gm s6:=λb hb=>by
  rw[te,Av (n:=N+4) AK AA,Av (n:=N+3) AT AA,Ar AA,Av (n:=N+2) AZm AA,Av (n:=N+1) AZs AA,Av hN AA];exact hf b AA
 have hg6:GS s6 {gp:=N+1,ba:=none,IK:=[],bo:=none,os:=[]}:=⟨x6,rfl,rfl,λp hp=>by simp at hp,AD⟩
 have hc6:I9 s6 (.GN (N+4) 0) [(N+4,N+3,[])]:=.cons _ _ _ _ _ hsp hmp rfl .nil;have KO:(KF [(N+4,N+3,([]:ML))]).Nodup:=by simp[KF]
 unfold g28;refine zw ?_;simp only[hN,List.take_zero,CC,CE,List.length_nil,CZ,List.drop_succ_cons,CA,List.cons_append,DY,Nat.reduceAdd];rw[<- te];refine Rc (wE hn.Hz hf6 hg6 AB rfl hc6 KO (T:=0) (by intro l hl;simp at hl) AA) λv s7 _ _ hq=>?_;obtain⟨rfl,g7,P7⟩:=hq;have ARP:g7.os.map Bx=n.Hz.map λ_=>[]:=by rw[P7.on,im hn.APw];rfl
 have hl7:g7.os.length=n.Hz.length:=by rw[P7.len];simp
 have hi7:∀b,b∈g7.H2->b=N+1\/N+5<=b:=λb hb=>by
  rcases P7.H2 b hb with h|h
  .simp[Gr.H2]at h;exact .inl h
  .exact AgD
 have AQ2:g7.gp=N+1:=P7.gp;have hk7:∀b,b≠N+1->b≠N+3->b<N+5->s7.heap b=s6.heap b:=λb h1 h2 h3=>P7.Hi b (by simp[Gr.H2];exact h1) h2 AA;have AVV:=(hk7 N AA AA AA).trans hnb;have AU6:=(hk7 (N+2) AA AA AA).trans Tn;have hnx7:=P7.Iw.next;refine Fy (GH AU6 rfl) ?_;refine Fy Hj ?_;refine Fy (GH AVV rfl) ?_;rw[<- AQ2];refine Rc (wE hn.GA P7.Iv P7.gs AA (by rw[P7.IK,hl7];simp) P7.chain KO (T:=0) (by rw[ARP];intro l hl;obtain⟨_,_,rfl⟩:=B8.1 hl;simp) AA) λv s8 _ _ hq=>?_;obtain⟨rfl,g8,P8⟩:=hq;have hM:Le (Le [] 0 n.Hz) g7.os.length n.GA=Le [] 0 (n.Hz++n.GA):=by rw[kT,hl7,CZ]
 have AC9:=P8.chain;have ADS:=P8.on;simp only[List.length_nil]at AC9 ADS;rw[hM]at AC9 ADS;have hl8:g8.os.length=n.Hz.length+n.GA.length:=by rw[P8.len,hl7]
 have AMR:g8.gp=N+1:=P8.gp.trans AQ2
 have hi8:∀b,b∈g8.H2->b=N+1\/N+5<=b:=λb hb=>by
  rcases P8.H2 b hb with h|h
  .exact hi7 b h
  .exact AgD
 have hk8:∀b,b≠N+1->b≠N+3->b<N+5->s8.heap b=s6.heap b:=λb h1 h2 h3=>by
  rw[P8.Hi b (λh=>by rcases hi7 b h with h|h<;>omega) h2 AA];exact hk7 b h1 h2 h3
 have ARF:=(hk8 N AA AA AA).trans hnb;have AU7:=(hk8 (N+2) AA AA AA).trans Tn;have hnx8:=P8.Iw.next;have AQg:=AC9;cases AQg with
 |cons _ _ _ pv _ c1 c2 c3 c4=>
 refine Fy Hj ?_;refine Fy (GH ARF rfl) ?_;refine Fy (H5 (GK:=n.JS.map Am) rfl) ?_;rw[Bb];refine⟨_,rq hn.JS.len (λv hv=>?_) n.JS.length 0 AA AA P8.Iv c1 c2 c3 λs9 k1 k2 k3=>?_⟩
 .rw[SE λu hu he=>hd v hv u hu he];rfl
 have hg9:GS s9 g8:=P8.gs.Hi λb hb=>k1 b (P8.gs.lt P8.Iv hb);have AUo:=AC9.Hi λb hb=>k1 b (AC9.lt P8.Iv hb);have AMO:=(k1 (N+2) AA).trans AU7;have AVW:=(k1 N AA).trans ARF;have AVQ:(n.Hz++n.GA).map (λ_=>([]:LI))=(n.Hz.map λ_=>[])++n.GA.map λ_=>[]:=Bu;rw[ARP,<- AVQ]at ADS;unfold ov;refine Fy (GH AMO rfl) ?_;refine Fy Hj ?_;refine Fy (GH AVW rfl) ?_;rw[<- AMR]
 have hT8:JG (g8.os.map Bx) (0+17*n.GA.length):=by
  rw[ADS];exact Wi (λv hv=>(hn.GA.all v hv).Ga) (by intro l hl;obtain⟨_,_,rfl⟩:=B8.1 hl;simp)
 have AVJ:(g8.os.length:Int)=n.Hz.length+n.GA.length:=AA;have hfP:∀nm,Lb nm [(N+4,N+3,Le [] 0 (n.Hz++n.GA))]=n.fP nm:=λnm=>rfl;have hA8:Ap s9 g8 (N+2) (.box [.GN g8.gp 0]):=⟨by rw[AMR];exact AMO,λh=>by rcases hi8 _ h with h|h<;>omega⟩
 refine Rc (wm _ n.GQ (Bg _) hn.len hn.GQ (mv:=.nil) (Ie:=[]) (M:=λ_=>False) (T:=0+17*n.GA.length) k3 hg9 hA8 AUo KO rfl (λx=>by simp) hT8 AA AB AA (by rw[P8.IK,P7.IK,hl8];simp) λnm=>?_) λv s10 _ _ hq=>?_
 .have:=XB (f:=λ_=> -1) (k:=0) (l:=n.Hz++n.GA) (λ_=>by omega) nm;rw[hfP,AVJ];unfold GO.fP;exact Aea
 obtain⟨rfl,g10,K10,A10⟩:=hq
 have AQy:s10.heap (N+2)=some (.box [.GN (N+1) 0]):=by
  rw[K10.Hi _ (λh=>by rcases hi8 _ h with h|h<;>omega) (by have:=k2.next;omega)];exact AMO
 refine Fy (GH AQy rfl) ?_;refine Fy Zb ?_;refine L5 (Q:=λr s'=>∃g,ABo s n r s' g) rfl ⟨g10,?_,K10.gs,?_,?_,A10.PX.mono AA,λb hb=>?_,λb hb=>?_⟩
 .rw[K10.gp,AMR];rfl
 .rw[A10.IK,P8.IK,P7.IK];simp
 .have m1:L2 [] g8.on (n.Hz.length+n.GA.length) λu w=>∃v,v∈n.GA/\n.fP v.name=u/\∃c,c∈v.Ga/\n.fP c.name=w:=by
   have hid:∀v,v∈n.GA->(ZP (Le [] 0 (n.Hz++n.GA)) v.name:Int)=n.fP v.name/\ZP (Le [] 0 (n.Hz++n.GA)) v.name<n.Hz.length+n.GA.length:=λv hv=>by
    have:=Us (f:=λ_=> -1) (k:=0) (l:=n.Hz++n.GA) (v:=v) AW;unfold GO.fP;simp only[Bd]at this;omega
   show L2 _ (g8.os.map Bx) _ _;rw[ADS];refine(bZ (P:=[]) (l:=n.Hz++n.GA) (E:=λ_ _=>False) λ_ _ _ h=>h).trans (m9 λv hv=>?_) AD λu x _=>?_
   .have:=hid v hv;simp;omega
   .simp only[false_or,hfP];constructor
    .rintro⟨v,h1,h2,c,h3,h4⟩;exact⟨v,h1,c,h3,by have:=(hid v h1).1;omega,h4⟩
    .rintro⟨v,h1,c,h2,h3,h4⟩;exact⟨v,h1,by have:=(hid v h1).1;omega,c,h2,h4⟩
  have m2:=A10.on;rw[hl8,show(λnm=>Lb nm [(N+4,N+3,Le [] 0 (n.Hz++n.GA))])=n.fP from rfl]at m2;exact m1.trans m2 rfl λu x _=>Iff.rfl
 .have hb:b<N:=AA;rw[K10.Hi _ (λh=>by rcases hi8 _ h with h|h<;>omega) (by have:=k2.next;omega),k1 b AA,hk8 b AA AA AA];exact hh b hb
 .rcases K10.H2 b hb with h|h
  .rcases hi8 b h with h|h<;>omega
  .have:=k2.next;omega
end
end Go.Vi
