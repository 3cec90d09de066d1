/- Part of the proof of CauseChecks (own work, made small). -/
import Derived.Test.YtlonlfiaclacdaaGreatG2
set_option linter.all false
set_option maxRecDepth 100000
open Bool renaming and_eq_true->Bo,true_or->Du
open Go renaming FuncId->B9
open Go.Proofs.Tryz renaming prog->BZ
open Go.Vi.I1 renaming i->BV,is->BH
open Go.Vi.PV renaming int->BD
open Go.Vi.St renaming new->BE,H3->Az,G0->Av,set->BN,Gg->Ar,HJ->A4
open Int renaming toNat->Dk,toNat_natCast->Cj
open List renaming all_cons->Co,append_assoc->B3,append_nil->CG,drop_eq_getElem_cons->Bt,drop_of_length_le->CB,drop_zero->CA,ext_getElem?->DK,getD_eq_getElem?_getD->CK,getElem?_append_left->CL,getElem?_append_right->CT,getElem?_eq_getElem->Bc,getElem?_eq_some_iff->Bp,getElem?_map->CV,getElem?_take_of_lt->DI,getElem_mem->Bl,length_append->Bd,length_cons->CE,length_singleton->C3,map_append->Bu,map_cons->DE,mem_append->Bf,mem_cons->Bm,mem_cons_of_mem->Bq,mem_cons_self->Bw,mem_of_getElem?->Bn,mem_singleton->By,nil_append->CC,nodup_cons->CP,range->CS,replicate->DA,set_cons_succ->Cb,set_cons_zero->Ca,take_left'->D7,take_of_length_le->Cc
open Nat renaming add_assoc->DY,add_zero->DN,le_refl->Bg,le_trans->CN,min_eq_left->C7,zero_add->CZ
open Prod renaming fst->CO
namespace Go.Ti
structure TS where
 Ig:Nat->Nat
 KN:Nat->Nat
 Ku:List Nat
 out:Nat->Bool
 K3:Nat
def Pm{α:Type}(f:Nat->α)(v:Nat)(x:α):Nat->α:=λu=>if u=v then x else f u
@[simp]theorem M9{α:Type}(f:Nat->α)(v:Nat)(x:α):Pm f v x v=x:=by simp[Pm]
def L1{α:Type}(f:Nat->α){v u:Nat}(x:α)(h:u≠v):Pm f v x u=f u:=by simp[Pm,h]
def TS.enter(s:TS)(v:Nat):TS:={Ig:=Pm s.Ig v (s.K3+1),KN:=Pm s.KN v (s.K3+1),Ku:=v::s.Ku,out:=s.out,K3:=s.K3+1}
def seg(v:Nat):LN->LN
 |[]=>[]
 |u::r=>if u=v then[u]else u::seg v r
def Ju(v:Nat):LN->LN
 |[]=>[]
 |u::r=>if u=v then r else Ju v r
def TS.VQ(s:TS)(v:Nat):TS:=if s.KN v=s.Ig v then
 {s with Ku:=Ju v s.Ku,out:=λu=>s.out u||(decide (u∈seg v s.Ku)&&decide (1<(seg v s.Ku).length))}else s
mutual
inductive V (g:Nat->List Nat):TS->Nat->TS->Prop
 |mk (s:TS) (v:Nat) (s1:TS):s.Ig v=0->L g (s.enter v) v (g v) s1->V g s v (s1.VQ v)
inductive L (g:Nat->List Nat):TS->Nat->List Nat->TS->Prop
 |nil (s:TS) (v:Nat):L g s v [] s
 |ANv (s:TS) (v:Nat) (r:List Nat) (s':TS):L g {s with out:=Pm s.out v true} v r s'->L g s v (v::r) s'
 |new (s:TS) (v w:Nat) (r:List Nat) (s1 s':TS):w≠v->s.Ig w=0->V g s w s1->L g {s1 with KN:=Pm s1.KN v (min (s1.KN v) (s1.KN w))} v r s'->L g s v (w::r) s'
 |old (s:TS) (v w:Nat) (r:List Nat) (s':TS):w≠v->s.Ig w≠0->w∈s.Ku->L g {s with KN:=Pm s.KN v (min (s.KN v) (s.Ig w))} v r s'->L g s v (w::r) s'
 |done (s:TS) (v w:Nat) (r:List Nat) (s':TS):w≠v->s.Ig w≠0->w∉s.Ku->L g s v r s'->L g s v (w::r) s'
end
inductive A (g:Nat->List Nat):TS->List Nat->TS->Prop
 |nil (s:TS):A g s [] s
 |skip (s:TS) (v:Nat) (r:List Nat) (s':TS):s.Ig v≠0->A g s r s'->A g s (v::r) s'
 |go (s:TS) (v:Nat) (r:List Nat) (s1 s':TS):V g s v s1->A g s1 r s'->A g s (v::r) s'
def TS.zero:TS:=⟨λ_=>0,λ_=>0,[],λ_=>false,0⟩
inductive R (g:Nat->List Nat):Nat->Nat->Prop
 |one (v w:Nat):w∈g v->R g v w
 |step (v w x:Nat):w∈g v->R g w x->R g v x
def R.trans{g:Nat->LN}{a b c:Nat}(h:R g a b)(k:R g b c):R g a c:=by
 induction h with
 |one v w h=>exact .step _ _ _ h k
 |step v w x h _ ih=>exact .step _ _ _ h (ih k)
def R0(g:Nat->LN)(a b:Nat):Prop:=a=b\/R g a b
def R0.trans{g:Nat->LN}{a b c:Nat}(h:R0 g a b)(k:R0 g b c):R0 g a c:=by
 rcases h with rfl|h
 .exact k
 .rcases k with rfl|k
  .exact .inr h
  .exact .inr (h.trans k)
def R0.oZ{g:Nat->LN}{a b:Nat}(h:b∈g a):R0 g a b:=.inr (.one _ _ h)
def p7{v:Nat}:∀{l l':LN},v∉l->seg v (l++v::l')=l++[v]/\Ju v (l++v::l')=l'
 |[],l',_=>by simp[seg,Ju]
 |u::r,l',h=>by
  have hu:u≠v:=λe=>h (by simp[e]);have hr:v∉r:=λe=>h (Bq _ e);obtain⟨h1,h2⟩:=p7 (l':=l') hr;simp[seg,Ju,hu,h1,h2]
structure w9 (g:Nat->List Nat) (s:TS) (G:List Nat):Prop where
 K3:∀u,s.Ig u<=s.K3
 inj:∀u w,s.Ig u=s.Ig w->s.Ig u≠0->u=w
 TP:∀u,u∈s.Ku->s.Ig u≠0
 XR:s.Ku.Pairwise λa b=>s.Ig b<s.Ig a
 Wp:∀u,u∈G->u∈s.Ku
 done:∀u,s.Ig u≠0->u∉s.Ku->∀w,w∈g u->s.Ig w≠0/\w∉s.Ku
 eY:∀u,u∈s.Ku->u∉G->∀w,w∈g u->s.Ig w≠0
 toG:∀u,u∈s.Ku->∃y,y∈G/\s.Ig y<=s.Ig u/\R0 g u y
 Yb:∀y u,y∈G->u∈s.Ku->s.Ig y<=s.Ig u->R0 g y u
 sV:∀u,s.Ig u≠0->u∉s.Ku->(s.out u=true<->R g u u)
 sW:∀u,s.out u=true->R g u u
 vp:∀u,u∈s.Ku->u∉G->u∈g u->s.out u=true
structure gZ (s s':TS):Prop where
 Ig:∀u,s.Ig u≠0->s'.Ig u=s.Ig u
 K3:s.K3<=s'.K3
 new:∀u,s.Ig u=0->s'.Ig u≠0->s.K3<s'.Ig u
 Ku:∃l,s'.Ku=l++s.Ku/\∀u,u∈l->s.Ig u=0
 out:∀u,s.out u=true->s'.out u=true
def gZ.refl(s:TS):gZ s s:=⟨λ_ _=>rfl,Bg _,λu h h'=>Zq h h',⟨[],rfl,λu h=>by cases h⟩,λ_ h=>h⟩
def gZ.trans{a b c:TS}(h:gZ a b)(k:gZ b c):gZ a c:=by
 obtain⟨l,h1,h2⟩:=h.Ku;obtain⟨l',k1,k2⟩:=k.Ku;refine⟨λu hu=>?_,CN h.K3 k.K3,λu hu hn=>?_,⟨l'++l,by rw[k1,h1,B3],λu hu=>?_⟩,λu hu=>k.out u (h.out u hu)⟩
 .have e:=h.Ig u hu;rw[k.Ig u (by rw[e];exact hu),e]
 .by_cases hb:b.Ig u=0
  .exact Nat.lt_of_le_of_lt h.K3 (k.new u hb hn)
  .rw[k.Ig u hb];exact h.new u hu hb
 .rcases Bf.1 hu with hu|hu
  .by_cases ha:a.Ig u=0
   .exact ha
   .have:=k2 u hu;rw[h.Ig u ha]at this;exact Zq this ha
  .exact h2 u hu
structure qc (g:Nat->List Nat) (s:TS) (v:Nat) (G P:List Nat):Prop where
 K5:w9 g s (v::G)
 Jh:∀y,y∈G->s.Ig y<s.Ig v
 va:s.KN v<=s.Ig v
 pU:∃x,x∈s.Ku/\s.Ig x=s.KN v/\R0 g v x
 lJ:∀w,w∈P->s.Ig w≠0/\(w=v->s.out v=true)/\(w∈s.Ku->s.Ig w<s.Ig v->s.KN v<=s.Ig w)
 sub:∀x,x∈s.Ku->s.Ig v<s.Ig x->∀y,y∈g x->y∈s.Ku->s.Ig y<s.Ig v->s.KN v<=s.Ig y
def w9.enter{g:Nat->LN}{s:TS}{G:LN}(h:w9 g s G){v:Nat}(hv:s.Ig v=0)(hG:∀y,y∈G->R0 g y v):qc g (s.enter v) v G []:=by
 have Mt:v∉s.Ku:=λhm=>h.TP v hm hv;have hn:∀u,u≠v->(s.enter v).Ig u=s.Ig u:=λu hu=>L1 _ _ hu;have pI:(s.enter v).Ig v=s.K3+1:=M9 _ _ _;have Kk:∀u,u∈s.Ku->u≠v:=λu hu e=>Mt (e▸hu);have hz:∀u,s.Ig u≠0->u≠v:=λu hu e=>hu (e▸hv);refine⟨⟨λu=>?_,λu w e hu=>?_,λu hu=>?_,?_,λu hu=>?_,λu hu hs w hw=>?_,λu hu hg w hw=>?_,λu hu=>?_,λy u hy hu hl=>?_,λu hu hs=>?_,h.sW,λu hu hg=>?_⟩,λy hy=>?_,?_,?_,(λw hw=>by cases hw),λx hx hl=>?_⟩
 .by_cases e:u=v
  .subst e;rw[pI];exact Bg _
  .rw[hn u e];exact Nat.le_succ_of_le (h.K3 u)
 .by_cases e1:u=v<;>by_cases e2:w=v
  .rw[e1,e2]
  .subst e1;rw[pI,hn w e2]at e;have:=h.K3 w;omega
  .subst e2;rw[pI,hn u e1]at e;have:=h.K3 u;omega
  .rw[hn u e1,hn w e2]at e;rw[hn u e1]at hu;exact h.inj u w e hu
 .rcases Bm.1 hu with rfl|hu
  .rw[pI];omega
  .rw[hn u (Kk u hu)];exact h.TP u hu
 .refine List.pairwise_cons.2 ⟨λu hu=>?_,?_⟩
  .rw[pI,hn u (Kk u hu)];have:=h.K3 u;omega
  .refine h.XR.imp_of_mem λha hb qS=>?_;rw[hn _ (Kk _ ha),hn _ (Kk _ hb)];exact qS
 .rcases Bm.1 hu with rfl|hu
  .exact Bw
  .exact Bq _ (h.Wp u hu)
 .have huv:u≠v:=λe=>hs (e▸Bw);rw[hn u huv]at hu;obtain⟨h1,h2⟩:=h.done u hu (λhm=>hs (Bq _ hm)) w hw;refine⟨by rw[hn w (hz w h1)];exact h1,λhm=>?_⟩;rcases Bm.1 hm with rfl|hm
  .exact h1 hv
  .exact h2 hm
 .rcases Bm.1 hu with rfl|hu
  .exact Zq Bw hg
  .have h1:=h.eY u hu (λhm=>hg (Bq _ hm)) w hw;rw[hn w (hz w h1)];exact h1
 .rcases Bm.1 hu with rfl|hu
  .exact⟨u,Bw,Bg _,.inl rfl⟩
  .obtain⟨y,h1,h2,h3⟩:=h.toG u hu;exact⟨y,Bq _ h1,by rw[hn y (Kk y (h.Wp y h1)),hn u (Kk u hu)];exact h2,h3⟩
 .rcases Bm.1 hy with rfl|hy'<;>rcases Bm.1 hu with rfl|hu'
  .exact .inl rfl
  .rw[pI,hn u (Kk u hu')]at hl;have:=h.K3 u;omega
  .exact hG y hy'
  .rw[hn y (Kk y (h.Wp y hy')),hn u (Kk u hu')]at hl;exact h.Yb y u hy' hu' hl
 .have huv:u≠v:=λe=>hs (e▸Bw);rw[hn u huv]at hu;exact h.sV u hu λhm=>hs (Bq _ hm)
 .rcases Bm.1 hu with rfl|hu
  .exact Zq Bw hg
  .exact h.vp u hu λhm=>hg (Bq _ hm)
 .rw[pI,hn y (Kk y (h.Wp y hy))];have:=h.K3 y;omega
 .show Pm s.KN v (s.K3+1) v<=Pm s.Ig v (s.K3+1) v;simp
 .refine⟨v,Bw,?_,.inl rfl⟩;show Pm s.Ig v (s.K3+1) v=Pm s.KN v (s.K3+1) v;simp
 .rcases Bm.1 hx with rfl|hx
  .exact Zq hl (Nat.lt_irrefl _)
  .rw[pI,hn x (Kk x hx)]at hl;have:=h.K3 x;omega
def Uh{s:TS}{v:Nat}(hv:s.Ig v=0):gZ s (s.enter v):=
 ⟨λu hu=>L1 _ _ λe=>hu (e▸hv),Nat.le_succ _,λu hu hn=>by
  by_cases e:u=v
  .subst e;show s.K3<Pm s.Ig u (s.K3+1) u;simp
  .exact Zq ((L1 s.Ig (s.K3+1) e).trans hu) hn,⟨[v],rfl,λu hu=>by rw[By.1 hu];exact hv⟩,λ_ h=>h⟩
structure AKW (g:Nat->List Nat) (s s':TS) (v:Nat) (G:List Nat):Prop where
 K5:w9 g s' G
 Hi:gZ s s'
 ANS:s'.Ig v≠0
 KN:s'.KN v<=s'.Ig v
 pU:s'.KN v<s'.Ig v->∃x,x∈s'.Ku/\s'.Ig x=s'.KN v/\R0 g v x
 APy:∀x,x∈s'.Ku->s.Ig x=0->∀y,y∈g x->y∈s.Ku->s'.KN v<=s'.Ig y
 AAY:∀u,s.Ig u≠0->s'.KN u=s.KN u
def R.oT{g:Nat->LN}{C:Nat->Prop}(hC:∀u,C u->∀w,w∈g u->C w){a b:Nat}(h:R g a b):C a->C b:=by
 induction h with
 |one v w hw=>exactλha=>hC v ha w hw
 |step v w x hw _ ih=>exactλha=>ih (hC v ha w hw)
def vW{g:Nat->LN}{s s1:TS}{v:Nat}{G:LN}(h:w9 g s G)(hv:s.Ig v=0)(m:qc g s1 v G (g v))(k:gZ (s.enter v) s1)(hl:∀u,s.Ig u≠0->s1.KN u=s.KN u):AKW g s (s1.VQ v) v G:=by
 have kk:gZ s s1:=(Uh hv).trans k;obtain⟨A,hA,hAn⟩:=k.Ku;have hA:s1.Ku=A++v::s.Ku:=hA;have hev:(s.enter v).Ig v=s.K3+1:=M9 _ _ _;have pI:s1.Ig v=s.K3+1:=by rw[k.Ig v (by rw[hev];omega),hev]
 have Mt:v∉s.Ku:=λhm=>h.TP v hm hv;have hvA:v∉A:=λhm=>by have:=hAn v hm;rw[hev]at this;omega
 have hAs:∀u,u∈A->u∉s.Ku:=λu hu hs=>by
  have h1:=hAn u hu;have h2:=(Uh (v:=v) hv).Ig u (h.TP u hs);rw[h2]at h1;exact h.TP u hs h1
 have Ox:∀u,u∈s1.Ku<->u∈A\/u=v\/u∈s.Ku:=λu=>by rw[hA];simp
 have OW:∀u,u∈s.Ku->s1.Ig u=s.Ig u/\s1.Ig u<s1.Ig v:=λu hu=>by
  have e:=kk.Ig u (h.TP u hu);exact⟨e,by rw[e,pI];have:=h.K3 u;omega⟩
 have hup:∀u,u∈A->s1.Ig v<s1.Ig u:=λu hu=>by
  have h1:=k.new u (hAn u hu) (m.K5.TP u ((Ox u).2 (.inl hu)));have h2:s.K3+1<s1.Ig u:=h1;omega
 have AV5:v∈s1.Ku:=(Ox v).2 (.inr (.inl rfl))
 have hng:∀u,u∈A->u∉v::G:=λu hu hm=>by
  rcases Bm.1 hm with rfl|hm
  .exact hvA hu
  .exact hAs u hu (h.Wp u hm)
 by_cases c:s1.KN v=s1.Ig v
 .obtain⟨ARa,Lu⟩:=p7 (l':=s.Ku) hvA;rw[<- hA]at ARa Lu
  have e1:s1.VQ v={s1 with Ku:=s.Ku,out:=λu=>s1.out u||(decide (u∈A++[v])&&decide (1<(A++[v]).length))}:=by
   unfold TS.VQ;rw[Ps c,ARa,Lu]
  have ANL:∀u,u∈A\/u=v->∀w,w∈g u->s1.Ig w≠0/\w∉s.Ku:=by
   rintro u hu w hw;rcases hu with hu|rfl
   .refine⟨m.K5.eY u ((Ox u).2 (.inl hu)) (hng u hu) w hw,λhs=>?_⟩;have:=m.sub u ((Ox u).2 (.inl hu)) (hup u hu) w hw ((Ox w).2 (.inr (.inr hs))) (OW w hs).2;have:=(OW w hs).2;omega
   .refine⟨(m.lJ w hw).1,λhs=>?_⟩;have:=(m.lJ w hw).2.2 ((Ox w).2 (.inr (.inr hs))) (OW w hs).2;have:=(OW w hs).2;omega
  have hC:∀u,(s1.Ig u≠0/\u∉s.Ku)->∀w,w∈g u->(s1.Ig w≠0/\w∉s.Ku):=by
   rintro u ⟨h1,h2⟩ w hw;by_cases hs:u∈s1.Ku
   .rcases(Ox u).1 hs with h3|h3|h3
    .exact ANL u (.inl h3) w hw
    .exact ANL u (.inr h3) w hw
    .exact Zq h3 h2
   .obtain⟨h3,h4⟩:=m.K5.done u h1 hs w hw;exact⟨h3,λhm=>h4 ((Ox w).2 (.inr (.inr hm)))⟩
  have AJp:∀u,u∈A\/u=v->s1.Ig u≠0/\u∉s.Ku:=by
   rintro u (hu|rfl)
   .exact⟨m.K5.TP u ((Ox u).2 (.inl hu)),hAs u hu⟩
   .exact⟨by rw[pI];omega,Mt⟩
  have hto:∀u,u∈A\/u=v->R0 g u v:=by
   intro u hu;have hus:u∈s1.Ku:=(Ox u).2 (hu.imp id .inl);obtain⟨y,h1,_,h3⟩:=m.K5.toG u hus;rcases Bm.1 h1 with rfl|h1
   .exact h3
   .have hy:s1.Ig y≠0/\y∉s.Ku:=by
     rcases h3 with rfl|h3
     .exact AJp u hu
     .exact h3.oT hC (AJp u hu)
    exact Zq (h.Wp y h1) hy.2
  have AJb:∀u,u∈A\/u=v->R0 g v u:=by
   intro u hu;refine m.K5.Yb v u Bw ((Ox u).2 (hu.imp id .inl)) ?_;rcases hu with hu|rfl
   .exact Nat.le_of_lt (hup u hu)
   .exact Bg _
  have big:∀u,u∈A\/u=v->1<(A++[v]).length->R g u u:=by
   intro u hu HM;by_cases e:u=v
   .subst e;cases A with
    |nil=>simp at HM
    |cons a A'=>
     have ha:a∈a::A':=Bw;have Kk:a≠u:=λe=>hvA (e▸ha);have h1:=(AJb a (.inl ha)).resolve_left λe=>Kk e.symm;have h2:=(hto a (.inl ha)).resolve_left Kk;exact h1.trans h2
   .exact((hto u hu).resolve_left e).trans ((AJb u hu).resolve_left λe'=>e e'.symm)
  have hD:∀u,(s1.Ig u≠0/\u∉s1.Ku)->∀w,w∈g u->(s1.Ig w≠0/\w∉s1.Ku):=λu hu w hw=>m.K5.done u hu.1 hu.2 w hw;rw[e1]
  refine⟨⟨m.K5.K3,m.K5.inj,λu hu=>m.K5.TP u ((Ox u).2 (.inr (.inr hu))),?_,h.Wp,λu h1 h2 w hw=>hC u ⟨h1,h2⟩ w hw,λu hu hg w hw=>?_,λu hu=>?_,λy u hy hu hle=>?_,λu h1 h2=>?_,λu hu=>?_,λu hu hg hs=>?_⟩,
   ⟨kk.Ig,kk.K3,kk.new,⟨[],rfl,λu hu=>by cases hu⟩,λu hu=>by show(s1.out u||_)=true;rw[kk.out u hu,Du]⟩,by show s1.Ig v≠0;rw[pI];omega,Nat.le_of_eq c,λG7=>Zq c (Nat.ne_of_lt G7),λx hx h0=>Zq h0 (h.TP x hx),hl⟩
  .refine h.XR.imp_of_mem λha hb qS=>?_;show s1.Ig _<s1.Ig _;rw[(OW _ ha).1,(OW _ hb).1];exact qS
  .refine m.K5.eY u ((Ox u).2 (.inr (.inr hu))) (λhm=>?_) w hw;rcases Bm.1 hm with rfl|hm
   .exact Mt hu
   .exact hg hm
  .obtain⟨y,h1,h2,h3⟩:=m.K5.toG u ((Ox u).2 (.inr (.inr hu)));rcases Bm.1 h1 with rfl|h1
   .have:=(OW u hu).2;omega
   .exact⟨y,h1,h2,h3⟩
  .exact m.K5.Yb y u (Bq _ hy) ((Ox u).2 (.inr (.inr hu))) hle
  .by_cases hs:u∈s1.Ku
   .have hu:u∈A\/u=v:=by
     rcases(Ox u).1 hs with h3|h3|h3
     .exact .inl h3
     .exact .inr h3
     .exact Zq h3 h2
    have Jr:u∈A++[v]:=by simpa using hu
    by_cases HM:1<(A++[v]).length
    .have hb:(decide (u∈A++[v])&&decide (1<(A++[v]).length))=true:=by rw[decide_eq_true Jr,decide_eq_true HM];rfl
     show(s1.out u||_)=true<->_;rw[hb,Bool.or_true];exact⟨λ_=>big u hu HM,λ_=>rfl⟩
    .have hb:(decide (u∈A++[v])&&decide (1<(A++[v]).length))=false:=by rw[decide_eq_false HM,Bool.and_false]
     show(s1.out u||_)=true<->_;rw[hb,Bool.or_false]
     have hA0:A=[]:=by
      cases A with
      |nil=>rfl
      |cons a A'=>simp at HM
     have huv:u=v:=by rcases hu with hu|hu;(rw[hA0]at hu;cases hu);exact hu
     subst huv;refine⟨m.K5.sW u,λhr=>?_⟩
     have first:∃w,w∈g u/\R0 g w u:=by
      cases hr with
      |one _ _ hw=>exact⟨u,hw,.inl rfl⟩
      |step _ w _ hw hr=>exact⟨w,hw,.inr hr⟩
     obtain⟨w,hw,hr⟩:=first
     by_cases e:w=u
     .exact(m.lJ w hw).2.1 e
     .have hk:=ANL u (.inr rfl) w hw
      have vP:w∉s1.Ku:=λhm=>by
       rcases(Ox w).1 hm with h3|h3|h3
       .rw[hA0]at h3;cases h3
       .exact e h3
       .exact hk.2 h3
      exact Zq AV5 ((hr.resolve_left e).oT hD ⟨hk.1,vP⟩).2
   .have Jr:u∉A++[v]:=λhm=>hs ((Ox u).2 ((Bf.1 hm).imp id λh=> .inl (By.1 h)));have hb:(decide (u∈A++[v])&&decide (1<(A++[v]).length))=false:=by rw[decide_eq_false Jr,Bool.false_and]
    show(s1.out u||_)=true<->_;rw[hb,Bool.or_false];exact m.K5.sV u h1 hs
  .have hu':(s1.out u||(decide (u∈A++[v])&&decide (1<(A++[v]).length)))=true:=hu;rcases Bool.or_eq_true_iff.1 hu' with h1|h1
   .exact m.K5.sW u h1
   .obtain⟨h2,h3⟩:=Bool.and_eq_true_iff.1 h1;exact big u (by simpa using Ot h2) (Ot h3)
  .show(s1.out u||_)=true
   rw[m.K5.vp u ((Ox u).2 (.inr (.inr hu))) (λhm=>by
    rcases Bm.1 hm with rfl|hm
    .exact Mt hu
    .exact hg hm) hs,Du]
 .have e1:s1.VQ v=s1:=by unfold TS.VQ;rw[Ng c]
  have G7:s1.KN v<s1.Ig v:=Nat.lt_of_le_of_ne m.va c;rw[e1]
  refine⟨⟨m.K5.K3,m.K5.inj,m.K5.TP,m.K5.XR,λu hu=>(Ox u).2 (.inr (.inr (h.Wp u hu))),m.K5.done,λu hu hg w hw=>?_,λu hu=>?_,λy u hy hu hle=>m.K5.Yb y u (Bq _ hy) hu hle,m.K5.sV,m.K5.sW,λu hu hg hs=>?_⟩,
   kk,by rw[pI];omega,m.va,λ_=>m.pU,λx hx h0 y hy hys=>?_,hl⟩
  .by_cases e:u=v
   .subst e;exact(m.lJ w hw).1
   .exact m.K5.eY u hu (λhm=>(Bm.1 hm).elim e hg) w hw
  .obtain⟨y,h1,h2,h3⟩:=m.K5.toG u hu;rcases Bm.1 h1 with rfl|h1
   .obtain⟨x,x1,x2,x3⟩:=m.pU;obtain⟨y',y1,y2,y3⟩:=m.K5.toG x x1;rcases Bm.1 y1 with rfl|y1
    .omega
    .exact⟨y',y1,AA,(h3.trans x3).trans y3⟩
   .exact⟨y,h1,h2,h3⟩
  .by_cases e:u=v
   .subst e;exact(m.lJ u hs).2.1 rfl
   .exact m.K5.vp u hu (λhm=>(Bm.1 hm).elim e hg) hs
  .have ARt:y∈s1.Ku:=(Ox y).2 (.inr (.inr hys));rcases(Ox x).1 hx with h1|rfl|h1
   .exact m.sub x hx (hup x h1) y hy ARt (OW y hys).2
   .exact(m.lJ y hy).2.2 ARt (OW y hys).2
   .exact Zq h0 (h.TP x h1)
section
structure Lo (s s':TS) (v:Nat):Prop where
 Hi:gZ s s'
 AAY:∀u,u≠v->s.Ig u≠0->s'.KN u=s.KN u
def Lo.refl(s:TS)(v:Nat):Lo s s v:=⟨.refl s,λ_ _ _=>rfl⟩
def Lo.trans{a b c:TS}{v:Nat}(h:Lo a b v)(k:Lo b c v):Lo a c v:=⟨h.Hi.trans k.Hi,λu hu hn=>by rw[k.AAY u hu (by rw[h.Hi.Ig u hn];exact hn),h.AAY u hu hn]⟩
def Lo.KN(s:TS)(v x:Nat):Lo s {s with KN:=Pm s.KN v x} v:=⟨⟨λ_ _=>rfl,Bg _,λu h h'=>Zq h h',⟨[],rfl,λu h=>by cases h⟩,λ_ h=>h⟩,λu hu _=>L1 _ _ hu⟩
def Lo.out(s:TS)(v:Nat):Lo s {s with out:=Pm s.out v true} v:=
 ⟨⟨λ_ _=>rfl,Bg _,λu h h'=>Zq h h',⟨[],rfl,λu h=>by cases h⟩,λu h=>by
  by_cases e:u=v
  .subst e;simp
  .show Pm s.out v true u=true;rw[L1 _ _ e];exact h⟩,λ_ _ _=>rfl⟩
variable{g:Nat->LN}
def qc.KN{s:TS}{v:Nat}{G P:LN}(m:qc g s v G P){x w:Nat}(hx:x<=s.KN v)(hX:∃y,y∈s.Ku/\s.Ig y=x/\R0 g v y)
  (hw:s.Ig w≠0/\(w=v->s.out v=true)/\(w∈s.Ku->s.Ig w<s.Ig v->x<=s.Ig w)):qc g {s with KN:=Pm s.KN v x} v G (P++[w]):=by
 have e:({s with KN:=Pm s.KN v x}:TS).KN v=x:=M9 _ _ _;refine⟨⟨m.K5.K3,m.K5.inj,m.K5.TP,m.K5.XR,m.K5.Wp,m.K5.done,m.K5.eY,m.K5.toG,m.K5.Yb,m.K5.sV,m.K5.sW,m.K5.vp⟩,m.Jh,?_,?_,λu hu=>?_,λa ha hl y hy hys G7=>?_⟩
 .rw[e];exact CN hx m.va
 .rw[e];exact hX
 .rw[e];rcases Bf.1 hu with hu|hu
  .obtain⟨h1,h2,h3⟩:=m.lJ u hu;exact⟨h1,h2,λa b=>CN hx (h3 a b)⟩
  .rw[By.1 hu];exact hw
 .rw[e];exact CN hx (m.sub a ha hl y hy hys G7)
def qc.Ie{s:TS}{v:Nat}{G P:LN}(m:qc g s v G P){w:Nat}(hw:s.Ig w≠0/\(w=v->s.out v=true)/\(w∈s.Ku->s.Ig w<s.Ig v->s.KN v<=s.Ig w)):qc g s v G (P++[w]):=by
 refine⟨m.K5,m.Jh,m.va,m.pU,λu hu=>?_,m.sub⟩;rcases Bf.1 hu with hu|hu
 .exact m.lJ u hu
 .rw[By.1 hu];exact hw
def qc.mark{s:TS}{v:Nat}{G P:LN}(m:qc g s v G P)(hv:v∈g v):qc g {s with out:=Pm s.out v true} v G (P++[v]):=by
 have Mt:v∈s.Ku:=m.K5.Wp v Bw;have ho:∀u,u≠v->({s with out:=Pm s.out v true}:TS).out u=s.out u:=λu hu=>L1 _ _ hu;have hov:({s with out:=Pm s.out v true}:TS).out v=true:=M9 _ _ _;refine⟨⟨m.K5.K3,m.K5.inj,m.K5.TP,m.K5.XR,m.K5.Wp,m.K5.done,m.K5.eY,m.K5.toG,m.K5.Yb,λu h1 h2=>?_,λu hu=>?_,λu hu hg hs=>?_⟩,m.Jh,m.va,m.pU,λu hu=>?_,m.sub⟩
 .rw[ho u λe=>h2 (e▸Mt)];exact m.K5.sV u h1 h2
 .by_cases e:u=v
  .rw[e];exact .one _ _ hv
  .rw[ho u e]at hu;exact m.K5.sW u hu
 .rw[ho u λe=>hg (e▸Bw)];exact m.K5.vp u hu hg hs
 .rcases Bf.1 hu with hu|hu
  .obtain⟨h1,_,h3⟩:=m.lJ u hu;exact⟨h1,λ_=>hov,h3⟩
  .rw[By.1 hu];exact⟨m.K5.TP v Mt,λ_=>hov,λ_ h=>Zq h (Nat.lt_irrefl _)⟩
def qc.new{s s1:TS}{v w:Nat}{G P:LN}(m:qc g s v G P)(hw:w∈g v)(qW:w≠v)(h0:s.Ig w=0)(p:AKW g s s1 w (v::G)):
  qc g {s1 with KN:=Pm s1.KN v (min (s1.KN v) (s1.KN w))} v G (P++[w]):=by
 have Mt:v∈s.Ku:=m.K5.Wp v Bw;have lY:s.Ig v≠0:=m.K5.TP v Mt;have pI:s1.Ig v=s.Ig v:=p.Hi.Ig v lY;have hlv:s1.KN v=s.KN v:=p.AAY v lY;have dm:s.K3<s1.Ig w:=p.Hi.new w h0 p.ANS;obtain⟨l,hl,hln⟩:=p.Hi.Ku
 have AC5:∀u,u∈s1.Ku->s.Ig u≠0->u∈s.Ku:=λu hu hn=>by
  rw[hl]at hu;rcases Bf.1 hu with hu|hu
  .exact Zq (hln u hu) hn
  .exact hu
 have hfw:∀u,u∈s.Ku->u∈s1.Ku:=λu hu=>by rw[hl];exact List.mem_append_right _ hu
 have hcv:s.Ig v<=s.K3:=m.K5.K3 v;have e:({s1 with KN:=Pm s1.KN v (min (s1.KN v) (s1.KN w))}:TS).KN v=min (s.KN v) (s1.KN w):=by show Pm _ _ _ v=_;rw[M9,hlv]
 refine⟨⟨p.K5.K3,p.K5.inj,p.K5.TP,p.K5.XR,p.K5.Wp,p.K5.done,p.K5.eY,p.K5.toG,p.K5.Yb,p.K5.sV,p.K5.sW,p.K5.vp⟩,λy hy=>?_,?_,?_,λu hu=>?_,λx hx G7 y hy hys hly=>?_⟩
 .have hys:=m.K5.Wp y (Bq _ hy);show s1.Ig y<s1.Ig v;rw[pI,p.Hi.Ig y (m.K5.TP y hys)];exact m.Jh y hy
 .rw[e];show _<=s1.Ig v;rw[pI];exact CN (Nat.min_le_left _ _) m.va
 .rw[e];by_cases c:s.KN v<=s1.KN w
  .obtain⟨x,h1,h2,h3⟩:=m.pU;exact⟨x,hfw x h1,by show s1.Ig x=_;rw[p.Hi.Ig x (m.K5.TP x h1),h2,C7 c],h3⟩
  .have G7:s1.KN w<s1.Ig w:=by have:=m.va;omega
   obtain⟨x,h1,h2,h3⟩:=p.pU G7;exact⟨x,h1,by show s1.Ig x=_;rw[h2,Nat.min_eq_right AA],(R0.oZ hw).trans h3⟩
 .rw[e];rcases Bf.1 hu with hu|hu
  .obtain⟨h1,h2,h3⟩:=m.lJ u hu;have hn:s1.Ig u=s.Ig u:=p.Hi.Ig u h1;refine⟨by show s1.Ig u≠0;rw[hn];exact h1,λhh=>p.Hi.out v (h2 hh),λhs G7=>?_⟩;have ADK:s1.Ig u<s1.Ig v:=G7;show _<=s1.Ig u;rw[hn,pI]at ADK;rw[hn];exact CN (Nat.min_le_left _ _) (h3 (AC5 u hs h1) ADK)
  .rw[By.1 hu];refine⟨p.ANS,λhh=>Zq hh qW,λ_ G7=>?_⟩;have ADK:s1.Ig w<s1.Ig v:=G7;omega
 .rw[e];have hly':s1.Ig y<s1.Ig v:=hly;have ADK:s1.Ig v<s1.Ig x:=G7
  have hyn:s.Ig y≠0:=λh=>by
   have:=p.Hi.new y h (p.K5.TP y hys);omega
  have ARr:=AC5 y hys hyn;have hny:s1.Ig y=s.Ig y:=p.Hi.Ig y hyn;show _<=s1.Ig y;by_cases Tt:s.Ig x=0
  .exact CN (Nat.min_le_right _ _) (p.APy x hx Tt y hy ARr)
  .have pJ:s1.Ig x=s.Ig x:=p.Hi.Ig x Tt;rw[hny];exact CN (Nat.min_le_left _ _) (m.sub x (AC5 x hx Tt) AA y hy ARr AA)
mutual
def V.post {s s':TS} {v:Nat}:V g s v s'->∀{G:List Nat},w9 g s G->(∀y,y∈G->R0 g y v)->AKW g s s' v G
 | .mk _ _ s1 hv hL,G,h,hG=>by
  obtain⟨m,l⟩:=hL.post (h.enter hv hG) (λ_ h=>h);refine vW h hv m l.Hi λu hu=>?_;have huv:u≠v:=λe=>hu (e▸hv);rw[l.AAY u huv (by rw[(Uh hv).Ig u hu];exact hu)];exact L1 _ _ huv
def L.post {s s':TS} {v:Nat} {r:List Nat}:L g s v r s'->∀{G P:List Nat},qc g s v G P->(∀w,w∈r->w∈g v)->qc g s' v G (P++r)/\Lo s s' v
 | .nil _ _,G,P,m,_=>by rw[CG];exact⟨m,.refl _ _⟩
 | .ANv _ _ r _ hL,G,P,m,hr=>by
  obtain⟨h1,h2⟩:=hL.post (m.mark (hr v Bw)) λw hw=>hr w (Bq _ hw);rw[B3]at h1;exact⟨h1,(Lo.out _ _).trans h2⟩
 | .new _ _ w r s1 _ qW h0 hV hL,G,P,m,hr=>by
  have hw:=hr w Bw
  have p:=hV.post m.K5 λy hy=>(m.K5.Yb y v hy (m.K5.Wp v Bw) (by
   rcases Bm.1 hy with rfl|hy
   .exact Bg _
   .exact Nat.le_of_lt (m.Jh y hy))).trans (R0.oZ hw)
  obtain⟨h1,h2⟩:=hL.post (m.new hw qW h0 p) λw hw=>hr w (Bq _ hw);rw[B3]at h1;exact⟨h1,(Lo.trans ⟨p.Hi,λu _ hu=>p.AAY u hu⟩ (Lo.KN _ _ _)).trans h2⟩
 | .old _ _ w r _ qW h0 hs hL,G,P,m,hr=>by
  obtain⟨h1,h2⟩:=hL.post (m.KN (w:=w) (Nat.min_le_left _ _) (by
   by_cases c:s.KN v<=s.Ig w
   .rw[C7 c];exact m.pU
   .rw[Nat.min_eq_right AA];exact⟨w,hs,rfl,R0.oZ (hr w Bw)⟩) ⟨h0,λe=>Zq e qW,λ_ _=>Nat.min_le_right _ _⟩) λw hw=>hr w (Bq _ hw)
  rw[B3]at h1;exact⟨h1,(Lo.KN _ _ _).trans h2⟩
 | .done _ _ w r _ qW h0 hs hL,G,P,m,hr=>by
  obtain⟨h1,h2⟩:=hL.post (m.Ie (w:=w) ⟨h0,λe=>Zq e qW,λh=>Zq h hs⟩) λw hw=>hr w (Bq _ hw);rw[B3]at h1;exact⟨h1,h2⟩
end
def tV:w9 g TS.zero []where
 K3 _:=Bg _
 inj _ _ _ h:=Zq rfl h
 TP _ h:=by cases h
 XR:=.nil
 Wp _ h:=by cases h
 done _ h:=Zq rfl h
 eY _ h:=by cases h
 toG _ h:=by cases h
 Yb _ _ h:=by cases h
 sV _ h:=Zq rfl h
 sW _ h:=by cases h
 vp _ h:=by cases h
def A.post{s s':TS}{l:LN}(h:A g s l s'):w9 g s []->w9 g s' []/\(∀u,u∈l->s'.Ig u≠0)/\∀u,s.Ig u≠0->s'.Ig u≠0:=by
 induction h with
 |nil s=>exactλhi=>⟨hi,(λu h=>by cases h),λu h=>h⟩
 |skip s v r s' hv _ ih=>
  intro hi;obtain⟨h1,h2,h3⟩:=ih hi;exact⟨h1,λu hu=>(Bm.1 hu).elim (λe=>e▸h3 v hv) (h2 u),h3⟩
 |go s v r s1 s' hV _ ih=>
  intro hi;have p:=hV.post hi λy hy=>by cases hy
  obtain⟨h1,h2,h3⟩:=ih p.K5;exact⟨h1,λu hu=>(Bm.1 hu).elim (λe=>e▸h3 v p.ANS) (h2 u),λu hu=>h3 u (by rw[p.Hi.Ig u hu];exact hu)⟩
def AAs{l:LN}{s':TS}(h:A g TS.zero l s'){v:Nat}(hv:v∈l):s'.out v=true<->R g v v:=by obtain⟨h1,h2,_⟩:=h.post tV;refine h1.sV v (h2 v hv) λhm=>?_;obtain⟨y,hy,_⟩:=h1.toG v hm;cases hy
end
section
inductive Wk (g:Nat->List Nat) (k:Nat):(Nat->Bool)->List Nat->Bool->Prop
 |nil (sn:Nat->Bool):Wk g k sn [] false
 |Zs (sn:Nat->Bool) (r:List Nat):Wk g k sn (k::r) true
 |lu (sn:Nat->Bool) (v:Nat) (r:List Nat) (b:Bool):v≠k->sn v=true->Wk g k sn r b->Wk g k sn (v::r) b
 |new (sn:Nat->Bool) (v:Nat) (r:List Nat) (b:Bool):v≠k->sn v=false->Wk g k (Pm sn v true) ((g v).reverse++r) b->Wk g k sn (v::r) b
variable{g:Nat->LN} {k:Nat}
def Wk.law{sn:Nat->Bool}{l:LN}{b:Bool}(h:Wk g k sn l b):(∀w,w∈l->R g k w)->(∀x,sn x=true->R g k x)->(∀x,sn x=true->∀w,w∈g x->sn w=true\/w∈l)->(∀w,w∈g k->sn w=true\/w∈l)->sn k=false->(b=true<->R g k k):=by
 induction h with
 |nil sn=>
  intro _ _ h2 h3 h4;refine⟨AcB,λhr=>?_⟩;have hC:∀u,sn u=true->∀w,w∈g u->sn w=true:=λu hu w hw=>(h2 u hu w hw).resolve_right AcB
  have:sn k=true:=by
   cases hr with
   |one _ _ hw=>exact(h3 k hw).resolve_right AcB
   |step _ w _ hw hr=>exact hr.oT hC ((h3 w hw).resolve_right AcB)
  rw[this]at h4;cases h4
 |Zs sn r=>intro h1 _ _ _ _;exact⟨λ_=>h1 k Bw,λ_=>rfl⟩
 |lu sn v r b hv hs _ ih=>
  intro h1 h0 h2 h3 h4;have mv:∀w,(sn w=true\/w∈v::r)->(sn w=true\/w∈r):=λw h=>h.elim .inl λh=>(Bm.1 h).elim (λe=> .inl (e▸hs)) .inr;exact ih (λw hw=>h1 w (Bq _ hw)) h0 (λx hx w hw=>mv w (h2 x hx w hw)) (λw hw=>mv w (h3 w hw)) h4
 |new sn v r b hv hs _ ih=>
  intro h1 h0 h2 h3 h4;have lD:=h1 v Bw
  have up:∀w,sn w=true->Pm sn v true w=true:=λw hw=>by
   by_cases e:w=v
   .rw[e];exact M9 _ _ _
   .rw[L1 _ _ e];exact hw
  have mv:∀w,(sn w=true\/w∈v::r)->(Pm sn v true w=true\/w∈(g v).reverse++r):=λw h=>h.elim (λh=> .inl (up w h)) λh=>(Bm.1 h).elim (λe=> .inl (by rw[e];exact M9 _ _ _)) λh=> .inr (List.mem_append_right _ h);refine ih (λw hw=>?_) (λx hx=>?_) (λx hx w hw=>?_) (λw hw=>mv w (h3 w hw)) (by rw[L1 _ _ λe=>hv e.symm];exact h4)
  .rcases Bf.1 hw with hw|hw
   .exact lD.trans (.one _ _ (List.mem_reverse.1 hw))
   .exact h1 w (Bq _ hw)
  .by_cases e:x=v
   .rw[e];exact lD
   .rw[L1 _ _ e]at hx;exact h0 x hx
  .by_cases e:x=v
   .subst e;exact .inr (List.mem_append_left _ (List.mem_reverse.2 hw))
   .rw[L1 _ _ e]at hx;exact mv w (h2 x hx w hw)
def AAx{b:Bool}(h:Wk g k (λ_=>false) (g k).reverse b):b=true<->R g k k:=h.law (λw hw=> .one _ _ (List.mem_reverse.1 hw)) (λx h=>by cases h) (λx h=>by cases h) (λw hw=> .inr (List.mem_reverse.2 hw)) rfl
end
section
variable{gp gr:Nat->LN} {d:Nat}
structure gg (gp gr:Nat->List Nat) (d:Nat):Prop where
 JS:∀k,k<d->gr k=[]
 LU:∀v w,w∈gp v<->w+d∈gr (v+d)
def gg.up(h:gg gp gr d){a b:Nat}(r:R gp a b):R gr (a+d) (b+d):=by
 induction r with
 |one v w hw=>exact .one _ _ ((h.LU v w).1 hw)
 |step v w x hw _ ih=>exact .step _ _ _ ((h.LU v w).1 hw) ih
def gg.down(h:gg gp gr d){a b:Nat}(r:R gr a b):d<=a->d<=b->R gp (a-d) (b-d):=by
 induction r with
 |one v w hw=>
  intro ha hb;refine .one _ _ ((h.LU _ _).2 ?_);rw[Nat.sub_add_cancel ha,Nat.sub_add_cancel hb];exact hw
 |step v w x hw hr ih=>
  intro ha hb
  have hwd:d<=w:=by
   refine Nat.le_of_not_lt λG7=>?_;have hg:=h.JS w G7;cases hr with
   |one _ _ hx=>rw[hg]at hx;cases hx
   |step _ _ _ hx _=>rw[hg]at hx;cases hx
  refine .step _ (w-d) _ ((h.LU _ _).2 ?_) (ih hwd hb);rw[Nat.sub_add_cancel ha,Nat.sub_add_cancel hwd];exact hw
def gg.SZ(h:gg gp gr d)(v:Nat):R gp v v<->R gr (v+d) (v+d):=⟨h.up,λr=>by have:=h.down r (Nat.le_add_left _ _) (Nat.le_add_left _ _);rwa [Nat.add_sub_cancel]at this⟩
def R.sub{g g':Nat->LN}(h:∀v w,w∈g v->w∈g' v){a b:Nat}(r:R g a b):R g' a b:=by
 induction r with
 |one v w hw=>exact .one _ _ (h v w hw)
 |step v w x hw _ ih=>exact .step _ _ _ (h v w hw) ih
end
section
def left(p:Nat->Bool):Nat->Nat
 |0=>0
 |n+1=>left p n+(bif p n then 0 else 1)
def pS{p q:Nat->Bool}(h:∀u,p u=true->q u=true):∀n,left q n<=left p n
 |0=>Bg _
 |n+1=>by
  have:=pS h n;simp only[left];cases hp:p n with
  |true=>rw[h n hp];simpa using this
  |false=>cases q n<;>simp<;>omega
def YB{p q:Nat->Bool}(h:∀u,p u=true->q u=true){v:Nat}(hp:p v=false)(hq:q v=true):∀n,v<n->left q n<left p n
 |n+1,hv=>by
  simp only[left];by_cases e:v=n
  .subst e;have:=pS h v;rw[hp,hq];simp;omega
  .have:=YB h hp hq n AA;cases Js:p n with
   |true=>rw[h n Js];simpa using this
   |false=>cases q n<;>simp<;>omega
variable{g:Nat->LN} {n:Nat}
def Wk.ex(hg:∀v w,v<n->w∈g v->w<n)(k:Nat):∀(m:Nat) (sn:Nat->Bool),left sn n=m->∀l:LN,(∀w,w∈l->w<n)->∃b,Wk g k sn l b:=by
 intro m
 induction m using Nat.strongRecOn with
 |ind m ih=>
  intro sn hm l
  induction l with
  |nil=>exactλ_=>⟨false,.nil sn⟩
  |cons v r ihl=>
   intro hl;by_cases e:v=k
   .subst e;exact⟨true,.Zs sn r⟩
   .cases hs:sn v with
    |true=>
     obtain⟨b,hb⟩:=ihl λw hw=>hl w (Bq _ hw);exact⟨b,.lu sn v r b e hs hb⟩
    |false=>
     have hv:=hl v Bw
     have G7:left (Pm sn v true) n<m:=by
      rw[<- hm];refine YB (λu hu=>?_) hs (M9 _ _ _) n hv;by_cases e:u=v
      .rw[e];exact M9 _ _ _
      .rw[L1 _ _ e];exact hu
     obtain⟨b,hb⟩:=ih _ G7 _ rfl ((g v).reverse++r) λw hw=>by
      rcases Bf.1 hw with hw|hw
      .exact hg v w hv (List.mem_reverse.1 hw)
      .exact hl w (Bq _ hw)
     exact⟨b,.new sn v r b e hs hb⟩
def TS.qQ(s:TS)(u:Nat):Bool:=decide (s.Ig u≠0)
def Ul{s:TS}{u:Nat}:s.qQ u=true<->s.Ig u≠0:=by simp[TS.qQ]
def V.ex(hg:∀v w,v<n->w∈g v->w<n):∀(m:Nat) (s:TS),left s.qQ n<=m->(∀v,v<n->s.Ig v=0->∃s',V g s v s'/\∀u,s.Ig u≠0->s'.Ig u≠0):=by
 intro m
 induction m with
 |zero=>
  intro s hm v hv h0;have:=YB (p:=s.qQ) (q:=λu=>s.qQ u||decide (u=v)) (λu hu=>by simp[hu]) Aa8 AD n hv;omega
 |succ m ih=>
  intro s hm v hv h0
  have loop:∀(r:LN),(∀w,w∈r->w<n)->∀s1:TS,left s1.qQ n<=m->∃s',L g s1 v r s'/\∀u,s1.Ig u≠0->s'.Ig u≠0:=by
   intro r
   induction r with
   |nil=>exactλ_ s1 _=>⟨s1,.nil s1 v,λ_ h=>h⟩
   |cons w r ihr=>
    intro hr s1 h1;have PU:∀u,u∈r->u<n:=λu hu=>hr u (Bq _ hu);by_cases e:w=v
    .subst e;obtain⟨s',h2,h3⟩:=ihr PU {s1 with out:=Pm s1.out w true} h1;exact⟨s',.ANv s1 w r s' h2,h3⟩
    .by_cases hw0:s1.Ig w=0
     .obtain⟨s2,h2,h3⟩:=ih s1 h1 w (hr w Bw) hw0;have hle:left s2.qQ n<=left s1.qQ n:=pS (λu hu=>Ul.2 (h3 u (Ul.1 hu))) n;obtain⟨s',h4,h5⟩:=ihr PU {s2 with KN:=Pm s2.KN v (min (s2.KN v) (s2.KN w))} (CN hle h1);exact⟨s',.new s1 v w r s2 s' e hw0 h2 h4,λu hu=>h5 u (h3 u hu)⟩
     .by_cases hs:w∈s1.Ku
      .obtain⟨s',h2,h3⟩:=ihr PU {s1 with KN:=Pm s1.KN v (min (s1.KN v) (s1.Ig w))} h1;exact⟨s',.old s1 v w r s' e hw0 hs h2,h3⟩
      .obtain⟨s',h2,h3⟩:=ihr PU s1 h1;exact⟨s',.done s1 v w r s' e hw0 hs h2,h3⟩
  have hk:∀u,s.Ig u≠0->(s.enter v).Ig u≠0:=λu hu=>by
   rw[(Uh h0).Ig u hu];exact hu
  have G7:left (s.enter v).qQ n<left s.qQ n:=YB (λu hu=>Ul.2 (hk u (Ul.1 hu))) Aa8 (by
   rw[Ul];show Pm s.Ig v (s.K3+1) v≠0;simp) n hv
  obtain⟨s1,h1,h2⟩:=loop (g v) (λw hw=>hg v w hv hw) (s.enter v) AA;refine⟨s1.VQ v,.mk s v s1 h0 h1,λu hu=>?_⟩;have:(s1.VQ v).Ig=s1.Ig:=by unfold TS.VQ;split<;>rfl
  rw[this];exact h2 u (hk u hu)
def A.ex(hg:∀v w,v<n->w∈g v->w<n):∀(l:LN),(∀v,v∈l->v<n)->∀s:TS,∃s',A g s l s'
 |[],_,s=>⟨s,.nil s⟩
 |v::r,hl,s=>by
  have hr:∀u,u∈r->u<n:=λu hu=>hl u (Bq _ hu);by_cases h0:s.Ig v=0
  .obtain⟨s1,h1,_⟩:=V.ex hg _ s (Bg _) v (hl v Bw) h0;obtain⟨s',h2⟩:=A.ex hg r hr s1;exact⟨s',.go s v r s1 s' h1 h2⟩
  .obtain⟨s',h2⟩:=A.ex hg r hr s;exact⟨s',.skip s v r s' h0 h2⟩
end
end Go.Ti
namespace Go.Vi
section
open Go.Proofs Go.Ti
def XH(f:Nat->Nat)(n:Nat):LP:=(CS n).map λi=> .int .i64 (f i)
theorem kN{f:Nat->Nat}{n:Nat}:(XH f n).length=n:=by simp[XH]
theorem S7{f:Nat->Nat}{n v:Nat}(h:v<n):(XH f n)[v]?=some (.int .i64 (f v)):=by simp[XH,h]
theorem kO{f:Nat->Nat}{n v x:Nat}:(XH f n).set v (.int .i64 x)=XH (Pm f v x) n:=by refine DK λi=>?_;unfold XH Pm;exact AeR
def ABd(N:Nat):LP:=[.GN (N+10) 0,.GN (N+3) 0,.GN (N+4) 0,.GN (N+9) 0,.GN (N+6) 0,.GN N 0,.GN (N+8) 0,.GN (N+11) 0]
structure Fix (s:St) (g:Gr) (n N:Nat):Prop where
 gs:GS s g
 lt:∀b,b∈g.H2->b<N
 gb:s.heap N=some (.box [.GN g.gp 0])
 nb:s.heap (N+3)=some (.box [.ME (N+1) n])
 lb:s.heap (N+4)=some (.box [.ME (N+2) n])
 ob:s.heap (N+6)=some (.box [.map (N+5)])
 ub:s.heap (N+8)=some (.box [.map (N+7)])
 vb:s.heap (N+11)=some (.box [.fn 47 (ABd N)])
theorem Fix.Hi{s s':St}{g:Gr}{n N:Nat}(h:Fix s g n N)(hk:∀b,b<N+12->b≠N+1->b≠N+2->b≠N+5->b≠N+7->b≠N+9->b≠N+10->s'.heap b=s.heap b):Fix s' g n N:=⟨h.gs.Hi λb hb=>by have:=h.lt b hb;exact hk b AA AA AA AA AA AA AA,h.lt,(hk _ AA AA AA AA AA AA AA).trans h.gb,(hk _ AA AA AA AA AA AA AA).trans h.nb,(hk _ AA AA AA AA AA AA AA).trans h.lb,(hk _ AA AA AA AA AA AA AA).trans h.ob,(hk _ AA AA AA AA AA AA AA).trans h.ub,(hk _ AA AA AA AA AA AA AA).trans h.vb⟩
structure ga (M:ML) (p:Nat->Prop):Prop where
 NM:M.all (λp=>(BV 0).NM p.1)=true
 nd:(M.map CO).Nodup
 is:∀u:Nat,(p u->IQ (.i u) M=some 1)/\(¬p u->IQ (.i u) M=none)
theorem yQ{n i:Int}:∀{M:ML},(M.map CO).Nodup->((Mv (.i n) i M).map CO).Nodup/\∀k,k∈(Mv (.i n) i M).map CO->k=.i n\/k∈M.map CO
 |[],_=>⟨by simp[Mv],λk h=>by simp[Mv]at h;exact .inl h⟩
 |(k,v)::r,h=>by
  simp only[DE,CP]at h;unfold Mv;cases hk:BH (.i n) k with
  |true=>
   have:=dw hk;subst this;simp only[cond_true,DE,CP];exact⟨h,λk hk=> .inr hk⟩
  |false=>
   have Kk:BV n≠k:=by rintro rfl;rw[XC]at hk;cases hk
   obtain⟨h1,h2⟩:=yQ (n:=n) (i:=i) h.2;simp only[cond_false,DE,CP,Bm];refine⟨⟨λhm=>?_,h1⟩,λk' Rm=>?_⟩
   .rcases h2 _ hm with h3|h3
    .exact Kk h3.symm
    .exact h.1 h3
   .rcases Rm with rfl|Rm
    .exact .inr (.inl rfl)
    .exact(h2 _ Rm).imp id .inr
theorem ga.put{M:ML}{p:Nat->Prop}(h:ga M p)(v:Nat){q:Nat->Prop}(hq:∀u,q u<->u=v\/p u):ga (Mv (.i v) 1 M) q:=by
 refine⟨m5 h.NM,(yQ h.nd).1,λu=>?_⟩
 .rw[kG,hq u];by_cases c:u=v
  .subst c;simp
  .have:¬(u:Int)=v:=AA;rw[Ng this];simp only[c,false_or];exact h.is u
theorem kF{n:Int}:∀{M:ML},.i n∉M.map CO->IQ (.i n) M=none
 |[],_=>rfl
 |(k,v)::r,h=>by
  simp only[DE,Bm,not_or]at h;unfold IQ;cases hk:BH (.i n) k with
  |true=>exact Zq (dw hk).symm h.1
  |false=>exact kF h.2
theorem kD{n:Int}:∀{M:ML},(M.map CO).Nodup->M.all (λp=>(BV 0).NM p.1)=true->(SD (.i n) M).all (λp=>(BV 0).NM p.1)=true/\((SD (.i n) M).map CO).Nodup/\(∀k,k∈(SD (.i n) M).map CO->k∈M.map CO)/\∀m:Int,IQ (.i m) (SD (.i n) M)=if m=n then none else IQ (.i m) M
 |[],_,_=>⟨rfl,.nil,λk h=>AbB,λm=>by simp[SD,IQ]⟩
 |(k,v)::r,hn,ha=>by
  simp only[DE,CP]at hn;simp only[Co,Bo]at ha;unfold SD;cases hk:BH (.i n) k with
  |true=>
   have:=dw hk;subst this;refine⟨ha.2,hn.2,λk h=>by simp only[cond_true]at h;simp[h],λm=>?_⟩;simp only[cond_true];by_cases c:m=n
   .subst c;rw[Ps rfl];exact kF hn.1
   .rw[Ng c];simp only[IQ,vT c,cond_false]
  |false=>
   have Kk:BV n≠k:=by rintro rfl;rw[XC]at hk;cases hk
   obtain⟨h1,h2,h3,h4⟩:=kD (n:=n) hn.2 ha.2;simp only[cond_false,Co,ha.1,h1,Bool.and_self,DE,CP,true_and];refine⟨⟨λh=>hn.1 (h3 _ h),h2⟩,λk' h=>?_,λm=>?_⟩
   .rcases Bm.1 h with rfl|h
    .exact Bw
    .exact Bq _ (h3 _ h)
   .simp only[IQ];cases hm:BH (.i m) k with
    |true=>
     have:=dw hm;subst this;have:¬m=n:=by rintro rfl;exact Kk rfl
     simp[this]
    |false=>simp only[cond_false];exact h4 m
theorem ga.del{M:ML}{p:Nat->Prop}(h:ga M p)(v:Nat){q:Nat->Prop}(hq:∀u,q u<->u≠v/\p u):ga (SD (.i v) M) q:=by
 obtain⟨h1,h2,_,h4⟩:=kD (n:=v) h.nd h.NM;refine⟨h1,h2,λu=>?_⟩;rw[h4,hq u];by_cases c:u=v
 .subst c;simp
 .have:¬(u:Int)=v:=AA;rw[Ng this];simp only[c,ne_eq,not_false_eq_true,true_and];exact h.is u
def Stk(s:St)(N:Nat)(kv:PV)(l:LN):Prop:=(kv=.nil/\l=[])\/∃sa cells,kv=.ME sa l.length/\N+12<=sa/\s.heap sa=some (.K7 1 cells)/\l.length<=cells.length/\cells.take l.length=l.reverse.map λu=> .int .i64 (u:Nat)
theorem Stk.Hi{s s':St}{N:Nat}{kv:PV}{l:LN}(h:Stk s N kv l)(hk:∀b,N+12<=b->s.heap b≠none->s'.heap b=s.heap b):Stk s' N kv l:=h.imp id λ⟨sa,cells,h1,h2,h3,h4,h5⟩=>⟨sa,cells,h1,h2,(hk sa h2 AbO).trans h3,h4,h5⟩
structure Zo (s:St) (g:Gr) (n N:Nat) (t:Ti.TS):Prop where
 fix:Fix s g n N
 Iv:Gm s
 Ig:s.heap (N+1)=some (.K7 1 (XH t.Ig n))
 KN:s.heap (N+2)=some (.K7 1 (XH t.KN n))
 on:∃M,s.heap (N+5)=some (.map M)/\ga M λu=>u∈t.Ku
 out:∃M,s.heap (N+7)=some (.map M)/\ga M λu=>t.out u=true
 Ku:∃kv,s.heap (N+9)=some (.box [kv])/\Stk s N kv t.Ku
 K3:s.heap (N+10)=some (.box [.int .i64 t.K3])
 bnd:t.K3+left t.qQ n<=n
 stl:t.Ku.length<=t.K3
 lts:∀u,u∈t.Ku->u<n
theorem Zo.lt{s:St}{g:Gr}{n N:Nat}{t:Ti.TS}(h:Zo s g n N t):N+11<s.next:=Gu h.Iv h.fix.vb
theorem Zo.Iw{s s':St}{g:Gr}{n N:Nat}{t:Ti.TS}(h:Zo s g n N t){b:Nat}{o:Obj}(hb:s.heap b≠none):HT s (s.set b o):=IV hb
section
variable{s:St} {g:Gr} {n N:Nat} {t:Ti.TS} (h:Zo s g n N t)
include h
theorem Zo.AEt{v x:Nat}:Zo (s.set (N+2) (.K7 1 (XH (Pm t.KN v x) n))) g n N {t with KN:=Pm t.KN v x}:=⟨h.fix.Hi λb _ _ h1 _ _ _ _=>Ar h1,Hx h.Iv (by rw[h.KN];simp),(Ar AA).trans h.Ig,A4,h.on.imp λM h=>⟨(Ar AA).trans h.1,h.2⟩,h.out.imp λM h=>⟨(Ar AA).trans h.1,h.2⟩,h.Ku.imp λkv h=>⟨(Ar AA).trans h.1,h.2.Hi λb hb _=>Ar AA⟩,(Ar AA).trans h.K3,h.bnd,h.stl,h.lts⟩
theorem Zo.AEu{M:ML}{p:Nat->Bool}(hM:ga M λu=>p u=true):Zo (s.set (N+7) (.map M)) g n N {t with out:=p}:=⟨h.fix.Hi λb _ _ _ _ h1 _ _=>Ar h1,Hx h.Iv (by obtain⟨M,h1,_⟩:=h.out;rw[h1];simp),(Ar AA).trans h.Ig,(Ar AA).trans h.KN,h.on.imp λM h=>⟨(Ar AA).trans h.1,h.2⟩,⟨M,A4,hM⟩,h.Ku.imp λkv h=>⟨(Ar AA).trans h.1,h.2.Hi λb hb _=>Ar AA⟩,(Ar AA).trans h.K3,h.bnd,h.stl,h.lts⟩
end
end
attribute [local irreducible] H0 HR Gp Ht Gf Hu GJ GM Gc HK HC JI G6 Hs Hq Ho JZ Jd Ip JN JW G2 Gq Hb pQ I2 Ic Gn Gb Gs HA HZ H8 Int.instDecidableEq Int.decEq instBEqOfDecidableEq IY II Ia Jq HF HH HN pC Nm OJ Jz Jc
section
open Go.Proofs Go.Ti
def AIN{s:St}(hf:Gm s){N:Nat}(hN:N+12<=s.next){kv:PV}{l:LN}(h:Stk s N kv l)(hl:l.length<=100000)(v:Nat):
  ∃s' wr,H8 (II 1 8 kv (.GV [[.int .i64 v]])) s (.ME s.next (l.length+1)) s' [] wr/\(∀b,b<N+12->s'.heap b=s.heap b)/\Stk s' N (.ME s.next (l.length+1)) (v::l)/\Gm s'/\HT s s':=by
 rcases h with⟨rfl,rfl⟩|⟨sa,cells,rfl,h2,h3,h4,h5⟩
 .refine⟨s.new (.K7 1 [.int .i64 v]),[],pf (x:=.GV [[.int .i64 v]]) (GG:=[.int .i64 v]) (xs:=[]) rfl rfl (Jf AD AL) rfl,λb hb=>Av rfl AA,.inr ⟨s.next,[.int .i64 v],rfl,hN,St.Kr,AD,AD⟩,Hh hf,H9⟩
 .have G7:=Gu hf h3;refine⟨(s.set sa .KV).new (.K7 1 (cells.take (l.length*1)++[[BD .i64 v]].flatten)),[sa],vm (n:=l.length) (x:=.GV [[.int .i64 v]]) (xs:=[[.int .i64 v]]) rfl rfl (Jf AB AL) h3 AA rfl,λb hb=>(Av (s:=s.set sa .KV) (n:=s.next) rfl AA).trans (Ar AA),.inr ⟨s.next,_,rfl,hN,Az (s:=s.set sa .KV) rfl,?_,?_⟩,Hh (Hx hf AbO),(IV AbO).trans H9⟩
  .simp;omega
  .rw[Nat.mul_one,h5,CE,List.reverse_cons,Bu];exact Cc AD
def AHu(a b:Nat):(if(b:Int)<(a:Int)then(b:Int)else(a:Int))=((min a b:Nat):Int):=by
 split
 .rw[Nat.min_eq_right AA]
 .rw[C7 AA]
variable{g:Gr} {n N:Nat}
def yM{s:St}{t:Ti.TS}(h:Zo s g n N t){v w cb ca:Nat}{f:Nat->Nat}(hv:v<n)(hw:w<n)(hc:s.heap cb=some (.box [.ME ca n]))(hca:s.heap ca=some (.K7 1 (XH f n))){K:F0}(hK:K (s.set (N+2) (.K7 1 (XH (Pm t.KN v (min (t.KN v) (f w))) n)))):
  (dS (IS (.GN (N+4) 0) λq=>dV (IS (.GN (N+4) 0) λr=>dV (MF 1 r (.int .i64 v) λr=>IS r λr=>IS (.GN cb 0) λt=>dV (MF 1 t (.int .i64 w) λt=>IS t λt=>ACK r t λr=>MF 1 q (.int .i64 v) λq=>KC 1 r q λ_=>dE [0,0,0,0,12,28,0,0,192,448,1020,2047,4095] K))))) s:=by
 refine GR AdP ?_;refine GR AdP ?_;refine GR (Jt AA AA) ?_;refine GR Ack ?_;refine GR (GH hc rfl) ?_;refine GR (Jt AA AA) ?_;refine GR (KJ hca (v:=.int .i64 (f w)) (by simpa using S7 hw)) ?_;refine GR AEQ ?_;refine GR (Jt AA AA) ?_;refine GR (T3 h.KN rfl Aa9) ?_;rw[AHu,Cj,kO];refine⟨?_,hK⟩;simp[Hl,IA,Iy,H2];exact⟨Ix AF,by kernel_rfl,Ix AF,Ix AF⟩
def uu{s:St}{t:Ti.TS}(h:Zo s g n N t)(hn:n<=100000){v:Nat}(hv:v<n)(h0:t.Ig v=0){p:OLI}(hgn:g.os.length=n)(hp:g.os[v]?=some p){Q:F1}
  (hK:∀s',Zo s' g n N (t.enter v)->∃m,PO (.Hw .Jh) Q m (.int .i64 v) (.GN (N+3) 0) (.GN (N+4) 0) (.GN (N+9) 0) (.GN (N+6) 0) (.GN (N+8) 0) (.GN (N+11) 0) (Hk p) (.int .i64 p.2.length) (.int .i64 0) s'):
  g47 (.Hw .Jh) Q (.int .i64 v) (.GN (N+10) 0) (.GN (N+3) 0) (.GN (N+4) 0) (.GN (N+9) 0) (.GN (N+6) 0) (.GN N 0) (.GN (N+8) 0) (.GN (N+11) 0) s:=by
 have hb:=h.bnd;have La:=h.stl;have G7:=h.lt;obtain⟨s1,Kq⟩:∃s1,s1=s.set (N+10) (.box [.int .i64 ((t.K3+1:Nat):Int)]):=⟨_,rfl⟩
 obtain⟨s2,JY⟩:∃s2,s2=s1.set (N+1) (.K7 1 (XH (Pm t.Ig v (t.K3+1)) n)):=⟨_,rfl⟩
 obtain⟨s3,Ra⟩:∃s3,s3=s2.set (N+2) (.K7 1 (XH (Pm t.KN v (t.K3+1)) n)):=⟨_,rfl⟩
 have LX:∀b,b≠N+10->s1.heap b=s.heap b:=λb hb=>by rw[Kq,Ar hb]
 have ZI:s1.heap (N+10)=some (.box [.int .i64 ((t.K3+1:Nat):Int)]):=by rw[Kq];exact A4
 have gI:∀b,b≠N+10->b≠N+1->b≠N+2->s3.heap b=s.heap b:=λb h1 h2 h3=>by rw[Ra,Ar h3,JY,Ar h2,LX b h1]
 have Tl:Gm s3:=by
  rw[Ra,JY,Kq];refine Hx (Hx (Hx h.Iv (by rw[h.K3];simp)) ?_) ?_
  .rw[<- Kq,LX _ AA,h.Ig];simp
  .rw[<- Kq,<- JY,JY,Ar AA,LX _ AA,h.KN];simp
 have hn3:s3.next=s.next:=by rw[Ra,JY,Kq];rfl
 obtain⟨kv,lD,I0⟩:=h.Ku;obtain⟨s4,wr,a1,a2,a3,a4,a5⟩:=AIN Tl (N:=N) AA (I0.Hi (s':=s3) λb hb _=>gI b AA AA AA) AA v;obtain⟨s5,hs5⟩:∃s5,s5=s4.set (N+9) (.box [.ME s3.next (t.Ku.length+1)]):=⟨_,rfl⟩
 have me:∀b,b<N+12->b≠N+10->b≠N+1->b≠N+2->s4.heap b=s.heap b:=λb h0 h1 h2 h3=>(a2 b h0).trans (gI b h1 h2 h3);have AQ9:s4.heap (N+9)=some (.box [kv]):=(me _ AA AA AA AA).trans lD;obtain⟨M,xt,rM⟩:=h.on;obtain⟨s6,te⟩:∃s6,s6=s5.set (N+5) (.map (Mv (.i v) 1 M)):=⟨_,rfl⟩
 have hk6:∀b,b<N+12->b≠N+10->b≠N+1->b≠N+2->b≠N+9->b≠N+5->s6.heap b=s.heap b:=λb h0 h1 h2 h3 h4 h5=>by rw[te,Ar h5,hs5,Ar h4,me b h0 h1 h2 h3]
 have hf6:Gm s6:=by
  rw[te,hs5];refine Hx (Hx a4 (by rw[AQ9];simp)) ?_;rw[Ar AA,me _ AA AA AA AA,xt];simp
 have h6:∀b,b≠N+5->b≠N+9->s6.heap b=s4.heap b:=λb h1 h2=>by rw[te,Ar h1,hs5,Ar h2]
 have hR:Zo s6 g n N (t.enter v):=by
  refine⟨h.fix.Hi λb b0 b1 b2 b3 b4 b5 b6=>hk6 b b0 b6 b1 b2 b5 b3,hf6,?_,?_,⟨_,by rw[te];exact A4,rM.put v λu=>by simp[TS.enter]⟩,h.out.imp λM' h'=>⟨(hk6 _ AA AA AA AA AA AA).trans h'.1,h'.2⟩,⟨_,by rw[te,Ar AA,hs5];exact A4,a3.Hi λb hb _=>h6 b AA AA⟩,?_,?_,?_,?_⟩
  .rw[h6 _ AA AA,a2 _ AA,Ra,Ar AA,JY];exact A4
  .rw[h6 _ AA AA,a2 _ AA,Ra];exact A4
  .rw[h6 _ AA AA,a2 _ AA,Ra,Ar AA,JY,Ar AA];exact ZI
  .have:=YB (p:=t.qQ) (q:=(t.enter v).qQ) (λu hu=>by
    rw[Ul]at hu⊢;show Pm t.Ig v (t.K3+1) u≠0;unfold Pm;split
    .omega
    .exact hu) (v:=v) Aa8 (by rw[Ul];show Pm t.Ig v (t.K3+1) v≠0;rw[M9];omega) n hv
   show t.K3+1+left (t.enter v).qQ n<=n;omega
  .show t.Ku.length+1<=t.K3+1;omega
  .intro u hu;rcases Bm.1 hu with rfl|hu
   .exact hv
   .exact h.lts u hu
 obtain⟨ob,mn,lX⟩:=hR.fix.gs.RD (v:=v) (by rw[hgn];exact hv);unfold g47;refine Fy (GH h.K3 rfl) ?_;refine Fy AbS ?_;rw[show(t.K3:Int)+1=((t.K3+1:Nat):Int) by omega];refine Fy (KD h.K3 rfl rfl rfl) ?_;rw[show([BD .i64 (t.K3:Int)].set 0 (.int .i64 ((t.K3+1:Nat):Int)))=[.int .i64 ((t.K3+1:Nat):Int)]from rfl,<- Kq];refine GR (GH ((LX _ AA).trans h.fix.nb) rfl) ?_;refine GR (GH ((LX _ AA).trans h.fix.lb) rfl) ?_;refine GR (GH ZI rfl) ?_;refine GR (GH ZI rfl) ?_;refine GR (Jt AA AA) ?_;refine GR (T3 ((LX _ AA).trans h.Ig) rfl Aa9) ?_;rw[Cj,kO,<- JY];refine GR (Jt AA AA) ?_;refine GR (T3 (cs:=XH t.KN n) (by rw[JY,Ar AA];exact(LX _ AA).trans h.KN) rfl Aa9) ?_;rw[Cj,kO,<- Ra];refine⟨?_,?_⟩
 .have fT:s1.next=s.next:=by rw[Kq];rfl
  simp[Hl,IA,Iy,H2];exact⟨⟨λ_ _=>by omega,Ix AF,λ_ _=>by omega⟩,Ix AF,Ix AF,Ix AF,Ix AF⟩
 refine Fy (GH ((gI _ AA AA AA).trans lD) rfl) ?_;refine Fy (vl (GK:=[[.int .i64 v]]) rfl) ?_;refine Fy a1 ?_;refine Fy (KD AQ9 rfl rfl rfl) ?_;rw[show([kv].set 0 (.ME s3.next (t.Ku.length+1)))=[.ME s3.next (t.Ku.length+1)]from rfl,<- hs5];have hk5:∀b,b<N+12->b≠N+10->b≠N+1->b≠N+2->b≠N+9->s5.heap b=s.heap b:=λb h0 h1 h2 h3 h4=>by rw[hs5,Ar h4,me b h0 h1 h2 h3]
 refine Fy (GH ((hk5 _ AA AA AA AA AA).trans h.fix.ob) rfl) ?_;refine Fy (yb rfl (j8 v) ((hk5 _ AA AA AA AA AA).trans xt) (j4 rM.NM)) ?_;rw[<- te];refine Fy (GH hR.fix.gb rfl) ?_;refine Fy Kl ?_;refine Fy Hj ?_;refine Fy (GH hR.fix.gs.box rfl) ?_;rw[mn];refine Fy (Jt AA AB) ?_;refine Fy AcY ?_;refine Fy (H5 (NY (hR.fix.gs.HE p (Bn hp)))) ?_;rw[MC];exact hK s6 hR
end
section
open Go.Proofs Go.Ti
variable{g:Gr} {n N:Nat}
def Stk.GY{s:St}{kv:PV}{l:LN}(h:Stk s N kv l){k u:Nat}(hk:l[k]?=some u):∃sa cells,kv=.ME sa l.length/\s.heap sa=some (.K7 1 cells)/\cells[l.length-1-k]?=some (.int .i64 (u:Nat)):=by
 have fQ:=(Bp.1 hk).1;rcases h with⟨rfl,rfl⟩|⟨sa,cells,h1,h2,h3,h4,h5⟩
 .simp at fQ
 .refine⟨sa,cells,h1,h3,?_⟩;have h6:(cells.take l.length)[l.length-1-k]?=(l.reverse.map λu=>BD .i64 (u:Nat))[l.length-1-k]?:=by rw[h5]
  rw[DI AA,CV,List.getElem?_reverse AA]at h6;rw[h6,show l.length-1-(l.length-1-k)=k by omega,hk];rfl
def AKC{a b:Nat}{s:St}(h:b<=a)(h2:a<=1000000000):H8 (HC BZ .sub 3 (.int .i64 (a:Nat)) (.int .i64 (b:Nat))) s (.int .i64 ((a-b:Nat):Int)) s [] []:=Gt (by
 show some (BD .i64 (IntKind.i64.wrap _))=_;rw[HB AA AA,show(a:Int)-(b:Int)=((a-b:Nat):Int) by omega])
def AA2{s:St}{t:Ti.TS}(h:Zo s g n N t)(hn:n<=100000){v:Nat}{Q:F1}{op up:PV}:∀(A:LN) {C B:LN},t.Ku=C++(A++v::B)->v∉A->
  o6 (.Hw .Jh) Q (.GN (N+9) 0) op up (.int .i64 (C.length+A.length:Nat)) s->
  Xs (.Hw .Jh) Q (A.length+1) (.int .i64 v) (.GN (N+9) 0) op up (.int .i64 C.length) (.int .i64 ((t.Ku.length:Int)-1-C.length)) s:=by
 obtain⟨kv,lD,I0⟩:=h.Ku;have hb:=h.bnd;have hs:=h.stl;intro A
 induction A with
 |nil=>
  intro C B ht hv hK;have HM:t.Ku.length=C.length+(1+B.length):=by rw[ht];simp;omega
  obtain⟨sa,cells,rfl,h3,h4⟩:=I0.GY (k:=C.length) (u:=v) AZl;unfold Xs bA;refine Fy Acr ?_;refine Fy (Jt AA AA) ?_;refine Fy (KJ h3 AP) ?_;refine Fy (Gt (v:=.bool false) (by show some (PV.bool _)=_;simp)) ?_;refine cf ?_;exact hK
 |cons u A ih=>
  intro C B ht hv hK;have HM:t.Ku.length=C.length+(A.length+(2+B.length)):=by rw[ht];simp;omega
  obtain⟨sa,cells,ADH,h3,h4⟩:=I0.GY (k:=C.length) (u:=u) AZl;subst ADH;have huv:u≠v:=λe=>hv (by simp[e]);show bA (.Hw .Jh) Q (Xs (.Hw .Jh) Q (A.length+1)) _ _ _ _ _ _ s;unfold bA;refine Fy Acr ?_;refine Fy (Jt AA AA) ?_;refine Fy (KJ h3 AP) ?_
  refine Fy (Gt (v:=.bool true) (by
   show some (PV.bool (!((u:Int)==(v:Int))))=_;rw[show((u:Int)==(v:Int))=false by simp;omega];rfl)) ?_
  refine ct ?_;refine Fy AbS ?_;refine Fy Il ?_
  refine Fy (Gt (v:=.int .i64 ((t.Ku.length:Int)-1-C.length-1)) (by
   show some (BD .i64 (IntKind.i64.wrap _))=_;rw[HB AA AA])) ?_
  refine Fy Il ?_;have:=ih (C:=C++[u]) (B:=B) (by rw[ht];simp) (λhm=>hv (by simp[hm])) (by rw[show(C++[u]).length+A.length=C.length+(u::A).length by simp;omega];exact hK);rw[show((C++[u]).length:Int)=(C.length:Int)+1 by simp,show(t.Ku.length:Int)-1-((C.length:Int)+1)=(t.Ku.length:Int)-1-C.length-1 by omega]at this;exact this
def Zo.pop{s:St}{t:Ti.TS}(h:Zo s g n N t){w:Nat}{r:LN}(ht:t.Ku=w::r)(hw:w∉r){sa:Nat}(hk:s.heap (N+9)=some (.box [.ME sa t.Ku.length])){M:ML}(hM:s.heap (N+5)=some (.map M))(rM:ga M λu=>u∈t.Ku):
  Zo ((s.set (N+9) (.box [.ME sa r.length])).set (N+5) (.map (SD (.i w) M))) g n N {t with Ku:=r}:=by
 obtain⟨kv,lD,I0⟩:=h.Ku;rw[hk]at lD;cases lD;have h6:∀b,b≠N+5->b≠N+9->((s.set (N+9) (.box [.ME sa r.length])).set (N+5) (.map (SD (.i w) M))).heap b=s.heap b:=λb h1 h2=>(Ar h1).trans (Ar h2);have La:=h.stl;refine⟨h.fix.Hi λb _ _ _ h1 _ h2 _=>h6 b h1 h2,Hx (Hx h.Iv (by rw[hk];simp)) (by rw[Ar AA,hM];simp),(h6 _ AA AA).trans h.Ig,(h6 _ AA AA).trans h.KN,⟨_,A4,rM.del w λu=>?_⟩,h.out.imp λM' h'=>⟨(h6 _ AA AA).trans h'.1,h'.2⟩,⟨_,(Ar AA).trans A4,?_⟩,(h6 _ AA AA).trans h.K3,h.bnd,?_,λu hu=>h.lts u (by rw[ht];simp[show u∈r from hu])⟩
 .show u∈r<->_;rw[ht];constructor
  .intro hu;exact⟨λe=>hw (e▸hu),by simp[hu]⟩
  .rintro⟨h1,h2⟩;exact(Bm.1 h2).resolve_left h1
 .rcases I0 with⟨h1,_⟩|⟨sa',cells,h1,h2,h3,h4,h5⟩
  .cases h1
  .cases h1;rw[ht,CE]at h4;rw[ht,CE,List.reverse_cons,Bu]at h5;refine .inr ⟨sa,cells,rfl,h2,(h6 _ AA AA).trans h3,by show r.length<=_;omega,?_⟩;have h7:=congrArg (List.take r.length) h5;rw[List.take_take,C7 AA,D7 AD]at h7;exact h7
 .show r.length<=t.K3;rw[ht,CE]at La;omega
def sY(hn:n<=100000){size tM:Nat}(vO:tM<=100000){B:LN}{Q:F1}:∀(A:LN) {s:St} {t:Ti.TS} (h:Zo s g n N t) {k:Nat},t.Ku=A++B->(A++B).Nodup->tM=k+A.length->
  (∀s',Zo s' g n N {t with Ku:=B,out:=λu=>t.out u||(decide (u∈A)&&decide (0<size))}->Q (.tuple []) s')->Wm (.Hw .Jh) Q (A.length+1) (.GN (N+9) 0) (.GN (N+6) 0) (.GN (N+8) 0) (.int .i64 size) (.int .i64 tM) (.int .i64 k) s
 |[],s,t,h,k,ht,KO,hk,hQ=>by
  unfold Wm o7;refine Fy (Gt (Nt (by simp at hk;omega))) ?_;refine cf ?_;refine L5 rfl (hQ s ?_)
  have:({t with Ku:=B,out:=λu=>t.out u||(decide (u∈([]:LN))&&decide (0<size))}:Ti.TS)=t:=by
   obtain⟨a,b,c,d,e⟩:=t;simp only[CC]at ht;simp[ht]
  rw[this];exact h
 |w::A,s,t,h,k,ht,KO,hk,hQ=>by
  have hb:=h.bnd;have La:=h.stl;have VP:t.Ku=w::(A++B):=ht;obtain⟨hw,ADP⟩:=CP.1 (show(w::(A++B)).Nodup from KO);have HM:t.Ku.length=(A++B).length+1:=by rw[VP];rfl
  obtain⟨kv,lD,I0⟩:=h.Ku;obtain⟨sa,cells,ADH,h3,h4⟩:=I0.GY (k:=0) (u:=w) (by rw[VP];rfl);subst ADH;obtain⟨M,xt,rM⟩:=h.on;have hP:=h.pop VP hw lD xt rM;obtain⟨s1,Kq⟩:∃s1,s1=s.set (N+9) (.box [.ME sa (A++B).length]):=⟨_,rfl⟩
  obtain⟨s2,JY⟩:∃s2,s2=s1.set (N+5) (.map (SD (.i w) M)):=⟨_,rfl⟩
  rw[<- Kq,<- JY]at hP;have hwn:w<n:=h.lts w (by rw[VP];simp);simp only[CE]at hk;unfold Wm o7;refine Fy AbW ?_;refine ct ?_;refine Fy Acr ?_;refine Fy Acr ?_;refine Fy Pb ?_;refine Fy (AKC (b:=1) AA AA) ?_;refine Fy (Jt AA AA) ?_;refine Fy (KJ h3 (by rw[Cj];exact h4)) ?_;refine Fy Il ?_;refine Fy Acr ?_;refine Fy Acr ?_;refine Fy Pb ?_;refine Fy (AKC (b:=1) AA AA) ?_;refine Fy (yZ AA AA) ?_;refine Fy (KD lD rfl rfl rfl) ?_;rw[show([PV.ME sa t.Ku.length].set 0 (.ME sa ((t.Ku.length-1:Nat):Int).toNat))=[.ME sa (A++B).length] by rw[Cj,HM];rfl,<- Kq];have LX:∀b,b≠N+9->s1.heap b=s.heap b:=λb hb=>by rw[Kq,Ar hb]
  refine Fy (GH ((LX _ AA).trans h.fix.ob) rfl) ?_;refine Fy (AJ8 rfl (j8 w) ((LX _ AA).trans xt) (j4 rM.NM)) ?_;rw[<- JY]
  have next:∀(p:Nat->Bool) s3,(∀u,p u=(t.out u||(decide (u=w)&&decide (0<size))))->Zo s3 g n N {t with Ku:=A++B,out:=p}->az (.Hw .Jh) Q (Wm (.Hw .Jh) Q (A.length+1)) (.GN (N+9) 0) (.GN (N+6) 0) (.GN (N+8) 0) (.int .i64 size) (.int .i64 tM) (.int .i64 k) s3:=λp s3 hp h3=>by
   unfold az;refine Fy AbS ?_;refine sY hn vO A h3 (k:=k+1) rfl ADP AA λs4 h4=>hQ s4 ?_
   have:(λu=>p u||(decide (u∈A)&&decide (0<size)))=λu=>t.out u||(decide (u∈w::A)&&decide (0<size)):=funext λu=>by
    rw[hp u];by_cases c:u=w<;>cases t.out u<;>by_cases d:u∈A<;>simp[c,d]
   simp only[this]at h4;exact h4
  by_cases hz:0<size
  .refine Fy (Gt (rL hz)) ?_;refine ct ?_;obtain⟨M',AUV,AQU⟩:=hP.out;refine Fy (GH hP.fix.ub rfl) ?_;refine Fy (yb rfl (j8 w) AUV (j4 AQU.NM)) ?_;refine next (λu=>t.out u||decide (u=w)) _ (λu=>by simp[hz]) ?_;exact hP.AEu (AQU.put w λu=>by simp[or_comm])
  .refine Fy (Gt (v:=.bool false) (by show some (PV.bool (decide _))=_;simp;omega)) ?_;refine cf ?_;exact next t.out _ (λu=>by simp[hz]) hP
def vX{s:St}{t:Ti.TS}(h:Zo s g n N t)(hn:n<=100000){v:Nat}(hv:v<n){A B:LN}(ht:t.Ku=A++v::B)(hvA:v∉A)(KO:t.Ku.Nodup){Q:F1}(hQ:∀s',Zo s' g n N (t.VQ v)->Q (.tuple []) s'):
  jZ (.Hw .Jh) Q (.int .i64 v) (.GN (N+3) 0) (.GN (N+4) 0) (.GN (N+9) 0) (.GN (N+6) 0) (.GN (N+8) 0) s:=by
 have hb:=h.bnd;have La:=h.stl;have HM:t.Ku.length=A.length+(B.length+1):=by rw[ht];simp
 unfold jZ;refine GR AdP ?_;refine GR (Jt AA AA) ?_;refine GR Ack ?_;refine GR Aca ?_;refine GR (Jt AA AA) ?_;refine GR (KJ h.Ig (v:=.int .i64 (t.Ig v)) Aar) ?_
 refine GR (Gt (v:=.bool (!decide (t.KN v=t.Ig v))) (by
  show some (PV.bool (!((t.KN v:Int)==(t.Ig v:Int))))=_;congr 3;rw[Bool.eq_iff_iff];simp;omega)) ?_
 refine⟨by simp[Hl,IA,Iy,H2],?_⟩;by_cases hl:t.KN v=t.Ig v
 .rw[show(!decide (t.KN v=t.Ig v))=false by simp[hl]];refine cf ?_;obtain⟨kv,lD,I0⟩:=h.Ku;obtain⟨sa,cells,ADH,h3,h4⟩:=I0.GY (k:=A.length) (u:=v) AZl;subst ADH;refine Fy Acr ?_;refine Fy Pb ?_
  refine Fy (Gt (v:=.int .i64 ((t.Ku.length:Int)-1)) (by
   show some (BD .i64 (IntKind.i64.wrap _))=_;rw[HB AA AA])) ?_
  refine Fy Il ?_;have Of:=AA2 h hn (Q:=Q) (op:=.GN (N+6) 0) (up:=.GN (N+8) 0) A (C:=[]) ht hvA;simp only[List.length_nil,CZ,Int.natCast_zero,Int.sub_zero]at Of;refine⟨_,Of ?_⟩;unfold o6;refine Fy AbS ?_;have fW:=sY hn (size:=A.length) (tM:=A.length+1) AA (B:=B) (Q:=Q) (A++[v]) h (k:=0) (by rw[ht];simp) (by rw[show(A++[v])++B=t.Ku by rw[ht];simp];exact KO) AD λs' h'=>hQ s' ?_
  .rw[show((A.length:Int)+1)=((A.length+1:Nat):Int) by omega];exact⟨_,fW⟩
  .obtain⟨c1,c2⟩:=p7 (l':=B) hvA;unfold TS.VQ;rw[Ps hl,ht,c1,c2]
   have:(λu=>t.out u||(decide (u∈A++[v])&&decide (0<A.length)))=λu=>t.out u||(decide (u∈A++[v])&&decide (1<(A++[v]).length)):=funext λu=>by
    rw[show decide (1<(A++[v]).length)=decide (0<A.length) by rw[decide_eq_decide];simp]
   rw[<- this];exact h'
 .rw[show(!decide (t.KN v=t.Ig v))=true by simp[hl]];refine ct ?_;refine L5 rfl (hQ s ?_);unfold TS.VQ;rw[Ng hl];exact h
end
section
open Go.Proofs Go.Ti
def Gr.gr(g:Gr)(v:Nat):LN:=(g.on.getD v []).map Dk
theorem bW{s:St}{b:Nat}{M:ML}{p:Nat->Prop}(hb:s.heap b=some (.map M))(hM:ga M p){u:Nat}{x:Int}(hx:(p u->x=1)/\(¬p u->x=0)):H8 (HF BZ 55 (.map b) (.int .i64 (u:Nat)) false) s (.int .i64 x) s [b] []:=by
 obtain⟨h1,h2⟩:=hM.is u;refine pg rfl (j8 u) hb (j4 hM.NM) ?_;by_cases c:p u
 .rw[h1 c,hx.1 c];rfl
 .rw[h2 c,hx.2 c];rfl
theorem ALf{a b:Int}(h:a=b):SP BZ .eql 3 (.int .i64 a) (.int .i64 b)=some (.bool true):=by subst h;show some (PV.bool (a==a))=_;simp
theorem ACf{a b:Int}(h:a≠b):SP BZ .eql 3 (.int .i64 a) (.int .i64 b)=some (.bool false):=by show some (PV.bool (a==b))=_;simp[h]
theorem AR9{a b:Int}(h:a≠b):SP BZ .neq 3 (.int .i64 a) (.int .i64 b)=some (.bool true):=by show some (PV.bool (!(a==b)))=_;simp[h]
theorem AR8{a b:Int}(h:a=b):SP BZ .neq 3 (.int .i64 a) (.int .i64 b)=some (.bool false):=by subst h;show some (PV.bool (!(a==a)))=_;simp
theorem w9.nC{gr:Nat->LN}{t:Ti.TS}{G:LN}(h:w9 gr t G):t.Ku.Nodup:=h.XR.imp λqS e=>by rw[e]at qS;exact Zq qS (Nat.lt_irrefl _)
variable{g:Gr} {n N:Nat}
structure ABr (g:Gr) (n:Nat):Prop where
 len:g.os.length=n
 le:n<=100000
 val:∀(v:Nat) x,x∈g.on.getD v []->0<=x/\x<n
 PX:∀v:Nat,(g.on.getD v []).length<=900000000
theorem AFs(hV:ABr g n){v:Nat}{p:OLI}(hp:g.os[v]?=some p){o w:Nat}{r:LN}(ho:w::r=(p.2.drop o).map Dk):o<p.2.length/\p.2[o]?=some (w:Int)/\w<n/\r=(p.2.drop (o+1)).map Dk/\p.2.length<=900000000:=by
 have hl:o<p.2.length:=by
  have:=congrArg List.length ho;simp at this;omega
 rw[Bt hl,DE]at ho;have he:g.on.getD v []=p.2:=by rw[CK,CV,hp];rfl
 have hm:p.2[o]∈g.on.getD v []:=by rw[he];exact Bl hl
 have:=hV.val v _ hm;have hle:=hV.PX v;rw[he]at hle;injection ho with h1 h2
 exact⟨hl,by rw[Bc hl];congr 1;omega,AA,h2,hle⟩
theorem ag{s:St}(hs:GS s g){v:Nat}{p:OLI}(hp:g.os[v]?=some p)(Kk:0<p.2.length):∃c,Hk p=.HL c (I7 p.2):=by
 have:=hs.HE p (Bn hp);obtain⟨o,l⟩:=p;cases o with
 |none=>have h:l=[]:=this;subst h;simp at Kk
 |some c=>exact⟨c,rfl⟩
theorem X0{s:St}{v:Nat}{p:OLI}{o w c:Nat}(yA:o<p.2.length)(vK:p.2[o]?=some (w:Int))(hc:Hk p=.HL c (I7 p.2)){Q:F1}{W:PV->PV->PV->PV->PV->PV->PV->PV->PV->F1}{nb lb kb ob ub vb:PV}
  (h:(cN (.bool ((w:Int)==v)) (H4 ub λq=>oQ (HH BZ 55 q (.int .i64 v) (I 1)) λ_=>Ns (.Hw .Jh) Q W (.int .i64 v) nb lb kb ob ub vb (Hk p) (.int .i64 p.2.length) (.int .i64 o))
   (H4 nb λq=>Jo 1 q (.int .i64 w) λq=>H4 q λq=>Hy q (I 0) λq=>cN q (H4 vb λq=>oD (.Hw .Jh) [q,.int .i64 w] λq=>dS (IS lb λq=>dV (IS lb λr=>dV (MF 1 r (.int .i64 v) λr=>IS r λr=>IS lb λt=>dV (MF 1 t (.int .i64 w) λt=>IS t λt=>ACK r t λr=>MF 1 q (.int .i64 v) λq=>KC 1 r q λ_=>dE [0,0,0,0,12,28,0,0,192,448,1020,2047,4095] (Ns (.Hw .Jh) Q W (.int .i64 v) nb lb kb ob ub vb (Hk p) (.int .i64 p.2.length) (.int .i64 o))))))) (H4 ob λq=>oQ (HF BZ 55 q (.int .i64 w) false) λq=>AEK q (I 0) λq=>cN q (dS (IS lb λq=>dV (IS lb λr=>dV (MF 1 r (.int .i64 v) λr=>IS r λr=>IS nb λt=>dV (MF 1 t (.int .i64 w) λt=>IS t λt=>ACK r t λr=>MF 1 q (.int .i64 v) λq=>KC 1 r q λ_=>dE [0,0,0,0,12,28,0,0,192,448,1020,2047,4095] (Ns (.Hw .Jh) Q W (.int .i64 v) nb lb kb ob ub vb (Hk p) (.int .i64 p.2.length) (.int .i64 o))))))) (Ns (.Hw .Jh) Q W (.int .i64 v) nb lb kb ob ub vb (Hk p) (.int .i64 p.2.length) (.int .i64 o))))) s):
  bB (.Hw .Jh) Q W (.int .i64 v) nb lb kb ob ub vb (Hk p) (.int .i64 p.2.length) (.int .i64 o) s:=by
 unfold bB;refine Fy AbW ?_;refine ct ?_;rw[hc]at h⊢;refine Fy (JE (GG:=[.int .i64 (w:Int)]) AA (by simp[I7,vK]) rfl) ?_;refine Fy (Hg rfl) ?_;refine Fy Il ?_;refine Fy (Gt (v:=.bool ((w:Int)==v)) (by show some (PV.bool _)=_;rfl)) ?_;refine Fy Lq ?_;exact h
variable(hV:ABr g n)
include hV
mutual
theorem AOx {t t':Ti.TS} {v:Nat}:V g.gr t v t'->∀{G:List Nat},w9 g.gr t G->(∀y,y∈G->R0 g.gr y v)->v<n->∀s,Zo s g n N t->SW .Jh BZ 47 (.int .i64 v::ABd N) s λr s'=>r=.tuple []/\Zo s' g n N t'
 | .mk _ _ t1 h0 hL,G,hI,hG,hv,s,h=>by
  obtain⟨m,l⟩:=hL.post (hI.enter h0 hG) (λ_ h=>h);obtain⟨A,hA,hAn⟩:=l.Hi.Ku;have hvA:v∉A:=λhm=>by have:=hAn v hm;rw[show(t.enter v).Ig v=t.K3+1 from M9 _ _ _]at this;omega
  obtain⟨p,hp⟩:∃p,g.os[v]?=some p:=⟨_,Bc (by rw[hV.len];exact hv)⟩
  have hgv:g.gr v=p.2.map Dk:=by
   unfold Gr.gr;rw[CK,CV,hp];rfl
  unfold ABd;refine(ALt (.Hw .Jh) _ _ _ _ _ _ _ _ _ ?_).sw h.Iv;exact uu h hV.le hv h0 hV.len hp λs' h'=>⟨_,ABn hL (hI.enter h0 hG) (λ_ h=>h) hv hp 0 (by rw[CA];exact hgv) (λs2 h2=>vX h2 hV.le hv hA hvA (w9.nC m.K5) λs3 h3=>⟨rfl,h3⟩) _ rfl s' h'⟩
theorem ABn {t t':Ti.TS} {v:Nat} {r:List Nat}:L g.gr t v r t'->∀{G P:List Nat},qc g.gr t v G P->(∀w,w∈r->w∈g.gr v)->v<n->∀{p:Option Nat×List Int},g.os[v]?=some p->∀(o:Nat),r=(p.2.drop o).map Dk->∀{Q:PV->St->Prop},(∀s',Zo s' g n N t'->jZ (.Hw .Jh) Q (.int .i64 v) (.GN (N+3) 0) (.GN (N+4) 0) (.GN (N+9) 0) (.GN (N+6) 0) (.GN (N+8) 0) s')->∀m,m=r.length->∀s,Zo s g n N t->
  PO (.Hw .Jh) Q (m+1) (.int .i64 v) (.GN (N+3) 0) (.GN (N+4) 0) (.GN (N+9) 0) (.GN (N+6) 0) (.GN (N+8) 0) (.GN (N+11) 0) (Hk p) (.int .i64 p.2.length) (.int .i64 o) s
 | .nil _ _,G,P,mi,hr,hv,p,hp,o,ho,Q,K,m,hm,s,h=>by
  have hl:=congrArg List.length ho;simp at hl;unfold PO bB;refine Fy AbX ?_;refine cf ?_;exact K s h
 | .ANv _ _ r _ hL,G,P,mi,hr,hv,p,hp,o,ho,Q,K,m,hm,s,h=>by
  obtain⟨yA,vK,hwn,PU,hle⟩:=AFs hV hp ho;obtain⟨c,hc⟩:=ag h.fix.gs hp AA;obtain⟨m,rfl⟩:∃m',m=m'+1:=⟨r.length,by rw[hm];rfl⟩
  obtain⟨M,xt,rM⟩:=h.out;have h1:=h.AEu (M:=Mv (.i v) 1 M) (p:=Pm t.out v true) (rM.put v λu=>by unfold Pm;split<;>simp[*]);have fW:=ABn hL (mi.mark (hr v Bw)) (λw hw=>hr w (Bq _ hw)) hv hp (o+1) PU K m AZx _ h1;unfold PO;refine X0 yA vK hc ?_;rw[show((v:Int)==v)=true by simp];refine ct ?_;refine Fy (GH h.fix.ub rfl) ?_;refine Fy (yb rfl (j8 v) xt (j4 rM.NM)) ?_;exact Agf
 | .new _ _ w r t1 _ qW h0 hW hL,G,P,mi,hr,hv,p,hp,o,ho,Q,K,m,hm,s,h=>by
  obtain⟨yA,vK,hwn,PU,hle⟩:=AFs hV hp ho;obtain⟨c,hc⟩:=ag h.fix.gs hp AA;obtain⟨m,rfl⟩:∃m',m=m'+1:=⟨r.length,by rw[hm];rfl⟩
  have hw:=hr w Bw
  have hG:∀y,y∈v::G->R0 g.gr y w:=λy hy=>(mi.K5.Yb y v hy (mi.K5.Wp v Bw) (by
   rcases Bm.1 hy with rfl|hy
   .exact Bg _
   .exact Nat.le_of_lt (mi.Jh y hy))).trans (R0.oZ hw)
  have pp:=hW.post mi.K5 hG;have hv1:=AOx hW mi.K5 hG hwn s h;have fW:=λs1 h1=>ABn hL (mi.new hw qW h0 pp) (λw hw=>hr w (Bq _ hw)) hv hp (o+1) PU K m AZx s1 h1;unfold PO;refine X0 yA vK hc ?_;rw[show((w:Int)==v)=false by simp;omega];refine cf ?_;refine Fy Aca ?_;refine Fy (Jt AA AA) ?_;refine Fy Ab5 ?_;refine Fy (Gt (ALf AA)) ?_;refine Fy Lq ?_;refine ct ?_;refine Fy (GH h.fix.vb rfl) ?_;refine pk (.inl ⟨47,ABd N,[.int .i64 w],Tryz.f47,rfl,Tryz.func47,by kernel_rfl,by kernel_rfl,hv1⟩) λx s1 _ _ hq=>?_;obtain⟨_,h1⟩:=hq;refine yM h1 hv hwn h1.fix.lb h1.KN ?_;unfold Ns;refine Fy AbS ?_;exact fW _ h1.AEt
 | .old _ _ w r _ qW h0 hs hL,G,P,mi,hr,hv,p,hp,o,ho,Q,K,m,hm,s,h=>by
  obtain⟨yA,vK,hwn,PU,hle⟩:=AFs hV hp ho;obtain⟨c,hc⟩:=ag h.fix.gs hp AA;obtain⟨m,rfl⟩:∃m',m=m'+1:=⟨r.length,by rw[hm];rfl⟩
  obtain⟨M,xt,rM⟩:=h.on
  have fW:=ABn hL (mi.KN (w:=w) (Nat.min_le_left _ _) (by
   by_cases c:t.KN v<=t.Ig w
   .rw[C7 c];exact mi.pU
   .rw[Nat.min_eq_right AA];exact⟨w,hs,rfl,R0.oZ (hr w Bw)⟩) ⟨h0,λe=>Zq e qW,λ_ _=>Nat.min_le_right _ _⟩) (λw hw=>hr w (Bq _ hw)) hv hp (o+1) PU K m AZx _ h.AEt
  unfold PO;refine X0 yA vK hc ?_;rw[show((w:Int)==v)=false by simp;omega];refine cf ?_;refine Fy Aca ?_;refine Fy (Jt AA AA) ?_;refine Fy Ab5 ?_;refine Fy AdE ?_;refine Fy Lq ?_;refine cf ?_;refine Fy (GH h.fix.ob rfl) ?_;refine Fy (bW (x:=1) xt rM ⟨λ_=>rfl,λhn=>Zq hs hn⟩) ?_;refine Fy (Gt (AR9 AA)) ?_;refine Fy Lq ?_;refine ct ?_;refine yM h hv hwn h.fix.nb h.Ig ?_;exact Agf
 | .done _ _ w r _ qW h0 hs hL,G,P,mi,hr,hv,p,hp,o,ho,Q,K,m,hm,s,h=>by
  obtain⟨yA,vK,hwn,PU,hle⟩:=AFs hV hp ho;obtain⟨c,hc⟩:=ag h.fix.gs hp AA;obtain⟨m,rfl⟩:∃m',m=m'+1:=⟨r.length,by rw[hm];rfl⟩
  obtain⟨M,xt,rM⟩:=h.on;have fW:=ABn hL (mi.Ie (w:=w) ⟨h0,λe=>Zq e qW,λh=>Zq h hs⟩) (λw hw=>hr w (Bq _ hw)) hv hp (o+1) PU K m AZx _ h;unfold PO;refine X0 yA vK hc ?_;rw[show((w:Int)==v)=false by simp;omega];refine cf ?_;refine Fy Aca ?_;refine Fy (Jt AA AA) ?_;refine Fy Ab5 ?_;refine Fy AdE ?_;refine Fy Lq ?_;refine cf ?_;refine Fy (GH h.fix.ob rfl) ?_;refine Fy (bW (x:=0) xt rM ⟨λhn=>Zq hn hs,λ_=>rfl⟩) ?_;refine Fy (Gt (AR8 rfl)) ?_;refine Fy Lq ?_;refine cf ?_;exact Agf
end
end
section
open Go.Proofs Go.Ti
def eD(s:St)(l:List Obj):St:=⟨λb=>if s.next<=b/\b<s.next+l.length then l[b-s.next]? else s.heap b,s.next+l.length⟩
def M6{s:St}{l:List Obj}{o:Obj}:(eD s l).new o=eD s (l++[o]):=by
 simp only[eD,BE,St.mk.injEq,Bd,C3,and_true,DY];funext b;by_cases h:b=s.next+l.length
 .subst h;simp
 .rw[AHy h,cond_false];by_cases h2:s.next<=b/\b<s.next+l.length
  .rw[Ps h2,Ps ⟨h2.1,AA⟩,CL AA]
  .rw[Ng h2,Ng AA]
def T0{s:St}{l:List Obj}{o:Obj}{i:Nat}(hi:i<l.length):(eD s l).set (s.next+i) o=eD s (l.set i o):=by
 simp only[eD,BN,St.mk.injEq,List.length_set,and_true];funext b;by_cases h:b=s.next+i
 .subst h;simp[hi]
 .rw[AHy h,cond_false];by_cases h2:s.next<=b/\b<s.next+l.length
  .rw[Ps h2,Ps h2,List.getElem?_set_ne AA]
  .rw[Ng h2,Ng h2]
def LS{s:St}{l:List Obj}{o:Obj}(i:Nat)(h:l[i]?=some o):(eD s l).heap (s.next+i)=some o:=by have:=(Bp.1 h).1;show(if _ then _ else _)=_;rw[Ps ⟨AA,AA⟩,show s.next+i-s.next=i by omega,h]
def sI{s:St}{l:List Obj}{b:Nat}(h:b<s.next):(eD s l).heap b=s.heap b:=Ng AA
def AAd{s:St}{l:List Obj}:(eD s l).next=s.next+l.length:=rfl
def AAc{s:St}(hf:Gm s){l:List Obj}:Gm (eD s l):=λb hb=>by
 have hb:s.next+l.length<=b:=hb;exact(Ng AA).trans (hf b AA)
def AD5{s:St}{o:Obj}:s.new o=eD s [o]:=by
 have:s=eD s []:=by
  cases s;simp only[eD,List.length_nil,DN,St.mk.injEq,and_true];funext b;rw[Ng AA]
 have h2:=M6 (s:=s) (l:=[]) (o:=o);rw[<- this]at h2;exact h2
def vY(p:Nat->Bool):∀n,left p n<=n
 |0=>Bg _
 |n+1=>by
  have:=vY p n;simp only[left];cases p n<;>simp<;>omega
variable{g:Gr} {n N:Nat}
def Zf(hV:ABr g n){Q:F1}{t':Ti.TS}(hQ:∀s',Zo s' g n N t'->Q (.map (N+7)) s'):∀(m i:Nat),n-i=m->i<=n->∀{t:Ti.TS},A g.gr t ((CS n).drop i) t'->w9 g.gr t []->∀s,Zo s g n N t->
  ZD (.Hw .Jh) Q (m+1) (.GN (N+3) 0) (.GN (N+8) 0) (.GN (N+11) 0) (.int .i64 n) (.int .i64 i) s
 |0,i,hm,hi,t,hA,hI,s,h=>by
  rw[CB AB]at hA;cases hA;unfold ZD oy;refine Fy AbX ?_;refine cf ?_;unfold u4;refine Fy (GH h.fix.ub rfl) ?_;refine Fy vk ?_;exact L5 rfl (hQ s h)
 |m+1,i,hm,hi,t,hA,hI,s,h=>by
  have G7:i<n:=AA;have hle:=hV.le
  have hd:(CS n).drop i=i::(CS n).drop (i+1):=by
   rw[Bt AaZ,List.getElem_range]
  rw[hd]at hA;unfold ZD oy;refine Fy AbW ?_;refine ct ?_;refine Fy Il ?_;refine Fy Aca ?_;refine Fy (Jt AA AA) ?_;refine Fy (KJ h.Ig (v:=.int .i64 (t.Ig i)) (by simpa using S7 G7)) ?_;generalize hr:(CS n).drop (i+1)=r at hA;cases hA with
  |skip _ _ _ _ Kk hA'=>
   refine Fy AdE ?_;refine cf ?_;unfold jU;refine Fy AbS ?_;exact Zf hV hQ m (i+1) AA G7 (by rw[hr];exact hA') hI s h
  |go _ _ _ t1 _ hW hA'=>
   have h0:t.Ig i=0:=by cases hW;assumption
   have hG:∀y,y∈([]:LN)->R0 g.gr y i:=λy hy=>by cases hy
   refine Fy (Gt (ALf AA)) ?_;refine ct ?_;refine Fy (GH h.fix.vb rfl) ?_;refine pk (.inl ⟨47,ABd N,[.int .i64 i],Tryz.f47,rfl,Tryz.func47,by kernel_rfl,by kernel_rfl,AOx hV hW hI hG G7 s h⟩) λx s1 _ _ hq=>?_;unfold jU;refine Fy AbS ?_;exact Zf hV hQ m (i+1) AA G7 (by rw[hr];exact hA') (hW.post hI hG).K5 s1 hq.2
def AEi(hV:ABr g n){s:St}(hf:Gm s)(hg:GS s g)(ha:g.IK.length=n){t':Ti.TS}(hA:A g.gr TS.zero (CS n) t'):
  SW .Jh BZ 29 [.GN g.gp 0] s λr s'=>r=.map (s.next+7)/\Zo s' g n s.next t':=by
 have hle:=hV.le;refine(ALn (.Hw .Jh) _ ?_).sw hf
 have hz:(DA n [BD .i64 0]).flatten=XH TS.zero.Ig n:=by
  unfold XH;rw[List.flatten_replicate_singleton];exact DK λi=>by by_cases h:i<n<;>simp[TS.zero,h]
 have G7:∀b,b∈g.H2->b<s.next:=λb hb=>hg.lt hf hb;have x6:=G7 g.gp (by simp[Gr.H2]);unfold g29;refine Fy (pd rfl rfl) ?_;rw[AD5];refine Fy (GH (LS 0 rfl) rfl) ?_;refine Fy Kl ?_;refine Fy Hj ?_;refine Fy (GH ((sI x6).trans hg.box) rfl) ?_;refine Fy (H5 (NY hg.IK)) ?_;rw[MC,ha];refine Fy Il ?_;refine GR (vn (n:=s.next+1) AA (Jf AA AL) rfl) ?_;rw[Cj,hz,M6];simp only[List.cons_append,CC,Cb,Ca];refine GR (vn (n:=s.next+2) AA (Jf AA AL) rfl) ?_;rw[Cj,hz,M6];simp only[List.cons_append,CC,Cb,Ca];refine GR (Lw (n:=s.next+3) rfl) ?_;rw[M6];simp only[List.cons_append,CC,Cb,Ca];refine GR (Lw (n:=s.next+4) rfl) ?_;rw[M6];simp only[List.cons_append,CC,Cb,Ca];refine GR (KD (LS 3 rfl) rfl rfl rfl) ?_;rw[T0 AD];simp only[List.cons_append,CC,Cb,Ca];refine GR (KD (LS 4 rfl) rfl rfl rfl) ?_;rw[T0 AD];simp only[List.cons_append,CC,Cb,Ca];refine⟨?_,?_⟩
 .simp[Hl,IA,Iy,H2,AAd];exact⟨by kernel_rfl,by kernel_rfl⟩
 refine Fy (yY (n:=s.next+5) rfl) ?_;rw[M6];simp only[List.cons_append,CC,Cb,Ca];refine Fy (Lw (n:=s.next+6) rfl) ?_;rw[M6];simp only[List.cons_append,CC,Cb,Ca];refine Fy (KD (LS 6 rfl) rfl rfl rfl) ?_;rw[T0 AD];simp only[List.cons_append,CC,Cb,Ca];refine Fy (yY (n:=s.next+7) rfl) ?_;rw[M6];simp only[List.cons_append,CC,Cb,Ca];refine Fy (Lw (n:=s.next+8) rfl) ?_;rw[M6];simp only[List.cons_append,CC,Cb,Ca];refine Fy (KD (LS 8 rfl) rfl rfl rfl) ?_;rw[T0 AD];simp only[List.cons_append,CC,Cb,Ca];refine Fy (Lw (n:=s.next+9) rfl) ?_;rw[M6];simp only[List.cons_append,CC,Cb,Ca];refine Fy (Lw (n:=s.next+10) rfl) ?_;rw[M6];simp only[List.cons_append,CC,Cb,Ca];refine Fy (KD (LS 10 rfl) rfl rfl rfl) ?_;rw[T0 AD];simp only[List.cons_append,CC,Cb,Ca];refine Fy (Lw (n:=s.next+11) rfl) ?_;rw[M6];simp only[List.cons_append,CC,Cb,Ca];refine Fy (KD (LS 11 rfl) rfl rfl rfl) ?_;rw[T0 AD];simp only[List.cons_append,CC,Cb,Ca];refine⟨_,Zf hV (N:=s.next) (λs' h'=>⟨rfl,h'⟩) n 0 AA AA (by rw[CA];exact hA) tV _ ?_⟩;refine⟨⟨hg.Hi λb hb=>sI (G7 b hb),G7,LS 0 rfl,LS 3 rfl,LS 4 rfl,LS 6 rfl,LS 8 rfl,LS 11 rfl⟩,AAc hf,LS 1 rfl,LS 2 rfl,⟨[],LS 5 rfl,rfl,.nil,λu=>⟨λh=>AbB,λ_=>rfl⟩⟩,⟨[],LS 7 rfl,rfl,.nil,λu=>⟨λh=>AbB,λ_=>rfl⟩⟩,⟨.nil,LS 9 rfl,.inl ⟨rfl,rfl⟩⟩,LS 10 rfl,?_,Bg _,λu hu=>by cases hu⟩;have:=vY TS.zero.qQ n;show 0+_<=n;omega
end
end Go.Vi
