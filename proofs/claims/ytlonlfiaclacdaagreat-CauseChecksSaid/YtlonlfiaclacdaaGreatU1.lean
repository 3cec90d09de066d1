/- Part of the proof of CauseChecks (own work, made small). -/
import Derived.Test.YtlonlfiaclacdaaGreatF2
import Derived.Test.YtlonlfiaclacdaaGreatG2
import Derived.Test.YtlonlfiaclacdaaGreatT1
import Derived.Test.YtlonlfiaclacdaaGreatH1
set_option linter.all false
set_option maxRecDepth 100000
open Bool renaming false_eq_true->Cw
open Go renaming FuncId->B9
open Go.Proofs.Tryz renaming prog->BZ
open Go.Vi.GD renaming MO->BS,ed->BX,O3->BM,Mu->BY,GG->A8,GX->BP,wt->BG,HS->Ax
open Go.Vi.Ge renaming name->Ao,GG->Am
open Go.Vi.Gj renaming GG->Aw
open Go.Vi.Item renaming O3->BL,Mu->BT,GG->Aq,wt->BF,HS->As
open Go.Vi.PV renaming int->BD
open Go.Vi.St renaming H3->Az,G0->Av,Gg->Ar,HJ->A4
open Int renaming toNat->Dk,toNat_natCast->Cj
open List renaming append_assoc->B3,append_nil->CG,drop_eq_getElem_cons->Bt,drop_of_length_le->CB,drop_zero->CA,ext_getElem?->DK,flatMap_cons->C4,flatten_cons->DU,getD_eq_getElem?_getD->CK,getElem?_append_left->CL,getElem?_append_right->CT,getElem?_eq_getElem->Bc,getElem?_eq_some_iff->Bp,getElem?_map->CV,getElem?_take_of_lt->DI,length_append->Bd,length_cons->CE,length_map->Bb,length_singleton->C3,map_append->Bu,map_cons->DE,map_nil->Dt,mem_append->Bf,mem_cons_of_mem->Bq,mem_cons_self->Bw,mem_map->B8,mem_of_getElem?->Bn,mem_singleton->By,nil_append->CC,range->CS,replicate->DA,set_cons_succ->Cb,set_cons_zero->Ca,take_append_drop->CX,take_left'->D7,take_of_length_le->Cc
open Nat renaming le_refl->Bg,min_eq_left->C7,zero_add->CZ,zero_le->DO
open Prod renaming fst->CO,snd->Bx
namespace Go.Vi
attribute [local irreducible] H0 HR Gp Ht Gf Hu GJ GM Gc HK HC JI G6 Hs Hq Ho JZ Jd Ip JN JW G2 Gq Hb pQ I2 Ic Gn Gb Gs HA HZ H8 Int.instDecidableEq Int.decEq instBEqOfDecidableEq IY II Ia Jq HF HH HN pC Nm OJ Jz Jc
section
open Go.Proofs
mutual
def Item.ok:Item->(ByteArray->Int)->Nat->Prop
 | .mk GL e GB _,f,k=>(GB=[]->(∀n,n∈GL->0<=f n)/\∀m,m∈Li e->0<=f m)/\(∀m,m∈BS GB->0<=f m)/\GD.sQ GB f k
def Item.sQ:List Item->(ByteArray->Int)->Nat->Prop
 |[],_,_=>True
 |x::r,f,k=>x.ok f k/\Item.sQ r f (k+x.YA.length)
def GD.ok:GD->(ByteArray->Int)->Nat->Prop
 | .mk _ _ _ GA GQ _,f,k=>(∀v,v∈GA->∀c,c∈v.Ga->0<=S4 f k GA c.name)/\Item.sQ GQ (S4 f k GA) (k+GA.length)
def GD.sQ:List GD->(ByteArray->Int)->Nat->Prop
 |[],_,_=>True
 |x::r,f,k=>x.ok f k/\GD.sQ r f (k+x.YA.length)
end
theorem yp{sc sc':Sb}{n:BA}:∀{k:Nat},k<=sc.length->qX (sc++sc') n k=qX sc n k
 |0,_=>rfl
 |k+1,h=>by
  simp only[qX];rw[CL AA,yp AA]
theorem wK{sc:Sb}{m n:BA}{i:Int}:Hv (sc++[(m,i)]) n=if n=m then i else Hv sc n:=by
 unfold Hv;rw[Bd,C3];simp only[qX];rw[CT (Bg _),Nat.sub_self];simp only[List.getElem?_cons_zero];by_cases h:n=m
 .subst h;simp
 .rw[Ng h,Ng (by
   rw[beq_iff_eq];exactλe=>h (toList_inj e).symm),yp (Bg _)]
theorem nR{f:BA->Int}:∀{l:List Ge} {sc:Sb} {M:ML} {k:Nat},(∀n,Hv sc n=match IQ (.s n) M with
  |some i=>i
  |none=>f n)->∀n,Hv (Qw sc k l) n=match IQ (.s n) (Le M k l)with
  |some i=>i
  |none=>f n
 |[],sc,M,k,h,n=>h n
 |v::l,sc,M,k,h,n=>by
  simp only[Qw,Le];refine nR (λm=>?_) n;rw[wK,NC];split
  .rfl
  .exact h m
theorem nT{sc:Sb}{k:Nat}{l:List Ge}(n:BA):Hv (Qw sc k l) n=S4 (Hv sc) k l n:=nR (M:=[]) (λ_=>rfl) n
section
variable{sc:Sb}
theorem ZY{k:Nat}:∀{ns:List BA} {P:LLI},k<P.length->(∀m,m∈ns->0<=Hv sc m)->L2 P (bJ sc k P ns) 0 λu x=>u=k/\∃m,m∈ns/\Hv sc m=x:=λ{ns P} hk h0=>by
 unfold bJ;refine(Ny (E:=λm u x=>u=k/\Hv sc m=x) λm P' hm hl=>Tz AA λu x=>?_).iff λu x _=>?_
 .rw[By];have:=h0 m hm;constructor
  .rintro⟨rfl,rfl⟩;exact⟨this,rfl,rfl⟩
  .rintro⟨_,h,rfl⟩;exact⟨rfl,AA⟩
 .constructor
  .rintro⟨h1,m,h2,h3⟩;exact⟨m,h2,h1,h3⟩
  .rintro⟨m,h2,h1,h3⟩;exact⟨h1,m,h2,h3⟩
theorem AD2{Ie:LI}{M:Int->Prop}(hM:Mo Ie M){e:Gw}{P:LLI}{n:BA}(hn:0<=Hv sc n/\Hv sc n<P.length)(h0:∀m,m∈Li e->0<=Hv sc m):L2 P (nmR sc Ie e P n) 0 λu x=>Hv sc n=u/\(M x\/∃m,m∈Li e/\Hv sc m=x):=by
 unfold nmR;have hk:(Hv sc n).toNat<P.length:=AA;refine(ZY hk h0).trans (Tz (E:=λu x=>u=(Hv sc n).toNat/\M x) (by rw[(ZY (sc:=sc) hk h0).len];exact hk) λu x=>?_) rfl λu x hx=>?_
 .rw[hM x];exact AeA
 .exact AeV
theorem kJ{l:List Ge}{P:LLI}(hk:∀v,v∈l->0<=Hv sc v.name/\Hv sc v.name<P.length)(h0:∀v,v∈l->∀c,c∈v.Ga->0<=Hv sc c.name):L2 P (Ud sc P l) 0 λu x=>∃v,v∈l/\Hv sc v.name=u/\∃c,c∈v.Ga/\Hv sc c.name=x:=by
 unfold Ud;refine Ny (E:=λ(v:Ge) u x=>Hv sc v.name=u/\∃c,c∈v.Ga/\Hv sc c.name=x) λv P' hv hl=>?_;unfold ACG;have hv':=hk v hv;refine(Ny (E:=λ(c:Edge) u x=>u=((Hv sc v.name).toNat:Int)/\∃m,m∈[c.name]/\Hv sc m=x) λc P2 hc cM=>ZY AA λm hm=>by rw[By.1 hm];exact h0 v hv c hc).iff λu x _=>?_;constructor
 .rintro⟨h1,c,h2,h3⟩;exact⟨c,h2,AA,c.name,AD,h3⟩
 .rintro⟨c,h2,h1,m,hm,h3⟩;rw[By.1 hm]at h3;exact⟨AA,c,h2,h3⟩
end
structure CR (s1:St) (c:Nat) (l:List Int) (s:St):Prop where
 old:∀b,b<s1.next->s.heap b=s1.heap b
 Iw:HT s1 s
 Iv:Gm s
 HE:s.heap c=some (.HE l.length 1)
 new:s1.next<=c
theorem CR.step{s1 s s':St}{c:Nat}{l:LI}(h:CR s1 c l s)(hf:Gm s')(hn:s.next<=s'.next)(hk:∀b,b<s.next->s'.heap b=s.heap b):CR s1 c l s':=
 have hg:=h.Iw.next
 ⟨λb hb=>(hk b AA).trans (h.old b hb),⟨AA,λb hb hh=>(hk b AA).trans (h.Iw.none b hb hh)⟩,hf,(hk c (Gu h.Iv h.HE)).trans h.HE,h.new⟩
theorem CR.app{s1 s:St}{c:Nat}{l:LI}(h:CR s1 c l s){x:PV}{xs:LI}(hx:x.GK=some (I7 xs))(hn:l.length+xs.length<=1000000000):∃s',H8 (Hb 1 8 (.HL c (I7 l)) x) s (.HL c (I7 (l++xs))) s' [] [c]/\CR s1 c (l++xs) s'/\s'.next=s.next:=by
 obtain⟨o',s',a1,a2,a3,a4,a5,a6⟩:=UA h.Iv (o:=some c) (l:=l) h.HE hx hn
 have h0:c=o'/\s'.next=s.next:=by
  rcases a4 with⟨h1,h2⟩|⟨h1,_⟩
  .cases h1;exact⟨rfl,h2⟩
  .cases h1
 obtain⟨rfl,h0⟩:=h0;have hw:=h.new;exact⟨s',a1,⟨λb hb=>(a3 b AA).trans (h.old b hb),h.Iw.trans a6,a5,a2,h.new⟩,h0⟩
attribute [local irreducible] bD bC db
section
variable{s1:St} (MS:Gm s1) {sc:Sb} (La:sc.length<=100000) {bx:Nat} (lB:s1.heap bx=some (.box (YQ sc)))
include MS La lB
variable{Q:F1} {w1:PV->PV->PV->PV->F1} {w2:PV->PV->PV->PV->PV->PV->PV->F1} {w3:PV->PV->PV->PV->PV->PV->PV->PV->F1} {gv lv mv jv kv qv:PV}
theorem kg{iv:PV}{rc c:Nat}{ns:List BA}(Pr:ns.length<=100000):∀(n i:Nat),ns.length-i=n->i<=ns.length->∀{s:St} {l:LI},CR s1 c l s->l.length+n<=900000000->
  (∀s',CR s1 c (l++(ns.drop i).map (Hv sc)) s'->bD (.Hw .Jh) Q w1 w2 w3 gv lv mv (.GN bx 0) jv iv (.HL c (I7 (l++(ns.drop i).map (Hv sc)))) kv qv s')->
  Xt (.Hw .Jh) Q w1 w2 w3 (n+1) gv lv mv (.GN bx 0) jv iv (.HL c (I7 l)) kv qv (.HL rc (ns.map GC)) (.int .i64 i) s
 |0,i,hi,Ml,s,l,h,hl,hW=>by
  rw[CB AA,Dt,CG]at hW;unfold Xt je;refine Fy AcO ?_;exact Afb
 |n+1,i,hi,Ml,s,l,h,hl,hW=>by
  have G7:i<ns.length:=AA;rw[Bt G7]at hW;obtain⟨m,hm⟩:∃m,m=ns[i]:=⟨_,rfl⟩
  rw[<- hm]at hW;have hmi:ns[i]?=some m:=by rw[hm];exact Bc G7
  have hbl:=Gu MS lB;have hx:s.heap bx=some (.box (YQ sc)):=(h.old bx hbl).trans lB;obtain⟨s2,a1,a2,a3⟩:=h.app (x:=.GV [[.int .i64 (Hv sc m)]]) (xs:=[Hv sc m]) rfl AB;have hcn:=h.new;unfold Xt je;refine Fy AcO ?_;rw[Bb];refine Fy AbW ?_;refine ct ?_;refine GR (Hm hx rfl) ?_;refine GR (JE AA (GG:=GC m) (by simp[hmi]) rfl) ?_;refine GR (Hg rfl) ?_;refine pj (bz sc La m) (fZ sc m) rfl rfl rfl ?_;simp only[Ky,Jl];refine GR (bh (GK:=[[.int .i64 (Hv sc m)]]) rfl) ?_;refine GR a1 ?_;refine GR kP ?_;refine⟨?_,?_⟩
  .simp[Hl,IA,Iy,H2];exact Ix AF
  refine Fy AbS ?_;refine Fy Il ?_;refine kg Pr n (i+1) AA G7 a2 (by simp only[Bd,C3];omega) λs3 h3=>?_;rw[B3]at h3⊢;exact hW s3 h3
theorem su{ib c:Nat}{x:Item}(cL:s1.heap ib=some (.box x.GG)){k:Nat}{st:GD}(hk:x.GB[k]?=some st)(hu:NN.WF st.JB)(Pv:Gj.HS st.JB<=20000):∀(n i:Nat),st.JB.length-i=n->i<=st.JB.length->∀{s:St} {l:LI},CR s1 c l s->l.length+((st.JB.drop i).flatMap λt=>Li t.cond).length<=900000000->
  (∀s',CR s1 c (l++((st.JB.drop i).flatMap λt=>Li t.cond).map (Hv sc)) s'->bC (.Hw .Jh) Q w1 w2 gv lv mv (.GN bx 0) jv (.GN ib 0) (.HL c (I7 (l++((st.JB.drop i).flatMap λt=>Li t.cond).map (Hv sc)))) (.int .i64 k) s')->
  Sz (.Hw .Jh) Q w1 w2 (n+1) gv lv mv (.GN bx 0) jv (.GN ib 0) (.HL c (I7 l)) (.int .i64 k) (.int .i64 i) s:=by
 have jt:x.GG[10]?=some (.GV (x.GB.map A8)):=by rw[Item.IC,Gw.IC];rfl
 have VO:st.GG[1]?=some (.GV (st.JB.map Aw)):=by rw[GD.IC];rfl
 intro n
 induction n with
 |zero=>
  intro i hi Ml s l h hl hW;have hx:s.heap ib=some (.box x.GG):=(h.old ib (Gu MS cL)).trans cL;rw[CB AA,List.flatMap_nil,Dt,CG]at hW;unfold Sz jd;refine Fy Hj ?_;refine Fy (GH hx jt) ?_;refine Fy Ab1 ?_;refine Fy Pw ?_;refine Fy (Hg VO) ?_;refine Fy (H5 (GK:=st.JB.map Aw) rfl) ?_;exact Afb
 |succ n ih=>
  intro i hi Ml s l h hl hW;have G7:i<st.JB.length:=AA;have HM:=hu.len;have hx:s.heap ib=some (.box x.GG):=(h.old ib (Gu MS cL)).trans cL;rw[Bt G7]at hW hl;obtain⟨t,htd⟩:∃t,t=st.JB[i]:=⟨_,rfl⟩
  rw[<- htd]at hW hl;have hti:st.JB[i]?=some t:=by rw[htd];exact Bc G7
  have htm:=Bn hti
  have htw:t.cond.wt<=20000:=by
   obtain⟨a,b,qS⟩:=List.append_of_mem htm;have:Gj.HS st.JB=Gj.HS (a++t::b):=by rw[qS]
   rw[Gj.HY]at this;simp only[Gj.HS,Gj.wt]at this;omega
  have hrd:=Ze t.cond;simp only[C4,Bd]at hl;simp only[C4,Bu,<- B3]at hW;have hr9:=t.cond.GX;unfold Sz jd;refine Fy Hj ?_;refine Fy (GH hx jt) ?_;refine Fy Ab1 ?_;refine Fy Pw ?_;refine Fy (Hg VO) ?_;refine Fy (H5 (GK:=st.JB.map Aw) rfl) ?_;rw[Bb];refine Fy AbW ?_;refine ct ?_;refine Fy Hj ?_;refine Fy (GH hx jt) ?_;refine Fy Ab1 ?_;refine Fy Pw ?_;refine Fy (Hg VO) ?_;refine Fy AcZ ?_;refine Fy Pw ?_
  refine Fy (MB (v:=.agg t.cond.GG) (by
   simp only[TF,CZ,t.GX];rw[Ps AA];simp[Aw,hr9])) ?_
  refine bq (sj (hu.all t htm) htw) Ri rfl rfl rfl ?_;simp only[KB,Jl];refine Fy kP ?_;have hf:Gm s:=h.Iv;refine⟨_,kg MS La lB AA (Li t.cond).length 0 AA AA (h.step (Hh hf) (Nat.le_succ _) λb hb=>by rw[Av rfl AA]) AA λs3 h3=>?_⟩;rw[CA]at h3⊢;unfold bD;refine Fy AbS ?_;refine Fy Il ?_;refine ih (i+1) AA G7 h3 (by simp only[Bd,Bb];omega) λs4 h4=>hW s4 h4
theorem pz{ib c:Nat}{x:Item}(cL:s1.heap ib=some (.box x.GG))(ARe:x.GB.length<=100000)(hu:∀st,st∈x.GB->NN.WF st.JB/\Gj.HS st.JB<=20000):∀(n i:Nat),x.GB.length-i=n->i<=x.GB.length->∀{s:St} {l:LI},CR s1 c l s->l.length+(BS (x.GB.drop i)).length<=900000000->
  (∀s',CR s1 c (l++(BS (x.GB.drop i)).map (Hv sc)) s'->db (.Hw .Jh) Q w1 gv lv mv (.GN bx 0) jv (.GN ib 0) (.HL c (I7 (l++(BS (x.GB.drop i)).map (Hv sc)))) s')->
  Oe (.Hw .Jh) Q w1 (n+1) gv lv mv (.GN bx 0) jv (.GN ib 0) (.HL c (I7 l)) (.int .i64 i) s:=by
 have jt:x.GG[10]?=some (.GV (x.GB.map A8)):=by rw[Item.IC,Gw.IC];rfl
 intro n
 induction n with
 |zero=>
  intro i hi Ml s l h hl hW;have hx:s.heap ib=some (.box x.GG):=(h.old ib (Gu MS cL)).trans cL;rw[CB AA,show BS []=[]from rfl,Dt,CG]at hW;unfold Oe jc;refine Fy Hj ?_;refine Fy (GH hx jt) ?_;refine Fy Abm ?_;exact Afb
 |succ n ih=>
  intro i hi Ml s l h hl hW;have G7:i<x.GB.length:=AA;have hx:s.heap ib=some (.box x.GG):=(h.old ib (Gu MS cL)).trans cL;rw[Bt G7]at hW hl;obtain⟨st,I0⟩:∃st,st=x.GB[i]:=⟨_,rfl⟩
  rw[<- I0]at hW hl;have hsi:x.GB[i]?=some st:=by rw[I0];exact Bc G7
  obtain⟨h1,h2⟩:=hu st (Bn hsi);simp only[BS,C4,Bd]at hl;simp only[BS,C4,Bu,<- B3]at hW;unfold Oe jc;refine Fy Hj ?_;refine Fy (GH hx jt) ?_;refine Fy Abm ?_;rw[Bb];refine Fy AbW ?_;refine ct ?_;refine⟨_,su MS La lB cL hsi h1 h2 st.JB.length 0 AA AA h Aaq λs3 h3=>?_⟩;rw[CA]at h3⊢;unfold bC;refine Fy AbS ?_;refine Fy Il ?_;exact ih (i+1) AA G7 h3 (by simp only[Bd,Bb,BS];omega) λs4 h4=>hW s4 h4
end
end
section
open Go.Proofs
abbrev KU.on(g:KU):LLI:=g.os.map Bx
structure Zx (g g':KU) (A:List Int) (E:Int->Int->Prop) (T:Nat):Prop where
 IK:g'.IK=g.IK++A
 nm:g'.GL.length=g.GL.length+A.length
 on:L2 g.on g'.on A.length E
 PX:JG g'.on T
def Zx.len{g g':KU}{A:LI}{E:Int->Int->Prop}{T:Nat}(h:Zx g g' A E T):g'.os.length=g.os.length+A.length:=by have:=h.on.len;simpa using this
def Zx.trans{g1 g2 g3:KU}{A B C:LI}{E F G:Int->Int->Prop}{T T':Nat}(h:Zx g1 g2 A E T)(k:Zx g2 g3 B F T')(hC:C=A++B)(hG:∀(u:Nat) x,0<=x->(G u x<->E u x\/F u x)):Zx g1 g3 C G T':=⟨by rw[k.IK,h.IK,hC,B3],by rw[k.nm,h.nm,hC,Bd];omega,h.on.trans k.on (by rw[hC,Bd]) hG,k.PX⟩
def Zx.refl{g:KU}{E:Int->Int->Prop}{T:Nat}(hT:JG g.on T)(h:∀(u:Nat) x,0<=x->¬E u x):Zx g g [] E T:=⟨AD,rfl,.refl _ h,hT⟩
def My.S5{s s':St}{g:KU}(hf:Gm s)(hg:RS s g)(jm:Gm s')(hG:HT s s')(hk:∀b,b<s.next->s'.heap b=s.heap b):My s g s' g:=⟨hg.Hi λb hb=>hk b (hg.lt hf hb),rfl,λ_ h=> .inl h,λb _ h=>hk b h,hG,jm⟩
def QV.JD{s s':St}{g g':KU}{b:Nat}{cs:LP}(h:QV s g b cs)(hf:Gm s)(k:My s g s' g'):QV s' g' b cs:=
 ⟨(k.Hi b h.H2 (Gu hf h.GY)).trans h.GY,λhm=>by
  rcases k.H2 b hm with h1|h1
  .exact h.H2 h1
  .have:=Gu hf h.GY;omega⟩
def ItR(l:List Item):Prop:=∀{s:St} {g:KU} {sc:Sb} {mv:PV} {Ie:LI} {M:Int->Prop} {T:Nat},Gm s->RS s g->sc.length+As l<=45000->mv.GK=some (I7 Ie)->Mo Ie M->JG g.on T->T+20020*As l<=600000000->
 Ie.length+As l<=20000->g.os.length+As l<=45000->g.IK.length=g.os.length->g.GL.length=g.os.length->(∀n,Hv sc n<g.os.length)->Item.sQ l (Hv sc) g.os.length->
 SW .Jh BZ 50 [.GN g.gp 0,.GV (l.map Aq),.agg (YQ sc),mv] s λr s'=>r=.tuple []/\∃g',My s g s' g'/\Zx g g' (BT l) (λu w=>BL false u w l (Hv sc) M g.os.length) (T+20020*As l)
attribute [local irreducible] dZ
variable{Q:F1} {w1:PV->PV->PV->PV->F1} {lv mv jv:PV}
def AAz{s:St}(hf:Gm s){g:KU}(hg:RS s g){sc:Sb}{bx ib:Nat}(lB:QV s g bx (YQ sc)){x:Item}(cL:QV s g ib x.GG)(rj:x.GB.length<=100000){i:Nat}{st:GD}(hi:x.GB[i]?=some st)(hw:TB.WF st.GA)(IH:ItR st.GQ){av:PV}{cs:LI}(hav:av.GK=some (I7 cs)){M:Int->Prop}(hM:Mo cs M)
  {T:Nat}(hT:JG g.on T)(Mk:T+20020*st.wt<=600000000)(hm:cs.length+As st.GQ<=20000)(La:sc.length+st.wt<=45000)(HM:g.os.length+st.wt<=45000)(ha:g.IK.length=g.os.length)(Vh:g.GL.length=g.os.length)(Up:∀n,Hv sc n<g.os.length)(Jk:st.ok (Hv sc) g.os.length)
  {w3:PV->PV->PV->PV->PV->PV->PV->F1}
  (hW:∀s' g',My s g s' g'->Zx g g' st.YA (λu w=>st.ed false u w (Hv sc) M g.os.length) (T+20020*st.wt)->w3 (.GN g.gp 0) lv mv (.GN bx 0) jv (.GN ib 0) av (.int .i64 (i+1:Nat)) s'):
  gG (.Hw .Jh) Q w1 w3 (.GN g.gp 0) lv mv (.GN bx 0) jv (.GN ib 0) av (.int .i64 i) s:=by
 have jt:x.GG[10]?=some (.GV (x.GB.map A8)):=by rw[Item.IC,Gw.IC];rfl
 obtain⟨nm,JB,Jg,GA,GQ,GY⟩:=st;have pF:i<x.GB.length:=(Bp.1 hi).1;simp only[BG]at Mk HM La;simp only[GD.GA]at hw;simp only[GD.GQ]at IH hm;have Gl:(GD.mk nm JB Jg GA GQ GY).GG=[.Gh nm,.GV (JB.map Aw),.GV (Jg.map Aw),.GV (GA.map Am),.GV (GQ.map Aq),.int .i64 GY]:=GD.IC _;simp only[GD.ok]at Jk;obtain⟨AMi,AMj⟩:=Jk;obtain⟨s1,Kq⟩:∃s1,s1=(s.new (.box [.Gh ⟨#[]⟩,.nil,.nil,.nil,.nil,.int .i64 0])).set s.next (.box (GD.mk nm JB Jg GA GQ GY).GG):=⟨_,rfl⟩
 have LX:∀b,b<s.next->s1.heap b=s.heap b:=λb hb=>by rw[Kq,Ar AA,Av rfl AA]
 have fT:s1.next=s.next+1:=by rw[Kq];rfl
 have MS:Gm s1:=by rw[Kq];exact Hx (Hh hf) AH
 have hG1:HT s s1:=by rw[Kq];exact H9.trans (IV AH)
 have hu1:s1.heap s.next=some (.box (GD.mk nm JB Jg GA GQ GY).GG):=by rw[Kq];exact A4
 have VO:=My.S5 hf hg MS hG1 LX;have AUf:=lB.JD hf VO;have hU1:QV s1 g s.next (GD.mk nm JB Jg GA GQ GY).GG:=.new hf hg (Bg _) hu1;have AHM:=cL.GY;unfold gG;refine Fy Hj ?_;refine Fy (GH AHM jt) ?_;refine Fy Abm ?_;rw[Bb];refine Fy AbW ?_;refine ct ?_;refine Fy Hj ?_;refine Fy (GH AHM jt) ?_;refine Fy (Gk AA (GG:=(GD.mk nm JB Jg GA GQ GY).GG) (by simp[hi]) (BP _)) ?_;refine Fy AdF ?_;refine Fy (Lw rfl) ?_;refine Fy (IZ (Az rfl) (BP _) Al rfl) ?_;rw[<- Kq];refine Fy (Hm AUf.GY rfl) ?_;refine Fy Hj ?_;refine Fy (GH hu1 (v:=.GV (GA.map Am)) Al) ?_;refine Rc (yk (l:=GA) MS VO.gs AA AA AA AA AA) λv s2 Tm M4 hq=>?_;obtain⟨o1,o2,g2,rfl,a1,a2⟩:=hq;rw[Vh];have ART:My s1 g s2 g2:=⟨a1.gs,a1.gp,a1.H2,a2,Tm,M4⟩
 have ju:=VO.trans ART;obtain⟨lH,AMt⟩:∃lH,lH=Qw sc g.os.length GA:=⟨_,rfl⟩
 rw[<- AMt];have ARe:lH.length=sc.length+GA.length:=by rw[AMt,eJ]
 have Zr:∀n,Hv lH n=S4 (Hv sc) g.os.length GA n:=λn=>by rw[AMt,nT]
 have ADR:g2.os.length=g.os.length+GA.length:=by rw[a1.os];simp
 obtain⟨s3,Ra⟩:∃s3,s3=(s2.new (.box [.nil,.nil])).set s2.next (.box [.HL o1 ((lH.map CO).map GC),.HL o2 (I7 (lH.map Bx))]):=⟨_,rfl⟩
 have gI:∀b,b<s2.next->s3.heap b=s2.heap b:=λb hb=>by rw[Ra,Ar AA,Av rfl AA]
 have Tl:Gm s3:=by rw[Ra];exact Hx (Hh M4) AH
 have hG3:HT s2 s3:=by rw[Ra];exact H9.trans (IV AH)
 have hx3:s3.heap s2.next=some (.box [.HL o1 ((lH.map CO).map GC),.HL o2 (I7 (lH.map Bx))]):=by rw[Ra];exact A4
 have AMp:=My.S5 M4 a1.gs Tl hG3 gI;have AC6:QV s3 g2 s2.next [.HL o1 ((lH.map CO).map GC),.HL o2 (I7 (lH.map Bx))]:=.new M4 a1.gs (Bg _) hx3;have hU3:=(hU1.JD MS ART).JD M4 AMp;rw[Gl]at hU3;have hwk:∀m v,VR m (.agg [.HL o1 ((lH.map CO).map GC),.HL o2 (I7 (lH.map Bx))]) v->VR m (.agg (YQ lH)) v:=wq (.cons (VH rfl) (.cons (VH rfl) (.refl [])));refine Fy (Lw rfl) ?_;refine Fy Abw ?_;rw[<- Ra];refine Fy (Hm hx3 rfl) ?_;refine Fy Hj ?_;refine Fy (GH hU3.GY (v:=.GV (GA.map Am)) rfl) ?_;have pL:g2.on=g.on++GA.map λ_=>[]:=by show g2.os.map Bx=_;rw[a1.os];simp
 have AQV:JG g2.on T:=by
  rw[pL];intro y hy;rcases Bf.1 hy with h|h
  .exact hT y h
  .obtain⟨_,_,rfl⟩:=B8.1 h;simp
 have TI:∀v,v∈GA->0<=Hv lH v.name/\Hv lH v.name<g2.os.length:=λv hv=>by
  rw[Zr,ADR];have:=Us (f:=Hv sc) (k:=g.os.length) hv;omega
 rw[<- a1.gp];refine Rc ((kX (sc:=lH) AA (l:=GA) AA (λv hv=>(hw.all v hv).Ga) Tl AMp.gs (λv hv=>⟨(Hv lH v.name).toNat,by have:=TI v hv;omega,by have:=TI v hv;omega⟩) AQV AA).Hw (.cons (NK _) (.cons hwk (.refl _)))) λv s4 hg4 hf4 hq=>?_;obtain⟨rfl,g4,b1,b2⟩:=hq;have AMq:=b1.JD;have hU4:=hU3.JD Tl AMq;have AMC:=AC6.JD Tl AMq;refine Fy Hj ?_;refine Fy (GH hU4.GY (v:=.GV (GQ.map Aq)) rfl) ?_;refine Fy (Hm AMC.GY rfl) ?_;have hT4:JG g4.on (T+17*GA.length):=by show JG (g4.os.map Bx) _;rw[b2];exact Ue (λv hv=>(hw.all v hv).Ga) AQV
 have lT:g4.os.length=g.os.length+GA.length:=by rw[b1.len,ADR]
 have hr4:=ju.trans (AMp.trans AMq);have AQ1:=b1.gp;rw[<- AQ1];refine Rc ((IH (s:=s4) (g:=g4) (sc:=lH) (mv:=av) (Ie:=cs) (M:=M) b1.Iv b1.gs AA hav hM hT4 AA hm AA (by rw[b1.IK,a1.IK,lT];simp[ha]) (by rw[b1.GL,a1.GL,lT];simp[Vh]) (λn=>by rw[Zr,lT];exact XB Up n) (by rw[lT,show Hv lH=S4 (Hv sc) g.os.length GA from funext Zr];exact AMj)).Hw (.cons (NK _) (.cons (NK _) (.cons hwk (.refl _))))) λv s5 hg5 hf5 hq=>?_;obtain⟨rfl,g5,c1,c2⟩:=hq;refine Fy AbS ?_;refine Fy Il ?_;rw[AQ1,a1.gp];refine hW s5 g5 (hr4.trans c1) ⟨?_,?_,?_,c2.PX.mono (by simp only[BG];omega)⟩
 .rw[c2.IK,b1.IK,a1.IK];simp[GD.YA]
 .rw[c2.nm,b1.GL,a1.GL];simp[GD.YA];omega
 .have m1:L2 g.on g4.on GA.length λu x=>∃v,v∈GA/\Hv lH v.name=u/\∃c,c∈v.Ga/\Hv lH c.name=x:=by
   show L2 _ (g4.os.map Bx) _ _;have ARN:g2.os.map Bx=g.on++GA.map λ_=>[]:=pL;rw[b2,ARN];refine(bZ (E:=λ_ _=>False) λ_ _ _ h=>h).trans (kJ (λv hv=>?_) λv hv c hc=>by rw[Zr];exact AMi v hv c hc) rfl λu x _=>by simp
   have:=TI v hv;simp;omega
  have m2:=c2.on;rw[lT]at m2;refine m1.trans m2 (by simp[GD.YA]) λu x _=>?_;rw[show Hv lH=S4 (Hv sc) g.os.length GA from funext Zr];simp only[BX,Cw,false_and,false_or]
end
section
open Go.Proofs
section
variable{Q:F1} {w1:PV->PV->PV->PV->F1} {lv mv jv:PV}
def ss{sc:Sb}{bx ib:Nat}{x:Item}(rj:x.GB.length<=100000)(hw:∀st,st∈x.GB->TB.WF st.GA)(IH:∀st,st∈x.GB->ItR st.GQ){av:PV}{cs:LI}(hav:av.GK=some (I7 cs)){M:Int->Prop}(hM:Mo cs M)(hm:∀st,st∈x.GB->cs.length+As st.GQ<=20000):∀(n i:Nat),x.GB.length-i=n->i<=x.GB.length->
  ∀{s:St} (hf:Gm s) {g:KU} (hg:RS s g) (lB:QV s g bx (YQ sc)) (cL:QV s g ib x.GG) {T:Nat} (hT:JG g.on T) (Mk:T+20020*Ax (x.GB.drop i)<=600000000) (La:sc.length+Ax (x.GB.drop i)<=45000) (HM:g.os.length+Ax (x.GB.drop i)<=45000) (ha:g.IK.length=g.os.length) (Vh:g.GL.length=g.os.length) (Up:∀n,Hv sc n<g.os.length) (Jk:GD.sQ (x.GB.drop i) (Hv sc) g.os.length)
   (hW:∀s' g',My s g s' g'->Zx g g' (BY (x.GB.drop i)) (λu w=>BM false u w (x.GB.drop i) (Hv sc) M g.os.length) (T+20020*Ax (x.GB.drop i))->dZ (.Hw .Jh) Q w1 (.GN g.gp 0) lv mv (.GN bx 0) jv s'),
  dc (.Hw .Jh) Q w1 (n+1) (.GN g.gp 0) lv mv (.GN bx 0) jv (.GN ib 0) av (.int .i64 i) s
 |0,i,hi,Ml,s,hf,g,hg,lB,cL,T,hT,Mk,La,HM,ha,Vh,Up,Jk,hW=>by
  have jt:x.GG[10]?=some (.GV (x.GB.map A8)):=by rw[Item.IC,Gw.IC];rfl
  rw[CB AA]at hW;have AHM:=cL.GY;unfold dc gG;refine Fy Hj ?_;refine Fy (GH AHM jt) ?_;refine Fy Abm ?_;rw[Bb];refine Fy AbX ?_;refine cf ?_;exact hW s g (.refl hf hg) (.refl (by simpa[Ax]using hT) λu y _ h=>by simp[BM]at h)
 |n+1,i,hi,Ml,s,hf,g,hg,lB,cL,T,hT,Mk,La,HM,ha,Vh,Up,Jk,hW=>by
  have G7:i<x.GB.length:=AA;rw[Bt G7]at hW Mk HM La Jk;obtain⟨st,I0⟩:∃st,st=x.GB[i]:=⟨_,rfl⟩
  rw[<- I0]at hW Mk HM La Jk;have hsi:x.GB[i]?=some st:=by rw[I0];exact Bc G7
  have hsm:=Bn hsi;simp only[Ax]at Mk HM hW La;simp only[GD.sQ]at Jk;have hlw:=GD.ZT st;unfold dc;refine AAz hf hg lB cL rj hsi (hw st hsm) (IH st hsm) hav hM hT AA (hm st hsm) AA AA ha Vh Up Jk.1 λs1 g1 h1 a1=>?_;have YK:=a1.len;rw[<- h1.gp];refine ss rj hw IH hav hM hm n (i+1) AA G7 h1.Iv h1.gs (lB.JD hf h1) (cL.JD hf h1) (T:=T+20020*st.wt) a1.PX AA AA AA AbI (by rw[a1.nm,YK,Vh]) (λn=>by have:=Up n;omega) (by rw[YK];exact Jk.2) λs2 g2 h2 a2=>?_;rw[h1.gp];refine hW s2 g2 (h1.trans h2) ?_;have a3:=a1.trans (C:=BY (st::x.GB.drop (i+1))) (G:=λu w=>BM false u w (st::x.GB.drop (i+1)) (Hv sc) M g.os.length) a2 (by simp only[BY]) λu x _=>by rw[YK];simp only[BM]
  exact⟨a3.IK,a3.nm,a3.on,a3.PX.mono AA⟩
end
section
variable{Q:F1}
def fH{bx:Nat}{sc:Sb}{mv:PV}{Ie:LI}(lV:mv.GK=some (I7 Ie)){M:Int->Prop}(hM:Mo Ie M){l:List Item}(hl:l.length<=100000)(hw:∀x,x∈l->x.WF)(IH:∀x,x∈l->∀st,st∈x.GB->ItR st.GQ)(hm:Ie.length+As l<=20000):∀(n i:Nat),l.length-i=n->i<=l.length->
  ∀{s:St} (hf:Gm s) {g:KU} (hg:RS s g) (lB:QV s g bx (YQ sc)) {T:Nat} (hT:JG g.on T) (Mk:T+20020*As (l.drop i)<=600000000) (La:sc.length+As (l.drop i)<=45000) (HM:g.os.length+As (l.drop i)<=45000) (ha:g.IK.length=g.os.length) (Vh:g.GL.length=g.os.length) (Up:∀n,Hv sc n<g.os.length) (Jk:Item.sQ (l.drop i) (Hv sc) g.os.length)
   (hW:∀s' g',My s g s' g'->Zx g g' (BT (l.drop i)) (λu w=>BL false u w (l.drop i) (Hv sc) M g.os.length) (T+20020*As (l.drop i))->Q (.tuple []) s'),
  M3 (.Hw .Jh) Q (n+1) (.GN g.gp 0) (.GV (l.map Aq)) mv (.GN bx 0) (.int .i64 i) s
 |0,i,hi,Ml,s,hf,g,hg,lB,T,hT,Mk,La,HM,ha,Vh,Up,Jk,hW=>by
  rw[CB AA]at hW;unfold M3 vA;refine Fy Ab4 ?_;rw[Bb];refine Fy AbX ?_;refine cf ?_;exact L5 rfl (hW s g (.refl hf hg) (.refl (by simpa[As]using hT) λu y _ h=>by simp[BL]at h))
 |n+1,i,hi,Ml,s,hf,g,hg,lB,T,hT,Mk,La,HM,ha,Vh,Up,Jk,hW=>by
  have G7:i<l.length:=AA;have dq:=Item.HY (l.take i) (l.drop i);rw[CX]at dq;rw[Bt G7]at hW Mk HM dq Jk La;obtain⟨x,hxd⟩:∃x,x=l[i]:=⟨_,rfl⟩
  rw[<- hxd]at hW Mk HM dq Jk La;have lZ:l[i]?=some x:=by rw[hxd];exact Bc G7
  have hxm:=Bn lZ;simp only[As]at Mk HM dq hW La;simp only[Item.sQ]at Jk;obtain⟨ARM,AVh⟩:=Jk;have ADg:=Item.ZT x;have IHx:=IH x hxm;have lF:=hw x hxm;obtain⟨GL,e,GB,GY⟩:=x;have hwe:e.WF/\GL.length<=100000/\GB.length<=100000/\∀st,st∈GB->st.WF:=by cases lF with|mk _ _ _ _ h1 h2 h3 h4=>exact⟨h2,h1,h3,h4⟩
  obtain⟨hwe,Pr,ARh,vP⟩:=hwe;simp only[Item.GB]at IHx;simp only[BF]at Mk HM dq ADg La;simp only[Item.ok]at ARM;obtain⟨AMi,AMj,AVf⟩:=ARM;have hxr:(Item.mk GL e GB GY).GG=[.GV (GL.map GC)]++e.GG++[.GV (GB.map A8),.int .i64 GY]:=Item.IC _;have h0:(Item.mk GL e GB GY).GG[0]?=some (.GV (GL.map GC)):=by rw[hxr];rfl
  have z9:(Item.mk GL e GB GY).GG[10]?=some (.GV (GB.map A8)):=by rw[hxr,Gw.IC];rfl
  have hxE:(Item.mk GL e GB GY).e=e:=rfl;have hxN:(Item.mk GL e GB GY).GL=GL:=rfl;have vQ:(Item.mk GL e GB GY).GB=GB:=rfl;have vR:(Item.mk GL e GB GY).wt=GL.length+e.wt+Ax GB:=by simp only[BF]
  have rj:(Item.mk GL e GB GY).YA=BY GB:=by simp only[Item.YA]
  have hxe:∀u w f M k,(Item.mk GL e GB GY).ed false u w f M k=((GB=[]/\∃n,n∈GL/\f n=u/\(M w\/∃m,m∈Li e/\f m=w))\/BM false u w GB f (λc=>M c\/∃m,m∈BS GB/\f m=c) k):=λu w f M k=>by simp only[Item.ed]
  generalize hx:Item.mk GL e GB GY=x at*;have hrd:=Ze e;have qV:=GD.PW GB;have hlx:=congrArg List.length rj;obtain⟨hcw,AMG⟩:=jA GB;obtain⟨s1,Kq⟩:∃s1,s1=(s.new (.box [.nil,(.int .i64 0),(.int .i64 0),(.Gh ⟨#[]⟩),(.int .i64 0),(.int .i64 0),(.int .i64 0),(.int .i64 0),.nil,(.int .i64 0),.nil,(.int .i64 0)])).set s.next (.box x.GG):=⟨_,rfl⟩
  have LX:∀b,b<s.next->s1.heap b=s.heap b:=λb hb=>by rw[Kq,Ar AA,Av rfl AA]
  have fT:s1.next=s.next+1:=by rw[Kq];rfl
  have MS:Gm s1:=by rw[Kq];exact Hx (Hh hf) AH
  have hG1:HT s s1:=by rw[Kq];exact H9.trans (IV AH)
  have hi1:s1.heap s.next=some (.box x.GG):=by rw[Kq];exact A4
  obtain⟨s2,JY⟩:∃s2,s2=s1.new (.HE ((Li x.e).map GC).length 1):=⟨_,rfl⟩
  have M4:Gm s2:=by rw[JY];exact Hh MS
  have Jm:∀b,b<s.next->s2.heap b=s.heap b:=λb hb=>by rw[JY,Av rfl AA];exact LX b hb
  have xq:HT s s2:=by rw[JY];exact hG1.trans H9
  have Ml:s2.heap s.next=some (.box x.GG):=by rw[JY,Av rfl AA];exact hi1
  have ju:=My.S5 hf hg M4 xq Jm;have hX2:QV s2 g s.next x.GG:=.new hf hg (Bg _) Ml;have AUg:=lB.JD hf ju;unfold M3 vA;refine Fy Ab4 ?_;rw[Bb];refine Fy AbW ?_;refine ct ?_;refine Fy Acj ?_;refine Fy (IB x.GX) ?_;refine Fy (Lw rfl) ?_;refine Fy AcR ?_;rw[<- Kq];refine Fy Hj ?_;refine Fy (M7 hi1 (AAN x)) ?_;refine bq (sj (x:=x.e) (by rw[hxE];exact hwe) Aak) Ri rfl rfl rfl ?_;simp only[KB,Jl];rw[<- JY];refine Fy kP ?_
  have AB0:∀s3 g3,My s g s3 g3->QV s3 g3 s.next x.GG->Zx g g3 [] (λu w=>GB=[]/\∃n,n∈GL/\Hv sc n=u/\(M w\/∃m,m∈Li e/\Hv sc m=w)) (T+20020*(GL.length+e.wt))->
    da (.Hw .Jh) Q (M3 (.Hw .Jh) Q (n+1)) (.GN g.gp 0) (.GV (l.map Aq)) mv (.GN bx 0) (.int .i64 i) (.GN s.next 0) s3:=λs3 g3 eu hX3 A3=>by
   have Tl:=eu.Iv;have AC6:=lB.JD hf eu;have mg:g3.os.length=g.os.length:=A3.len;obtain⟨o',s4,a1,a2,a3,a4,a5,a6⟩:=UA Tl (o:=none) (l:=[]) (by rfl) lV AB
   have mj:o'=s3.next:=by
    rcases a4 with⟨h,_⟩|⟨_,h1,_⟩
    .cases h
    .exact h1
   have hR4:CR s3 o' Ie s4:=⟨λb hb=>a3 b AA,a6,a5,a2,AA⟩
   unfold da;refine Fy a1 ?_;refine Fy kP ?_;refine⟨_,pz Tl AA AC6.GY hX3.GY (by rw[vQ];exact ARh) (λst I0=>⟨(vP st AZ4).ASn,?_⟩) x.GB.length 0 AA AA (l:=Ie) hR4 AaS λs5 h5=>?_⟩
   .rw[vQ]at I0;obtain⟨a,b,qS⟩:=List.append_of_mem I0;have h9:Ax GB=Ax (a++st::b):=by rw[qS]
    rw[GD.HY]at h9;obtain⟨_,_,_,_,_,_⟩:=st;simp only[Ax,BG,GD.JB]at h9⊢;omega
   rw[CA]at h5⊢;rw[vQ]at h5⊢;have Pq:(Ie++(BS GB).map (Hv sc)).length=Ie.length+(BS GB).length:=AD;obtain⟨cs,JK⟩:∃cs,cs=Ie++(BS GB).map (Hv sc):=⟨_,rfl⟩
   rw[<- JK]at h5 Pq⊢
   have hM':Mo cs λc=>M c\/∃m,m∈BS GB/\Hv sc m=c:=λy=>by
    rw[JK,Bf,B8,hM y];constructor
    .rintro(⟨p,q⟩|⟨m,p,rfl⟩)
     .exact⟨p,.inl q⟩
     .exact⟨AMj m p,.inr ⟨m,p,rfl⟩⟩
    .rintro⟨p,q|⟨m,q,rfl⟩⟩
     .exact .inl ⟨p,q⟩
     .exact .inr ⟨m,q,rfl⟩
   have ARU:=My.S5 Tl eu.gs h5.Iv h5.Iw h5.old;have mr:=eu.trans ARU;unfold db;rw[<- mr.gp];refine⟨_,ss (x:=x) (by rw[vQ];exact ARh) (λst I0=>(vP st AZ4).AR4) (λst I0=>IHx st AZ4) (av:=.HL o' (I7 cs)) rfl hM' (λst I0=>by have:=AMG st AZ4;omega) x.GB.length 0 AA AA h5.Iv mr.gs (lB.JD hf mr) (hX3.JD Tl ARU) A3.PX AaS AaS AaS (by rw[A3.IK,mg];simp[ha]) (by rw[A3.nm,mg,Vh];rfl) (λn=>by have:=Up n;omega) (by rw[CA,vQ,mg];exact AVf) λs6 g6 h6 A6=>?_⟩;rw[CA,vQ]at A6;have yD:=mr.trans h6;have A:=A3.trans (C:=x.YA) (G:=λu w=>x.ed false u w (Hv sc) M g.os.length) A6 (by rw[rj];rfl) λu w _=>by rw[hxe,mg]
   have x7:=A.len;unfold dZ;refine Fy AbS ?_;refine Fy Il ?_;rw[h6.gp.symm];refine fH lV hM hl hw IH hm n (i+1) AA G7 h6.Iv h6.gs (lB.JD hf yD) (T:=T+20020*x.wt) (A.PX.mono AA) AA AA AA (by rw[A.IK,x7];simp[ha]) (by rw[A.nm,x7,Vh]) (λn=>by have:=Up n;omega) (by rw[x7];exact AVh) λs7 g7 h7 A7=>hW s7 g7 (yD.trans h7) ?_;have a3:=A.trans (C:=BT (x::l.drop (i+1))) (G:=λu w=>BL false u w (x::l.drop (i+1)) (Hv sc) M g.os.length) A7 (by simp only[BT]) λu x _=>by rw[x7];simp only[BL]
   exact⟨a3.IK,a3.nm,a3.on,a3.PX.mono AA⟩
  by_cases I0:GB=[]
  .obtain⟨AMk,AVg⟩:=AMi I0;have YL:GL.length*((Li x.e).length+Ie.length)<=GL.length*20000:=Nat.mul_le_mul_left _ Aak;refine⟨_,sq AA Aak lV (by rw[vQ];exact I0) (by rw[hxN];exact Pr) x.GL.length 0 AA AA M4 ju.gs AUg hX2 (λm hm=>⟨(Hv sc m).toNat,by have:=AMk m (by rw[<- hxN];exact hm);omega,by have:=Up m;have:=AMk m (by rw[<- hxN];exact hm);omega⟩) hT (by rw[hxN];omega) λs3 g3 b1 b2=>?_⟩;rw[CA]at b2;have eu:=ju.trans b1.JD;refine AB0 s3 g3 eu (hX2.JD M4 b1.JD) ⟨by rw[b1.IK];simp,by rw[b1.GL];rfl,?_,?_⟩
   .show L2 _ (g3.os.map Bx) _ _;rw[b2,hxN,hxE];refine(Ny (E:=λn u w=>Hv sc n=u/\(M w\/∃m,m∈Li e/\Hv sc m=w)) λn P' hn hl'=>AD2 hM ⟨AMk n hn,by rw[hl',Bb];exact Up n⟩ AVg).iff λu w _=>by simp[I0]
   .show JG (g3.os.map Bx) _;rw[b2];refine(jP hT).mono ?_;rw[hxN];omega
  .have Va:0<GB.length:=List.length_pos_iff.2 I0;refine⟨1,?_⟩;have cL:=hX2.GY;have done:=AB0 s2 g ju hX2 ((Zx.refl (T:=T) hT λu w _ h=>I0 h.1)|>λa=>⟨a.IK,a.nm,a.on,a.PX.mono AA⟩);unfold Uk Wn;refine Fy Hj ?_;refine Fy (GH cL h0) ?_;refine Fy (H5 (GK:=GL.map GC) rfl) ?_;rw[Bb];by_cases hnp:0<GL.length
   .refine Fy AbW ?_;refine LZ Hj ?_;refine LZ (GH cL z9) ?_;refine LZ AcN ?_;rw[Bb]
    refine LZ (Gt (v:=.bool false) (by
     show some (PV.bool ((GB.length:Int)==0))=_;rw[show((GB.length:Int)==0)=false by simp;omega])) ?_
    refine Fy Og ?_;refine cf ?_;exact done
   .refine Fy AbX ?_;refine bH ?_;refine bH ?_;refine bH ?_;refine bH ?_;refine Fy Pc ?_;refine cf ?_;exact done
end
def AAt{l:List Item}(hl:l.length<=100000)(hw:∀x,x∈l->x.WF)(IH:∀x,x∈l->∀st,st∈x.GB->ItR st.GQ):ItR l:=by
 intro s g sc mv Ie M T hf hg La lV hM hT Mk hm HM ha Vh Up Jk;refine(ALw (.Hw .Jh) _ _ _ _ ?_).sw hf;obtain⟨s1,Kq⟩:∃s1,s1=s.new (.box (YQ sc)):=⟨_,rfl⟩
 have MS:Gm s1:=by rw[Kq];exact Hh hf
 have LX:∀b,b<s.next->s1.heap b=s.heap b:=λb hb=>by rw[Kq,Av rfl AA]
 have VO:=My.S5 hf hg MS Aa1 LX;unfold g50;refine Fy AdS ?_;rw[<- Kq];exact⟨_,fH lV hM hl hw IH hm l.length 0 AA AA MS VO.gs (.new hf hg (Bg _) AZ3) hT (by rw[CA];exact Mk) (by rw[CA];exact La) (by rw[CA];exact HM) ha Vh Up (by rw[CA];exact Jk) λs' g' h1 h2=>⟨rfl,g',VO.trans h1,by rw[CA]at h2;exact h2⟩⟩
def tT:∀(c:Nat) (l:List Item),As l<=c->l.length<=100000->(∀x,x∈l->x.WF)->ItR l:=by
 intro c
 induction c using Nat.strongRecOn with
 |ind c ih=>
  intro l hc hl hw;refine AAt hl hw λx hx st I0=>?_;obtain⟨GL,e,GB,GY⟩:=x;have vP:st.WF:=by cases hw _ hx with|mk _ _ _ _ h1 h2 h3 h4=>exact h4 st I0
  have h1:Ax GB<=As l:=by
   obtain⟨a,b,rfl⟩:=List.append_of_mem hx;rw[Item.HY];simp only[As,BF];omega
  have h2:st.wt<=Ax GB:=by
   obtain⟨a,b,qS⟩:=List.append_of_mem I0;simp only[Item.GB]at qS;rw[qS,GD.HY];simp only[Ax];omega
  have h3:As st.GQ<st.wt:=by cases st;simp only[BG,GD.GQ];omega
  have:=@ih (As st.GQ) (by omega) st.GQ (Bg _) vP.AHm.1 vP.AHm.2;exact@this
end
section
open Go.Proofs
def GO.fR(n:GO):BA->Int:=S4 (λ_=> -1) 0 n.all
def GO.okR(n:GO):Prop:=(∀v,v∈n.GA->∀c,c∈v.Ga->0<=n.fR c.name)/\Item.sQ n.GQ n.fR n.all.length
def AJD{n:GO}(m:BA):Hv n.sc m=n.fR m:=nT (sc:=[]) m
structure xC (s:St) (n:GO) (r:PV) (s':St) (g:KU):Prop where
 res:r=.GN g.gp 0
 gs:RS s' g
 nm:g.GL.length=n.all.length+(BT n.GQ).length
 IK:g.IK=n.all.map Ge.GY++BT n.GQ
 on:L2 [] g.on (n.all.length+(BT n.GQ).length) (n.ed false n.fR n.all.length)
 PX:JG g.on 410000000
 Hi:∀b,b<s.next->s'.heap b=s.heap b
 new:∀b,b∈g.H2->s.next<=b
def ABJ{n:GO}(hn:n.WF)(Pv:n.wt<=20000)(Jk:n.okR){s:St}(hf:Gm s):
  SW .Jh BZ 30 [.agg n.GG] s λr s'=>∃g,xC s n r s' g:=by
 refine(ALo (.Hw .Jh) _ ?_).sw hf;unfold GO.wt at Pv;have JO:n.all.length=n.JS.length+n.Hz.length+n.GA.length:=by simp[GO.all];omega
 have hnr:n.GG=[.Gh n.name,.GV (n.JS.map Am),.GV (n.Hz.map Am),.GV (n.GA.map Am),.GV (n.GQ.map Aq),I n.GY]:=n.Zg;have La:n.sc.length<=100000:=by rw[GO.sc,py];omega
 have rP:∀m,m∈n.all.map Ao->∃k:Nat,Hv n.sc m=k/\k<n.all.length:=λm hm=>by
  obtain⟨j,_,h1,h2,_,_⟩:=nS hm;exact⟨j,h1,h2⟩
 obtain⟨s1,Kq⟩:∃s1,s1=(s.new (.box n.GG)).new (.box [.nil,.nil,.nil]):=⟨_,rfl⟩
 have fT:s1.next=s.next+2:=by rw[Kq];rfl
 have MS:Gm s1:=by rw[Kq];exact Hh (Hh hf)
 have Lz:s1.heap s.next=some (.box n.GG):=by rw[Kq,Av (n:=s.next+1) rfl AA];exact Az rfl
 have LX:∀b,b<s.next->s1.heap b=s.heap b:=λb hb=>by rw[Kq,Av (n:=s.next+1) rfl AA,Av rfl AA]
 have Rl:RS s1 {gp:=s.next+1,nb:=none,GL:=[],ba:=none,IK:=[],bo:=none,os:=[]}:=⟨by rw[Kq];exact Az rfl,rfl,rfl,rfl,λp hp=>by simp at hp,by simp[KU.HE]⟩
 have hG1:HT s s1:=by rw[Kq];exact H9.trans H9
 unfold g30;refine Fy (Mh (l:=n.GG) (by rw[hnr];rfl) rfl) ?_;refine Fy (bj (l:=[.nil,.nil,.nil]) rfl rfl) ?_;refine Fy (Mh (n:=s.next+1) rfl rfl) ?_;rw[<- Kq];refine Fy Zb ?_;refine Fy (bj (l:=[.nil,.nil]) rfl rfl) ?_;refine Fy (Hm Lz n.GX) ?_;refine bq (tw n [] AB) (args:=[.agg n.lq,.GV ([].map Am)]) (by rw[hnr];rfl) rfl rfl rfl ?_;rw[CG];simp only[Ld,Jl];refine Rc ((yk (sc:=[]) (l:=n.all) MS Rl AA AD rfl rfl AD).Hw (.cons (NK _) (.cons (wq (.cons (VH rfl) (.cons (VH rfl) (.refl [])))) (.refl _)))) λv s2 Tm M4 hq=>?_;obtain⟨o1,o2,g2,rfl,a1,a2⟩:=hq;have Jm:∀b,b<=s.next->s2.heap b=s1.heap b:=λb hb=>a2 b (by simp[KU.H2,KU.HE];omega) AA;have AVw:Qw [] ([]:List BA).length n.all=n.sc:=rfl;simp only[AVw]
 have Ml:∀b,b∈g2.H2->s.next<b:=λb hb=>by
  rcases a1.H2 b hb with h|h
  .simp[KU.H2,KU.HE]at h;omega
  .omega
 have L0:QV s2 g2 s.next n.GG:=⟨(Jm _ (Bg _)).trans Lz,λhm=>by have:=Ml _ hm;omega⟩
 have ADR:g2.os.length=n.all.length:=by rw[a1.os];simp
 have hnx2:=Tm.next;have AHJ:g2.gp=s.next+1:=a1.gp;obtain⟨s3,Ra⟩:∃s3,s3=(s2.new (.box [.nil,.nil])).set s2.next (.box [.HL o1 ((n.sc.map CO).map GC),.HL o2 (I7 (n.sc.map Bx))]):=⟨_,rfl⟩
 have gI:∀b,b<s2.next->s3.heap b=s2.heap b:=λb hb=>by rw[Ra,Ar AA,Av rfl AA]
 have Tl:Gm s3:=by rw[Ra];exact Hx (Hh M4) AH
 have hG3:HT s2 s3:=by rw[Ra];exact H9.trans (IV AH)
 have hx3:s3.heap s2.next=some (.box [.HL o1 ((n.sc.map CO).map GC),.HL o2 (I7 (n.sc.map Bx))]):=by rw[Ra];exact A4
 have hK3:MN s2 g2 s3 g2:=(MN.refl Tl (a1.gs.Hi λb hb=>gI b (a1.gs.lt M4 hb))).MW M4 a1.gs hG3 gI;have ma:=L0.ZR M4 hK3;rw[hnr]at ma;have AC6:QV s3 g2 s2.next [.HL o1 ((n.sc.map CO).map GC),.HL o2 (I7 (n.sc.map Bx))]:=⟨hx3,λhm=>by have:=a1.gs.lt M4 hm;omega⟩
 have hwk:∀m v,VR m (.agg [.HL o1 ((n.sc.map CO).map GC),.HL o2 (I7 (n.sc.map Bx))]) v->VR m (.agg (YQ n.sc)) v:=wq (.cons (VH rfl) (.cons (VH rfl) (.refl [])));refine Fy (Lw rfl) ?_;refine Fy Abw ?_;rw[<- Ra];refine Fy (Hm hx3 rfl) ?_;refine Fy Hj ?_;refine Fy (GH ma.GY (v:=.GV (n.GA.map Am)) rfl) ?_;have hlm:∀v,v∈n.GA->v.name∈n.all.map Ao:=λv hv=>B8.2 ⟨v,by simp[GO.all,hv],rfl⟩;have pL:g2.os.map Bx=n.all.map λ_=>[]:=by rw[a1.os];simp
 have Mk:JG (g2.os.map Bx) 0:=by rw[pL];intro l hl;obtain⟨_,_,rfl⟩:=B8.1 hl;simp
 rw[<- AHJ];refine Rc ((kX La (l:=n.GA) AA (λv hv=>(hn.GA.all v hv).Ga) Tl hK3.gs (λv hv=>by rw[ADR];exact rP _ (hlm v hv)) Mk AA).Hw (.cons (NK _) (.cons hwk (.refl _)))) λv s4 hg4 hf4 hq=>?_;obtain⟨rfl,g4,b1,b2⟩:=hq;have hb4:=ma.ZR Tl b1;have AMC:=AC6.ZR Tl b1;refine Fy Hj ?_;refine Fy (GH hb4.GY (v:=.GV (n.GQ.map Aq)) rfl) ?_;refine Fy (Hm AMC.GY rfl) ?_;have hT4:JG (g4.os.map Bx) (0+17*n.GA.length):=by rw[b2];exact Ue (λv hv=>(hn.GA.all v hv).Ga) Mk
 have hlat:=Item.PW n.GQ;rw[<- b1.gp];have lT:g4.os.length=n.all.length:=by rw[b1.len,ADR]
 have hfR:Hv n.sc=n.fR:=funext AJD
 refine Rc ((tT _ n.GQ (Bg _) hn.len hn.GQ (mv:=.nil) (Ie:=[]) (M:=λ_=>False) b1.Iv b1.gs (sc:=n.sc) (by rw[GO.sc,py];omega) rfl (λx=>by simp) hT4 AA AB AA (by rw[b1.IK,a1.IK,lT];simp) (by rw[b1.GL,a1.GL,lT];simp) (λm=>by
  rw[AJD,lT];have:=XB (f:=λ_=> -1) (k:=0) (l:=n.all) (λ_=>by omega) m;unfold GO.fR;simpa using this) (by rw[lT,hfR];exact Jk.2)).Hw (.cons (NK _) (.cons (NK _) (.cons hwk (.refl _))))) λv s5 hg5 hf5 hq=>?_
 obtain⟨rfl,g5,c1,c2⟩:=hq;have hr:=(hK3.trans b1).JD.trans c1;refine Fy Zb ?_;refine L5 (Q:=λr s'=>∃g,xC s n r s' g) rfl ⟨g5,by rw[c1.gp];rfl,c1.gs,?_,?_,?_,c2.PX.mono AA,λb hb=>?_,λb hb=>?_⟩
 .rw[c2.nm,b1.GL,a1.GL];simp
 .rw[c2.IK,b1.IK,a1.IK];simp
 .have m1:L2 [] g4.on n.all.length λu w=>∃v,v∈n.GA/\n.fR v.name=u/\∃c,c∈v.Ga/\n.fR c.name=w:=by
   show L2 _ (g4.os.map Bx) _ _;rw[b2,pL,<- hfR];refine(bZ (P:=[]) (l:=n.all) (E:=λ_ _=>False) λ_ _ _ h=>h).trans (kJ (λv hv=>?_) λv hv c hc=>by rw[hfR];exact Jk.1 v hv c hc) rfl λu x _=>by simp
   obtain⟨k,h1,h2⟩:=rP _ (hlm v hv);simp;omega
  have m2:=c2.on;rw[lT,hfR]at m2;exact m1.trans m2 rfl λu x _=>Iff.rfl
 .rw[hr.Hi b (λhm=>by have:=Ml b hm;omega) AA,Jm b AA,LX b hb]
 .rcases hr.H2 b hb with h|h
  .have:=Ml b h;omega
  .omega
end
section
open Go.Proofs Go.Ti
def VK(f:Nat->Bool)(n:Nat):LP:=(CS n).map λi=> .bool (f i)
def qx{f:Nat->Bool}{n v:Nat}(h:v<n):(VK f n)[v]?=some (.bool (f v)):=by simp[VK,h]
def zX{f:Nat->Bool}{n v:Nat}{x:Bool}:(VK f n).set v (.bool x)=VK (Pm f v x) n:=by refine DK λi=>?_;unfold VK Pm;exact AeR
def KU.gr(g:KU)(v:Nat):LN:=(g.on.getD v []).map Dk
def Wv(s0 s:St)(sb:Nat)(wv:PV)(l:LN):Prop:=(∃b,wv=.HL b []/\l=[])\/∃wb cells,wv=.ME wb l.length/\s0.next<=wb/\wb≠sb/\s.heap wb=some (.K7 1 cells)/\l.length<=cells.length/\cells.take l.length=l.reverse.map λu=> .int .i64 (u:Nat)
structure WR (s0:St) (n sb:Nat) (sn:Nat->Bool) (wv:PV) (l:List Nat) (s:St):Prop where
 old:∀b,b<s0.next->s.heap b=s0.heap b
 Iv:Gm s
 nb:s0.next<=sb
 lu:s.heap sb=some (.K7 1 (VK sn n))
 AIs:Wv s0 s sb wv l
 next:s0.next<=s.next
structure ABq (g:KU) (n:Nat):Prop where
 len:g.os.length=n
 le:n<=100000
 val:∀(v:Nat) x,x∈g.on.getD v []->0<=x/\x<n
 PX:JG g.on 410000000
 n2:n<=20000
def AH8{x:PV}{s:St}(hx:x.GK=some []):H8 (II 1 8 .nil x) s .nil s [] []:=by unfold H8;exact⟨.val .nil,by unfold II;simp only[hx];rfl,rfl,rfl,rfl⟩
def AJG{n:Nat}(h:n<=17000000000000):Go.Ab.Im n 8=true:=by unfold Go.Ab.Im;simp;omega
def kf{l:LI}(h:∀x,x∈l->0<=x):(I7 l).flatten=(l.map Dk).map λu=> .int .i64 (u:Nat):=by
 unfold I7
 induction l with
 |nil=>rfl
 |cons a l ih=>
  have ha:=h a AD;simp only[DE,DU,List.singleton_append];rw[ih λx hx=>h x (by simp[hx])];congr 2;omega
def eE{a:Nat}{s:St}(h:1<=a)(h2:a<=17000000000000):H8 (HC BZ .sub 3 (.int .i64 (a:Nat)) (.int .i64 1)) s (.int .i64 ((a-1:Nat):Int)) s [] []:=Gt (by
 show some (BD .i64 (IntKind.i64.wrap _))=_;rw[HB AA AA,show(a:Int)-1=((a-1:Nat):Int) by omega])
variable{g:KU} {n k:Nat} {s0:St} {sb:Nat} {Q:F1}
def wN(hV:ABq g n)(hf0:Gm s0)(hg:RS s0 g)(hk:k<n){sn:Nat->Bool}{l:LN}{b:Bool}(h:Wk g.gr k sn l b):(∀w,w∈l->w<n)->l.length+left sn n*410000000<=17000000000000->
  (∀s',(∀b,b<s0.next->s'.heap b=s0.heap b)->Gm s'->s0.next<=s'.next->Q (.bool b) s')->∃m,∀wv s,WR s0 n sb sn wv l s->Wl (.Hw .Jh) Q m (.GN g.gp 0) (.int .i64 k) (.ME sb n) wv s:=by
 induction h with
 |nil sn=>
  intro _ _ hQ;refine⟨1,λwv s h=>?_⟩
  have HM:H8 (Gq wv) s (.int .i64 (0:Nat)) s [] []:=by
   rcases h.AIs with⟨b,rfl,_⟩|⟨wb,cells,rfl,_⟩
   .exact H5 (GK:=[]) rfl
   .exact Pb
  unfold Wl aq;refine Fy HM ?_;refine Fy (Gt (v:=.bool false) (by show some (PV.bool (decide _))=_;simp)) ?_;refine cf ?_;unfold u5;exact L5 rfl (hQ s h.old h.Iv h.next)
 |Zs sn r=>
  intro hl hb hQ;refine⟨1,λwv s h=>?_⟩;rcases h.AIs with⟨b,_,h2⟩|⟨wb,cells,rfl,h1,h2,h3,h4,h5⟩
  .cases h2
  have hc:cells[r.length]?=some (.int .i64 (k:Nat)):=by
   have h6:(cells.take (k::r).length)[r.length]?=((k::r).reverse.map λu=>BD .i64 (u:Nat))[r.length]?:=by rw[h5]
   rw[DI AD]at h6;rw[h6];simp
  simp only[CE]at hb;unfold Wl aq;refine Fy Pb ?_;refine Fy (Gt (rL AD)) ?_;refine ct ?_;refine Fy Pb ?_;refine Fy (eE AD AB) ?_;refine Fy (Jt AA AD) ?_;refine Fy (KJ h3 AZy) ?_;refine Fy Il ?_;refine Fy Pb ?_;refine Fy (eE AD AB) ?_;refine Fy (yZ AA AD) ?_;refine Fy Zc ?_;refine Fy (Gt (ALf rfl)) ?_;refine ct ?_;exact L5 rfl (hQ s h.old h.Iv h.next)
 |lu sn v r b hvk hs hW ih=>
  intro hl hb hQ;simp only[CE]at hb;obtain⟨m,hm⟩:=ih (λw hw=>hl w (Bq _ hw)) AA hQ;refine⟨m+1,λwv s h=>?_⟩;have lY:=hl v Bw;rcases h.AIs with⟨b,_,h2⟩|⟨wb,cells,rfl,h1,h2,h3,h4,h5⟩
  .cases h2
  have hc:cells[r.length]?=some (.int .i64 (v:Nat)):=by
   exact Aee
  unfold Wl aq;refine Fy Pb ?_;refine Fy (Gt (rL AD)) ?_;refine ct ?_;refine Fy Pb ?_;refine Fy (eE AD AB) ?_;refine Fy (Jt AA AD) ?_;refine Fy (KJ h3 AZy) ?_;refine Fy Il ?_;refine Fy Pb ?_;refine Fy (eE AD AB) ?_;refine Fy (yZ AA AD) ?_;refine Fy Zc ?_;refine Fy AdE ?_;refine cf ?_;refine Fy (Jt AA AA) ?_;refine Fy (KJ h.lu (v:=.bool true) (by rw[Cj,qx lY,hs])) ?_;refine Fy S8 ?_;refine cf ?_;refine hm _ s ⟨h.old,h.Iv,h.nb,h.lu,.inr ⟨wb,cells,AD,h1,h2,h3,by simp at h4;omega,?_⟩,h.next⟩;exact Ae3
 |new sn v r b hvk hs hW ih=>
  intro hl hb hQ;simp only[CE]at hb;have lY:=hl v Bw;obtain⟨p,hp⟩:∃p,g.os[v]?=some p:=⟨_,Bc (by rw[hV.len];exact lY)⟩
  have he:g.on.getD v []=p.2:=by rw[CK,CV,hp];rfl
  have hgv:g.gr v=p.2.map Dk:=by unfold KU.gr;rw[he]
  have fW:p.2.length<=410000000:=hV.PX _ (B8.2 ⟨p,Bn hp,rfl⟩);have hp0:∀x,x∈p.2->0<=x/\x<n:=λx hx=>hV.val v x (by rw[he];exact hx);have G7:left (Pm sn v true) n<left sn n:=YB (λu hu=>by unfold Pm;split<;>simp[*]) hs (M9 _ _ _) n lY
  obtain⟨m,hm⟩:=ih (λw hw=>by
   rcases Bf.1 hw with hw|hw
   .rw[hgv]at hw;obtain⟨x,hx,rfl⟩:=B8.1 (List.mem_reverse.1 hw);have:=hp0 x hx;omega
   .exact hl w (Bq _ hw)) (by rw[hgv];simp only[Bd,List.length_reverse,Bb];omega) hQ
  refine⟨m+1,λwv s h=>?_⟩;rcases h.AIs with⟨b,_,h2⟩|⟨wb,cells,rfl,h1,h2,h3,h4,h5⟩
  .cases h2
  have hc:cells[r.length]?=some (.int .i64 (v:Nat)):=by
   exact Aee
  have hnb:=h.nb;obtain⟨s1,Kq⟩:∃s1,s1=s.set sb (.K7 1 (VK (Pm sn v true) n)):=⟨_,rfl⟩
  have MS:Gm s1:=by rw[Kq];exact Hx h.Iv (by rw[h.lu];simp)
  have LX:∀b,b≠sb->s1.heap b=s.heap b:=λb hb=>by rw[Kq,Ar hb]
  have Rl:RS s1 g:=hg.Hi λb hb=>by have:=hg.lt hf0 hb;rw[LX b AA,h.old b this]
  have SY:s1.heap wb=some (.K7 1 cells):=(LX wb h2).trans h3;have ADL:=Gu MS SY;obtain⟨ob,mn,lX⟩:=Rl.RD (v:=v) (by rw[hV.len];exact lY);have KT:=Rl.HE p (Bn hp);have hsbl:sb<s1.next:=by have:=Gu h.Iv h.lu;rw[Kq];exact this
  unfold Wl aq;refine Fy Pb ?_;refine Fy (Gt (rL AD)) ?_;refine ct ?_;refine Fy Pb ?_;refine Fy (eE AD AB) ?_;refine Fy (Jt AA AD) ?_;refine Fy (KJ h3 AZy) ?_;refine Fy Il ?_;refine Fy Pb ?_;refine Fy (eE AD AB) ?_;refine Fy (yZ AA AD) ?_;refine Fy Zc ?_;refine Fy AdE ?_;refine cf ?_;refine Fy (Jt AA AA) ?_;refine Fy (KJ h.lu (v:=.bool false) (by rw[Cj,qx lY,hs])) ?_;refine Fy S8 ?_;refine ct ?_;refine Fy (Jt AA AA) ?_;refine Fy (T3 h.lu rfl (by simp[VK];omega)) ?_;simp only[Cj,zX,CE,Nat.add_sub_cancel];rw[<- Kq];refine Fy Kl ?_;refine Fy Hj ?_;refine Fy (GH Rl.box rfl) ?_;rw[mn];refine Fy (Jt AA (by rw[hV.len];omega)) ?_;refine Fy AcY ?_;have Pq:r.length<=cells.length:=by simp at h4;omega
  have hct:cells.take r.length=r.reverse.map λu=> .int .i64 (u:Nat):=by
   exact Ae3
  refine Fy (vm (n:=r.length) (xs:=I7 p.2) (m:=s1.next) (NY KT) SJ (AJG (by rw[MC];omega)) SY AA rfl) ?_;refine Fy Zc ?_;refine hm _ _ ⟨λb hb=>?_,Hh (Hx MS (by rw[SY];simp)),h.nb,?_,.inr ⟨s1.next,_,?_,AA,AA,Az (s:=s1.set wb .KV) rfl,?_,?_⟩,?_⟩
  .rw[Av (s:=s1.set wb .KV) (n:=s1.next) rfl AA,Ar AA,LX b AA,h.old b hb]
  .rw[Av (s:=s1.set wb .KV) (n:=s1.next) rfl AA,Ar (Ne.symm h2),Kq];exact A4
  .rw[hgv];simp[MC];omega
  .rw[hgv,kf λx hx=>(hp0 x hx).1];simp;omega
  .rw[hgv,kf λx hx=>(hp0 x hx).1,Nat.mul_one,hct];rw[Cc AB];simp
  .show s0.next<=s1.next+1;have:s1.next=s.next:=by rw[Kq];rfl
   have:=h.next;omega
def AEj(hV:ABq g n){s:St}(hf:Gm s)(hg:RS s g)(Vh:g.GL.length=n)(hk:k<n):
  SW .Jh BZ 31 [.GN g.gp 0,.int .i64 k] s λr s'=>∃b,r=.bool b/\(b=true<->R g.gr k k)/\(∀b,b<s.next->s'.heap b=s.heap b)/\s.next<=s'.next:=by
 have hn:=hV.n2;obtain⟨p,hp⟩:∃p,g.os[k]?=some p:=⟨_,Bc (by rw[hV.len];exact hk)⟩
 have he:g.on.getD k []=p.2:=by rw[CK,CV,hp];rfl
 have hgk:g.gr k=p.2.map Dk:=by unfold KU.gr;rw[he]
 have fW:p.2.length<=410000000:=hV.PX _ (B8.2 ⟨p,Bn hp,rfl⟩);have hp0:∀x,x∈p.2->0<=x/\x<n:=λx hx=>hV.val k x (by rw[he];exact hx)
 have hgr:∀v w,v<n->w∈g.gr v->w<n:=λv w _ hw=>by
  exact Ag4
 have hln:=vY (λ_=>false) n;obtain⟨b,hW⟩:=Wk.ex hgr k _ (λ_=>false) rfl (g.gr k).reverse λw hw=>hgr k w hk (List.mem_reverse.1 hw);have AVK:=AAx hW;refine(ALp (.Hw .Jh) _ _ ?_).sw hf;obtain⟨ob,mn,lX⟩:=hg.RD (v:=k) (by rw[hV.len];exact hk);obtain⟨s1,Kq⟩:∃s1,s1=s.new (.K7 1 (VK (λ_=>false) n)):=⟨_,rfl⟩
 have MS:Gm s1:=by rw[Kq];exact Hh hf
 have LX:∀b,b<s.next->s1.heap b=s.heap b:=λb hb=>by rw[Kq,Av rfl AA]
 have Rl:RS s1 g:=hg.Hi λb hb=>LX b (hg.lt hf hb)
 have hz:(DA n [PV.bool false]).flatten=VK (λ_=>false) n:=by
  unfold VK;rw[List.flatten_replicate_singleton];exact DK λi=>by by_cases h:i<n<;>simp[h]
 have KT:=Rl.HE p (Bn hp);have AVd:s1.heap ob=some (.K7 1 (g.os.map Hk)):=(LX _ (Gu hf lX)).trans lX;have fT:s1.next=s.next+1:=by rw[Kq];rfl
 obtain⟨m,hm⟩:=wN hV hf hg hk (sb:=s.next) (Q:=λr s'=>∃b,r=.bool b/\(b=true<->R g.gr k k)/\(∀b,b<s.next->s'.heap b=s.heap b)/\s.next<=s'.next) hW (λw hw=>hgr k w hk (List.mem_reverse.1 hw)) (by rw[hgk];simp only[List.length_reverse,Bb];omega) λs' h1 _ h3=>⟨b,rfl,AVK,h1,h3⟩
 have ARf:s1.heap s.next=some (.K7 1 (VK (λ_=>false) n)):=by rw[Kq];exact St.Kr
 unfold g31;refine Fy Kl ?_;refine Fy Hj ?_;refine Fy Ab8 ?_;refine Fy AdH ?_;rw[Bb,Vh];refine Fy (vn (n:=s.next) AA (Jf AA AL) rfl) ?_;rw[Cj,hz,<- Kq];refine Fy Zc ?_;refine Fy Kl ?_;refine Fy Hj ?_;refine Fy (GH Rl.box rfl) ?_;rw[mn];refine Fy (Jt AA (by rw[hV.len];omega)) ?_;refine Fy (KJ AVd (v:=Hk p) AZo) ?_;cases hl:p.2 with
 |nil=>
  have hcr:=NY KT;rw[hl]at hcr;refine Fy (AH8 hcr) ?_;refine Fy (AEO rfl) ?_;refine⟨m,hm _ _ ⟨λb hb=>?_,Hh MS,Bg _,?_,.inl ⟨_,rfl,by rw[hgk,hl];rfl⟩,?_⟩⟩
  .rw[Av rfl AA,LX b hb]
  .rw[Av rfl AA];exact ARf
  .show s.next<=s1.next+1;omega
 |cons y ys=>
  have hcr:=NY KT;rw[hl]at hcr;have AMn:(I7 (y::ys)).length=p.2.length:=by rw[hl,MC]
  refine Fy (pf (size:=1) (bytes:=8) (x:=Hk p) (GG:=[.int .i64 y]) (xs:=I7 ys) (m:=s1.next) hcr (SJ (l:=y::ys)) (AJG (by show(I7 (y::ys)).length<=_;omega)) rfl) ?_;refine Fy Zc ?_
  have hfl:(([BD .i64 y]::I7 ys).flatten)=(g.gr k).map λu=> .int .i64 (u:Nat):=by
   rw[hgk,<- kf λx hx=>(hp0 x hx).1,hl];rfl
  have Xx:([BD .i64 y]::I7 ys).length=(g.gr k).reverse.length:=by
   rw[hgk];simp only[List.length_reverse,Bb];exact AMn
  rw[hfl,Xx];refine⟨m,hm _ _ ⟨λb hb=>?_,Hh MS,Bg _,?_,.inr ⟨s1.next,_,rfl,AA,AA,St.Kr,?_,?_⟩,?_⟩⟩
  .rw[Av rfl AA,LX b hb]
  .rw[Av rfl AA];exact ARf
  .simp
  .rw[List.reverse_reverse,Cc AD]
  .show s.next<=s1.next+1;omega
end
section
open Go.Ti
def Sh(f f':BA->Int)(d:Nat):Prop:=∀n,(0<=f n->f' n=f n+d)/\(f n<0->f' n<d)
theorem kU{d:Nat}{n:BA}:∀{l:List Ge} {M M':ML} {k:Nat},IQ (.s n) M'=(IQ (.s n) M).map (·+(d:Int))->IQ (.s n) (Le M' (k+d) l)=(IQ (.s n) (Le M k l)).map (·+(d:Int))
 |[],_,_,_,h=>h
 |v::l,M,M',k,h=>by
  simp only[Le];rw[show k+d+1=k+1+d by omega];refine kU ?_;rw[NC,NC];split
  .simp
  .exact h
theorem Sh.S4{f f':BA->Int}{d k:Nat}(h:Sh f f' d){l:List Ge}:Sh (S4 f k l) (S4 f' (k+d) l) d:=λn=>by
 have:=kU (d:=d) (n:=n) (l:=l) (M:=[]) (M':=[]) (k:=k) rfl;unfold Go.Vi.S4;rw[this];cases hm:IQ (.s n) (Le [] k l)with
 |none=>exact h n
 |some i=>
  have h0:0<=i:=by
   exact AhV
  simp;omega
theorem Sh.at{d:Nat}{f f':BA->Int}(h:Sh f f' d)(n:BA){v:Int}(hv:0<=v):f n=v<->f' n=v+d:=by
 obtain⟨h1,h2⟩:=h n;by_cases c:0<=f n
 .have:=h1 c;omega
 .have:=h2 AA;omega
theorem Sh.mem{d:Nat}{f f':BA->Int}(h:Sh f f' d){l:List BA}{v:Int}(hv:0<=v):(∃m,m∈l/\f m=v)<->∃m,m∈l/\f' m=v+d:=exists_congr λm=>and_congr_right λ_=>h.at m hv
section
variable{d:Nat} {b:Bool} {u w:Int} (hu:0<=u) (hw:0<=w)
include hu hw
mutual
theorem Item.ACW:∀(x:Item) {f f':ByteArray->Int} {M M':Int->Prop} {k:Nat},Sh f f' d->(M w<->M' (w+d))->(x.ed b u w f M k<->x.ed b (u+d) (w+d) f' M' (k+d))
 | .mk GL e GB _,f,f',M,M',k,h,hM=>by
  simp only[Item.ed];refine or_congr (and_congr_right λ_=>exists_congr λn=>and_congr_right λ_=>and_congr (h.at n hu) (or_congr hM (h.mem hw))) ?_;exact GD.dM GB h (or_congr hM (h.mem hw))
theorem Item.dM:∀(l:List Item) {f f':ByteArray->Int} {M M':Int->Prop} {k:Nat},Sh f f' d->(M w<->M' (w+d))->(BL b u w l f M k<->BL b (u+d) (w+d) l f' M' (k+d))
 |[],_,_,_,_,_,_,_=>by simp only[BL]
 |x::r,f,f',M,M',k,h,hM=>by
  simp only[BL];rw[show k+d+x.YA.length=k+x.YA.length+d by omega];exact or_congr (Item.ACW x h hM) (Item.dM r h hM)
theorem GD.ACW:∀(x:GD) {f f':ByteArray->Int} {M M':Int->Prop} {k:Nat},Sh f f' d->(M w<->M' (w+d))->(x.ed b u w f M k<->x.ed b (u+d) (w+d) f' M' (k+d))
 | .mk _ _ _ GA GQ _,f,f',M,M',k,h,hM=>by
  simp only[BX];have h2:=h.S4 (k:=k) (l:=GA);rw[show k+d+GA.length=k+GA.length+d by omega];refine or_congr (exists_congr λv=>and_congr_right λ_=>and_congr (h2.at _ hu) (or_congr (and_congr_right λ_=>hM) (exists_congr λc=>and_congr_right λ_=>h2.at _ hw))) (Item.dM GQ h2 hM)
theorem GD.dM:∀(l:List GD) {f f':ByteArray->Int} {M M':Int->Prop} {k:Nat},Sh f f' d->(M w<->M' (w+d))->(BM b u w l f M k<->BM b (u+d) (w+d) l f' M' (k+d))
 |[],_,_,_,_,_,_,_=>by simp only[BM]
 |x::r,f,f',M,M',k,h,hM=>by
  simp only[BM];rw[show k+d+x.YA.length=k+x.YA.length+d by omega];exact or_congr (GD.ACW x h hM) (GD.dM r h hM)
end
end
theorem ANF{f:BA->Int}{k:Nat}{l:List Ge}{n:BA}(h:n∉l.map Ao):S4 f k l n=f n:=by unfold S4;rw[SE λv hv e=>h (B8.2 ⟨v,hv,e⟩)];rfl
section
variable{n:BA} {c:Int} {b:Bool}
mutual
theorem Item.ui:∀(x:Item) {f:ByteArray->Int} {M:Int->Prop} {k:Nat},x.Y0 n->M c->x.ed b (f n) c f M k
 | .mk GL e GB _,f,M,k,hd,hM=>by
  simp only[Item.Y0]at hd;simp only[Item.ed];rcases hd with⟨h1,h2⟩|hd
  .exact .inl ⟨h1,n,h2,rfl,.inl hM⟩
  .exact .inr (GD.Xk GB hd (.inl hM))
theorem Item.Xk:∀(l:List Item) {f:ByteArray->Int} {M:Int->Prop} {k:Nat},Item.Mc n l->M c->BL b (f n) c l f M k
 |[],_,_,_,hd,_=>by simp only[Item.Mc]at hd
 |x::r,f,M,k,hd,hM=>by
  simp only[Item.Mc]at hd;simp only[BL];exact hd.imp (λh=>Item.ui x h hM) λh=>Item.Xk r h hM
theorem GD.ui:∀(x:GD) {f:ByteArray->Int} {M:Int->Prop} {k:Nat},x.Y0 n->M c->x.ed b (f n) c f M k
 | .mk _ _ _ GA GQ _,f,M,k,hd,hM=>by
  simp only[GD.Y0]at hd;simp only[BX];rw[<- ANF (f:=f) (k:=k) hd.1];exact .inr (Item.Xk GQ hd.2 hM)
theorem GD.Xk:∀(l:List GD) {f:ByteArray->Int} {M:Int->Prop} {k:Nat},GD.Mc n l->M c->BM b (f n) c l f M k
 |[],_,_,_,hd,_=>by simp only[GD.Mc]at hd
 |x::r,f,M,k,hd,hM=>by
  simp only[GD.Mc]at hd;simp only[BM];exact hd.imp (λh=>GD.ui x h hM) λh=>GD.Xk r h hM
end
end
section
variable{N:List GO} {nd:Int} {u w:Int}
mutual
theorem Item.uh:∀(x:Item) {S Mm:List ByteArray} {f:ByteArray->Int} {M:Int->Prop} {k:Nat},NI N nd S Mm x->(x.ed true u w f M k<->x.ed false u w f M k)
 | .mk GL e GB _,S,Mm,f,M,k,h=>by
  simp only[Item.ed];exact or_congr Iff.rfl (GD.Xj GB h.Tu)
theorem Item.Xj:∀(l:List Item) {S Mm:List ByteArray} {f:ByteArray->Int} {M:Int->Prop} {k:Nat},(∀x∈l,NI N nd S Mm x)->(BL true u w l f M k<->BL false u w l f M k)
 |[],_,_,_,_,_,_=>by simp only[BL]
 |x::r,S,Mm,f,M,k,h=>by
  simp only[BL];exact or_congr (Item.uh x (h x Bw)) (Item.Xj r λy hy=>h y (Bq _ hy))
theorem GD.uh:∀(x:GD) {S Mm:List ByteArray} {f:ByteArray->Int} {M:Int->Prop} {k:Nat},NS N nd S Mm x->(x.ed true u w f M k<->x.ed false u w f M k)
 | .mk _ _ _ GA GQ _,S,Mm,f,M,k,h=>by
  cases h with|mk _ _ _ _ _ _ _ _ h1 h2 h3 h4 h5=>
  have hi:=Item.Xj GQ (f:=S4 f k GA) (M:=M) (k:=k+GA.length) h2;simp only[BX];constructor
  .rintro(⟨v,hv,e,⟨_,hM⟩|hc⟩|h)
   .rw[<- e];exact .inr (Item.Xk GQ (h5 v hv) hM)
   .exact .inl ⟨v,hv,e,.inr hc⟩
   .exact .inr (hi.1 h)
  .rintro(⟨v,hv,e,⟨hM,_⟩|hc⟩|h)
   .cases hM
   .exact .inl ⟨v,hv,e,.inr hc⟩
   .exact .inr (hi.2 h)
theorem GD.Xj:∀(l:List GD) {S Mm:List ByteArray} {f:ByteArray->Int} {M:Int->Prop} {k:Nat},(∀x∈l,NS N nd S Mm x)->(BM true u w l f M k<->BM false u w l f M k)
 |[],_,_,_,_,_,_=>by simp only[BM]
 |x::r,S,Mm,f,M,k,h=>by
  simp only[BM];exact or_congr (GD.uh x (h x Bw)) (GD.Xj r λy hy=>h y (Bq _ hy))
end
end
end
section
open Go.Ti
def du{f:BA->Int}{d k:Nat}{l:List Ge}{n:BA}(hk:d<=k)(h:n∈l.map Ao\/(d:Int)<=f n):(d:Int)<=S4 f k l n:=by
 rcases h with h|h
 .obtain⟨v,hv,rfl⟩:=B8.1 h;have:=(Us (f:=f) (k:=k) hv).1;omega
 .unfold S4;split
  .rename_i i hm;exact AhV
  .exact h
section
variable{N:List GO} {nd:Int}
mutual
def Item.AES:∀(x:Item) {S Mm:List ByteArray} {f:ByteArray->Int} {k:Nat},NI N nd S Mm x->qO S x->(∀n,n∈S->0<=f n)->(∀n,n∈Mm->0<=f n)->x.ok f k
 | .mk GL e GB a,S,Mm,f,k,h,hc,hS,hM=>by
  simp only[Item.ok];refine⟨λhs=>?_,λm hm=>?_,GD.eF GB h.Tu hc.K5 hS hM⟩
  .obtain⟨h1,h2⟩:=h.dv hs;exact⟨λn hn=>hM n (Wr (h1 n hn)),λm hm=>hS m (pt _ h2 m hm)⟩
  .obtain⟨st,I0,hm⟩:=List.mem_flatMap.1 hm;obtain⟨t,ht,hm'⟩:=List.mem_flatMap.1 hm;have:=h.Tu st I0;cases this with|mk _ _ _ _ _ _ _ _ h1 h2 h3 h4 h5=>exact hS m (pt _ (h1 t ht) m hm')
def Item.eF:∀(l:List Item) {S Mm:List ByteArray} {f:ByteArray->Int} {k:Nat},(∀x∈l,NI N nd S Mm x)->(∀x∈l,qO S x)->(∀n,n∈S->0<=f n)->(∀n,n∈Mm->0<=f n)->Item.sQ l f k
 |[],_,_,_,_,_,_,_,_=>by simp only[Item.sQ]
 |x::r,S,Mm,f,k,h,hc,hS,hM=>by
  simp only[Item.sQ];exact⟨Item.AES x (h x Bw) (hc x Bw) hS hM,Item.eF r (λy hy=>h y (Bq _ hy)) (λy hy=>hc y (Bq _ hy)) hS hM⟩
def GD.AES:∀(x:GD) {S Mm:List ByteArray} {f:ByteArray->Int} {k:Nat},NS N nd S Mm x->NCS S x->(∀n,n∈S->0<=f n)->(∀n,n∈Mm->0<=f n)->x.ok f k
 | .mk _ _ _ GA GQ _,S,Mm,f,k,h,hc,hS,hM=>by
  cases h with|mk _ _ _ _ _ _ _ _ h1 h2 h3 h4 h5=>
  cases hc with|mk _ _ _ _ _ _ _ c1 c2=>
  simp only[GD.ok];have hS':∀n,n∈S++GA.map Ao->0<=S4 f k GA n:=λn hn=>du (d:=0) (DO _) ((Bf.1 hn).symm.imp id (hS n));refine⟨λv hv c hcv=>hS' _ (Wr (c1 v hv c hcv)),Item.eF GQ h2 c2 hS' λn hn=>du (d:=0) (DO _) ((Bf.1 hn).symm.imp id (hM n))⟩
def GD.eF:∀(l:List GD) {S Mm:List ByteArray} {f:ByteArray->Int} {k:Nat},(∀x∈l,NS N nd S Mm x)->(∀x∈l,NCS S x)->(∀n,n∈S->0<=f n)->(∀n,n∈Mm->0<=f n)->GD.sQ l f k
 |[],_,_,_,_,_,_,_,_=>by simp only[GD.sQ]
 |x::r,S,Mm,f,k,h,hc,hS,hM=>by
  simp only[GD.sQ];exact⟨GD.AES x (h x Bw) (hc x Bw) hS hM,GD.eF r (λy hy=>h y (Bq _ hy)) (λy hy=>hc y (Bq _ hy)) hS hM⟩
end
variable{d:Nat} {b:Bool} {u w:Int}
mutual
def Item.jI:∀(x:Item) {S Mm:List ByteArray} {f:ByteArray->Int} {M:Int->Prop} {k:Nat},NI N nd S Mm x->(∀n,n∈Mm->(d:Int)<=f n)->d<=k->x.ed b u w f M k->(d:Int)<=u
 | .mk GL e GB a,S,Mm,f,M,k,h,hM,hk,he=>by
  simp only[Item.ed]at he;rcases he with⟨hs,n,hn,rfl,_⟩|he
  .exact hM n (Wr ((h.dv hs).1 n hn))
  .exact GD.Xl GB h.Tu hM hk he
def Item.Xl:∀(l:List Item) {S Mm:List ByteArray} {f:ByteArray->Int} {M:Int->Prop} {k:Nat},(∀x∈l,NI N nd S Mm x)->(∀n,n∈Mm->(d:Int)<=f n)->d<=k->BL b u w l f M k->(d:Int)<=u
 |[],_,_,_,_,_,_,_,_,he=>by simp only[BL]at he
 |x::r,S,Mm,f,M,k,h,hM,hk,he=>by
  simp only[BL]at he;exact he.elim (Item.jI x (h x Bw) hM hk) (Item.Xl r (λy hy=>h y (Bq _ hy)) hM AA)
def GD.jI:∀(x:GD) {S Mm:List ByteArray} {f:ByteArray->Int} {M:Int->Prop} {k:Nat},NS N nd S Mm x->(∀n,n∈Mm->(d:Int)<=f n)->d<=k->x.ed b u w f M k->(d:Int)<=u
 | .mk _ _ _ GA GQ _,S,Mm,f,M,k,h,hM,hk,he=>by
  cases h with|mk _ _ _ _ _ _ _ _ h1 h2 h3 h4 h5=>
  simp only[BX]at he;rcases he with⟨v,hv,rfl,_⟩|he
  .exact du hk (.inl (B8.2 ⟨v,hv,rfl⟩))
  .exact Item.Xl GQ h2 (λn hn=>du hk ((Bf.1 hn).symm.imp id (hM n))) AA he
def GD.Xl:∀(l:List GD) {S Mm:List ByteArray} {f:ByteArray->Int} {M:Int->Prop} {k:Nat},(∀x∈l,NS N nd S Mm x)->(∀n,n∈Mm->(d:Int)<=f n)->d<=k->BM b u w l f M k->(d:Int)<=u
 |[],_,_,_,_,_,_,_,_,he=>by simp only[BM]at he
 |x::r,S,Mm,f,M,k,h,hM,hk,he=>by
  simp only[BM]at he;exact he.elim (GD.jI x (h x Bw) hM hk) (GD.Xl r (λy hy=>h y (Bq _ hy)) hM AA)
end
mutual
def Item.jH:∀(x:Item) {f:ByteArray->Int} {M:Int->Prop} {k:Nat},(∀n,f n<k)->(∀c,M c->c<k)->x.ed b u w f M k->w<k+x.YA.length
 | .mk GL e GB a,f,M,k,hf,hM,he=>by
  simp only[Item.ed]at he;simp only[Item.YA];rcases he with⟨_,n,_,_,h|⟨m,_,rfl⟩⟩|he
  .have:=hM w h;omega
  .have:=hf m;omega
  .exact GD.dL GB hf (λc hc=>hc.elim (hM c) λ⟨m,_,h⟩=>h▸hf m) he
def Item.dL:∀(l:List Item) {f:ByteArray->Int} {M:Int->Prop} {k:Nat},(∀n,f n<k)->(∀c,M c->c<k)->BL b u w l f M k->w<k+(BT l).length
 |[],_,_,_,_,_,he=>by simp only[BL]at he
 |x::r,f,M,k,hf,hM,he=>by
  simp only[BL]at he;simp only[BT,Bd];rcases he with h|h
  .have:=Item.jH x hf hM h;omega
  .have:=Item.dL r (k:=k+x.YA.length) (λn=>by have:=hf n;omega) (λc hc=>by have:=hM c hc;omega) h;omega
def GD.jH:∀(x:GD) {f:ByteArray->Int} {M:Int->Prop} {k:Nat},(∀n,f n<k)->(∀c,M c->c<k)->x.ed b u w f M k->w<k+x.YA.length
 | .mk _ _ _ GA GQ _,f,M,k,hf,hM,he=>by
  simp only[BX]at he;simp only[GD.YA,Bd,Bb];have jm:=λn=>XB (l:=GA) hf n;rcases he with⟨v,hv,_,⟨_,h⟩|⟨c,_,rfl⟩⟩|he
  .have:=hM w h;omega
  .have:=jm c.name;omega
  .have:=Item.dL GQ (k:=k+GA.length) (λn=>by have:=jm n;omega) (λc hc=>by have:=hM c hc;omega) he;omega
def GD.dL:∀(l:List GD) {f:ByteArray->Int} {M:Int->Prop} {k:Nat},(∀n,f n<k)->(∀c,M c->c<k)->BM b u w l f M k->w<k+(BY l).length
 |[],_,_,_,_,_,he=>by simp only[BM]at he
 |x::r,f,M,k,hf,hM,he=>by
  simp only[BM]at he;simp only[BY,Bd];rcases he with h|h
  .have:=GD.jH x hf hM h;omega
  .have:=GD.dL r (k:=k+x.YA.length) (λn=>by have:=hf n;omega) (λc hc=>by have:=hM c hc;omega) h;omega
end
end
def kH{n:BA}:∀{l:List Ge} {M:ML} {k:Nat},IQ (.s n) (Le M k l)=(IQ (.s n) (Le [] k l)).or (IQ (.s n) M)
 |[],M,k=>by simp[Le,IQ]
 |v::l,M,k=>by
  simp only[Le];rw[kH (M:=Mv (.s v.name) k M),kH (M:=Mv (.s v.name) k []),NC,NC];cases IQ (.s n) (Le [] (k+1) l)with
  |some i=>simp
  |none=>
   simp only[Option.none_or];split<;>simp[IQ]
def yF{f:BA->Int}{k:Nat}{a c:List Ge}(n:BA):S4 f k (a++c) n=S4 (S4 f k a) (k+a.length) c n:=by unfold S4;rw[kT,kH];cases IQ (.s n) (Le [] (k+a.length) c)<;>simp
section
variable{N:List GO} {i:Nat} {n:GO}
def GO.sh(n:GO):Sh n.fP n.fR n.JS.length:=by
 have h0:Sh (λ_=> -1) (S4 (λ_=> -1) 0 n.JS) n.JS.length:=λm=>⟨λ(h:(0:Int)<= -1)=>by omega,λ_=>by have:=XB (f:=λ_=> -1) (k:=0) (l:=n.JS) (λ_=>by omega) m;simpa using this⟩
 have h1:=h0.S4 (k:=0) (l:=n.Hz++n.GA);intro m;have h2:=h1 m
 have e:n.fR m=S4 (S4 (λ_=> -1) 0 n.JS) (0+n.JS.length) (n.Hz++n.GA) m:=by
  unfold GO.fR GO.all;rw[B3,yF]
 rw[e];exact h2
def GO.yO(n:GO):n.ve=(n.Hz++n.GA).map Ao:=by unfold GO.ve GO.vars GO.all;rw[B3,Bu,List.drop_left' AD]
def ux{m:BA}(hm:m∈n.ve):(n.JS.length:Int)<=n.fR m:=by rw[GO.yO]at hm;unfold GO.fR GO.all;rw[B3,yF];exact du AA (.inl hm)
def xg{m:BA}(hm:m∈n.vars):0<=n.fR m:=du (d:=0) (Bg _) (.inl hm)
def ANf(h:O6 N i n):n.okR:=⟨λv hv c hc=>xg (Wr (h.clk v hv c hc)),Item.eF n.GQ h.GQ h.ACH (λm hm=>xg hm) λm hm=>by have:=ux (n:=n) hm;omega⟩
def AP7(m:BA):n.fP m<((n.Hz.length+n.GA.length:Nat):Int):=by have:=XB (f:=λ_=> -1) (k:=0) (l:=n.Hz++n.GA) (λ_=>by omega) m;unfold GO.fP;exact Aea
def AJE(m:BA):n.fR m<(n.all.length:Int):=by have:=XB (f:=λ_=> -1) (k:=0) (l:=n.all) (λ_=>by omega) m;unfold GO.fR;exact Aea
def kL(n:GO):n.all.length=n.Hz.length+n.GA.length+n.JS.length:=by simp[GO.all];omega
def AGv(h:O6 N i n){u w:Int}(hu:0<=u)(hw:0<=w):n.ed true n.fP (n.Hz.length+n.GA.length) u w<->n.ed false n.fR n.all.length (u+n.JS.length) (w+n.JS.length):=by unfold GO.ed;have hs:=n.sh;rw[Item.Xj n.GQ h.GQ,Item.dM hu hw n.GQ hs (M':=λ_=>False) Iff.rfl,<- kL];exact or_congr (exists_congr λv=>and_congr_right λ_=>and_congr (hs.at _ hu) (exists_congr λc=>and_congr_right λ_=>hs.at _ hw)) Iff.rfl
def jI(h:O6 N i n){u w:Int}:n.ed false n.fR n.all.length u w->(n.JS.length:Int)<=u:=by
 unfold GO.ed;rintro(⟨v,hv,rfl,_⟩|he)
 .exact ux (by rw[GO.yO];exact B8.2 ⟨v,by simp[hv],rfl⟩)
 .exact Item.Xl n.GQ h.GQ (λm hm=>ux hm) (by rw[kL];omega) he
def jH{b:Bool}{f:BA->Int}{k:Nat}(hf:∀m,f m<k){u w:Int}:n.ed b f k u w->w<k+(BT n.GQ).length:=by
 unfold GO.ed;rintro(⟨v,hv,rfl,c,_,rfl⟩|he)
 .have:=hf c.name;omega
 .exact Item.dL n.GQ hf (λc hc=>hc.elim) he
end
end
end Go.Vi
