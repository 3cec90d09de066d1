/- Part of the proof of CauseChecks (own work, made small). -/
import Derived.Test.YtlonlfiaclacdaaGreatF3
import Derived.Test.YtlonlfiaclacdaaGreatF7
import Derived.Test.YtlonlfiaclacdaaGreatG2
set_option linter.all false
set_option maxRecDepth 100000
open Go renaming FuncId->B9,Program->Cf
open Go.Proofs.Tryz renaming prog->BZ
open Go.Vi.Edge renaming GG->A9
open Go.Vi.Ge renaming name->Ao,GG->Am
open Go.Vi.Gw renaming GK->BB
open Go.Vi.St renaming H3->Az,G0->Av,Gg->Ar,HJ->A4
open Int renaming toNat_natCast->Cj
open List renaming all_eq_true->CY,append_assoc->B3,append_nil->CG,drop_eq_getElem_cons->Bt,drop_of_length_le->CB,drop_zero->CA,getElem?_append_left->CL,getElem?_append_right->CT,getElem?_eq_getElem->Bc,getElem?_eq_none->Ck,getElem?_eq_some_iff->Bp,getElem_mem->Bl,length_append->Bd,length_cons->CE,length_map->Bb,length_singleton->C3,map_append->Bu,mem_append->Bf,mem_cons->Bm,mem_cons_of_mem->Bq,mem_cons_self->Bw,mem_filterMap->CD,mem_map->B8,mem_of_getElem?->Bn,nil_append->CC,nodup_append->CM,nodup_cons->CP,not_mem_nil->Cn,set_cons_succ->Cb,set_cons_zero->Ca
open Nat renaming add_assoc->DY,add_mul->Ce,beq->Br,le_refl->Bg
open Option renaming mem_toList->DW
open Option.some renaming inj->FC
open Prod renaming fst->CO,snd->Bx
namespace Go.Vi
attribute [local irreducible] H0 HR Gp Ht Gf Hu GJ GM Gc HK HC JI G6 Hs Hq Ho JZ Jd Ip JN JW G2 Gq Hb pQ I2 Ic Gn Gb Gs HA HZ H8 Int.instDecidableEq Int.decEq instBEqOfDecidableEq
section
open Go.Proofs
attribute [local irreducible] cy iT cz
def kY(f:Int):Nat->List Gw->List BA
 |_,[]=>[]
 |i,k::r=>(if f=8/\i=1 then[]else Li k)++kY f (i+1) r
def AEe{f:Int}(hf:f≠8):∀{i:Nat} {l:List Gw},kY f i l=Qt l
 |_,[]=>by simp[kY,Qt]
 |i,k::r=>by simp only[kY,Qt,AEe hf];rw[Ng λh=>hf h.1]
def ANn{f s1 tk tl n m a:Int}{nm:BA}{GP:List Gw}(h8:f=8->GP.length=2):Li (.mk f s1 nm tk tl n m GP a)=if f=6 then[]else(if f=2\/f=9\/f=10 then[nm]else[])++kY f 0 GP:=by
 simp only[Li];by_cases h:f=8
 .subst h;have h8:=h8 rfl
  match GP,h8 with
  |[a,b],_=>simp[rdH,kY]
 .rw[Ng h,AEe h]
def ACh:∀{l:List Gw} {x:Gw},x∈l->x.wt<=Gw.HS l
 |[],_,h=>by simp at h
 |k::r,x,h=>by
  simp only[Gw.HS];rcases Bm.1 h with rfl|h
  .omega
  .have:=ACh h;omega
def AI3{P:Cf}{b:Bool}{s:St}{x:Int}{c:Int}{R:F1}(hk:R (.bool (b&&(x==c))) s):
  Ic (.bool b) true (λk=>k (I x) s [] []) (λv53 s54 _ _=>Ic (.bool b) true (λk=>I2 (HC P .eql 3 v53 (I c)) s54 k) (λv55 s56 _ _=>pQ (Gp (.bool b) v55 (.bool false)) s56 R) s54) s:=by
 exact AeP
def sj{x:Gw}(hw:x.WF):x.wt<=20000->PC BZ 82 [.agg x.GG] [] (.HL 1 ((Li x).map GC)) []:=by
 induction hw with
 |mk f s1 nm tk tl i m GP GY Qz hf hs td ht hk ih=>
 intro Pv;have hrd:=@ANn f s1 tk tl i m GY nm GP λh=>Qz.2.1 AA;have hwr:=Ze (.mk f s1 nm tk tl i m GP GY);rw[hrd]at hwr;have hTl:(if f=6 then([]:List BA)else(if f=2\/f=9\/f=10 then[nm]else[])++kY f 0 GP).length<=20000:=AA;simp only[Gw.wt]at Pv;have fQ:GP.length<=100000:=Qz.2.2.2.2;have jr:(BB GP).length=GP.length:=by rw[Gw.Iu,Bb]
 have loop:∀(T:List BA),T.length<=20000->∀(c:Nat) (j:Int) (U:List BA),0<=j->j<=GP.length->GP.length-j<=c->U++kY f j.toNat (GP.drop j.toNat)=T->∃k,∀(b eo:Nat) (s:St),s.heap 0=some (.box (QE f s1 nm tk tl i m GP GY))->s.heap 2=some (.HE (U.map GC).length eo)->(U.map GC=[]\/eo=1)->2<s.next->
   iU 1 0 (λr c=>c=[]/\r=.HL 1 (T.map GC)) k (.GN 0 0) (.HL 2 (U.map GC)) (I j) s:=by
  intro T hT c
  induction c with
  |zero=>
   intro j U h0 h1 hc hU;exact Adm
  |succ c Xy=>
   intro j U h0 h1 hc hU;by_cases G7:j<GP.length
   case neg=>
    exact Adm
   have OH:=AZi j;have Jr:GP[j.toNat]' AA∈GP:=Bl _;have IE:=ih _ Jr (by have:=ACh Jr;omega);rw[Bt AA]at hU;simp only[kY]at hU;have hj1:(j+1).toNat=j.toNat+1:=AA;by_cases hsk:f=8/\j=1
   .rw[Ps ⟨hsk.1,AA⟩,CC]at hU;obtain⟨k,Jm⟩:=Xy (j+1) U AA AA AA (by rw[hj1];exact hU);refine⟨k+1,λb eo s hx h2 ho hl=>?_⟩;show RK _ _ _ _ _ _ _ _;unfold RK;refine zv ?_;refine AT6 ?_ λh9=>?_
    case refine_2=>have:=Zy h9;rw[jr]at this;omega
    refine zv ?_;refine AI3 ?_;refine AT6 ?_ λh9=>?_
    case refine_2=>simp[hsk.1,hsk.2]at h9
    unfold cz;refine zv ?_;rw[OH];exact Jm b eo _ hx h2 ho hl
   .rw[Ng (λh=>hsk ⟨h.1,AA⟩),<- B3]at hU;obtain⟨k,Jm⟩:=Xy (j+1) (U++Li (GP[j.toNat]' AA)) AA AA AA (by rw[hj1];exact hU);rw[Bu]at Jm
    have hUl:U.length+(Li (GP[j.toNat]' AA)).length<=20000:=by
     rw[<- hU]at hT;simp only[Bd]at hT;omega
    refine⟨k+1,λb eo s hx h2 ho hl=>?_⟩;show RK _ _ _ _ _ _ _ _;unfold RK;refine zv ?_;refine AT6 ?_ λh9=>?_
    case refine_2=>have:=Zy h9;rw[jr]at this;omega
    refine zv ?_;refine AI3 ?_;refine AT7 (λh9=>?_) ?_
    case refine_1=>exact Zq AI hsk
    refine zv ?_;refine Fy Abf ?_;refine Fy AcT ?_;refine GI IE Ri rfl rfl rfl ?_;simp only[KB,Jl];refine pQ_v Abl ?_;unfold cz;refine zv ?_;rw[OH];exact Jm b 1 _ zh AaP (.inr rfl) AZn
 have:PQ BZ 82 [.agg (Gw.mk f s1 nm tk tl i m GP GY).GG] [] (λr c=>c=[]/\r=.HL 1 ((Li (.mk f s1 nm tk tl i m GP GY)).map GC)):=by
  rw[hrd];refine ALI 1 rfl _ ?_;unfold c82;simp only[Gw.GG];refine zv ?_;refine GF (λh6=>?_) λh6=>?_
  .have h6:f=6:=by simpa using h6
   rw[Ps h6];refine zv ?_;exact Adx
  have h6:f≠6:=by simpa using h6
  rw[Ng h6]at hTl⊢;refine zv ?_;refine eG (GG:=QE f s1 nm tk tl i m GP GY) rfl rfl ?_;refine eG (GG:=QE f s1 nm tk tl i m GP GY) rfl rfl ?_;refine GF (λh9=>?_) λh9=>?_
  .have Tl:f=2\/f=9\/f=10:=by simp at h9;omega
   rw[Ps Tl]at hTl⊢;obtain⟨k,Jm⟩:=loop _ hTl GP.length 0 [nm] AA AA AA rfl;refine zv ?_;refine pQ_v AcF ?_;unfold cy;exact⟨k,Jm 0 1 _ zh zh (.inr rfl) (by simp[G1,HI,IG])⟩
  .have Tl:¬(f=2\/f=9\/f=10):=by simp at h9;omega
   rw[Ng Tl]at hTl⊢;obtain⟨k,Jm⟩:=loop _ hTl GP.length 0 [] AA AA AA rfl;unfold cy;exact⟨k,Jm 0 0 _ zh zh (.inl rfl) (by simp[G1,IG])⟩
 exact Adh
end
section
open Go.Proofs
abbrev Sb:=List (BA×Int)
def qX(sc:Sb)(n:BA):Nat->Int
 |0=> -1
 |k+1=>match sc[k]? with
  |some p=>if p.1.toList==n.toList then p.2 else qX sc n k
  |none=>qX sc n k
def Hv(sc:Sb)(n:BA):Int:=qX sc n sc.length
def YQ(sc:Sb):LP:=[.GV ((sc.map CO).map GC),.GV (I7 (sc.map Bx))]
def bz(sc:Sb)(hl:sc.length<=100000)(n:BA):PC BZ 81 [.agg (YQ sc),.Gh n] [] (I (Hv sc n)) []:=by
 have loop:∀k:Nat,k<=sc.length->∀s:St,s.heap 0=some (.box (YQ sc))->oO 0 0 (λr c=>c=[]/\r=I (qX sc n k)) (k+1) (.Gh n) (.GN 0 0) (I ((k:Int)-1)) s:=by
  intro k
  induction k with
  |zero=>
   intro _ s h;show aY _ _ _ _ _ _ _ _;unfold aY;refine Fy (Gt (v:=.bool false) AF) ?_;refine cf ?_;unfold ACB;exact Adx
  |succ k ih=>
   intro hk s h;obtain⟨p,hp⟩:∃p,sc[k]?=some p:=⟨_,Bc AA⟩
   show aY _ _ _ _ _ _ _ _;unfold aY;have e1:((k+1:Nat):Int)-1=(k:Int):=AA;rw[e1]
   refine Fy (Gt (v:=.bool true) (by
    show some (PV.bool (decide ((k:Int)>=0)))=_;rw[decide_eq_true AA])) ?_
   refine ct ?_;refine Fy Hj ?_;refine Fy (GH h rfl) ?_;refine Fy (Gk AA (GG:=GC p.1) AZo rfl) ?_;refine Fy (Hg rfl) ?_;refine Fy (Gt (v:=.bool (p.1.toList==n.toList)) rfl) ?_;refine GF (λhc=>?_) λhc=>?_
   .refine Fy Hj ?_;refine Fy (GH h rfl) ?_;refine Fy (Gk AA (GG:=[I p.2]) (by simp[I7,hp]) rfl) ?_;refine Fy (Hg rfl) ?_;refine Fy Il ?_;refine GW rfl rfl rfl ⟨rfl,?_⟩;simp only[qX,hp,hc,if_true]
   .refine Fy (Gt (v:=I ((k:Int)-1)) (by
     show some (PVI (IntKind.i64.wrap _))=_;rw[HB AA AA])) ?_
    refine Fy Il ?_;have:qX sc n (k+1)=qX sc n k:=by simp[qX,hp,hc]
    rw[this];exact ih AA s h
 have:PQ BZ 81 [.agg (YQ sc),.Gh n] [] (λr c=>c=[]/\r=I (Hv sc n)):=by
  refine ALH 0 rfl _ _ ?_;unfold c81;refine Fy (Mh (l:=YQ sc) rfl rfl) ?_;refine Fy Hj ?_;refine Fy (GH (Az rfl) rfl) ?_;refine Fy (H5 rfl) ?_
  refine Fy (Gt (v:=I ((sc.length:Int)-1)) (by
   show some (PVI (IntKind.i64.wrap _))=_;rw[Bb,Bb,HB AA AA])) ?_
  refine Fy Il ?_;exact⟨_,loop sc.length (Bg _) _ (Az rfl)⟩
 exact Adh
end
attribute [local irreducible] IY II Ia Jq HF HH HN pC Nm OJ Jz Jc
section
open Go.Proofs
def Pp(p:ON×List BA):PV:=match p.1 with
 |none=> .nil
 |some c=> .HL c (p.2.map GC)
def gd(s:St)(p:ON×List BA):Prop:=match p.1 with
 |none=>p.2=[]
 |some c=>s.heap c=some (.HE p.2.length 1)
def gd.Hi{s s':St}{p:ON×List BA}(h:gd s p)(hk:∀c,p.1=some c->s'.heap c=s.heap c):gd s' p:=by unfold gd at*;exact AfZ
def af{p:ON×List BA}:(Pp p).IT=true:=by unfold Pp;split<;>rfl
def Ub{s:St}{p:ON×List BA}(h:gd s p):(Pp p).GK=some (p.2.map GC):=by
 unfold gd at h;unfold Pp;split
 .rename_i he;rw[he]at h;simp only at h;rw[h];rfl
 .rfl
def uV{S:Nat->Bool}{p:ON×List BA}(h:∀c,p.1=some c->S c=true):Je S (Pp p)=true:=by unfold Pp;exact Agc
structure KU where
 gp:Nat
 nb:Option Nat
 GL:List ByteArray
 ba:Option Nat
 IK:List Int
 bo:Option Nat
 os:List (Option Nat×List Int)
def KU.HE(g:KU):LN:=g.os.filterMap CO
def KU.H2(g:KU):LN:=g.gp::(g.nb.toList++(g.bo.toList++(g.ba.toList++g.HE)))
def KU.box(g:KU):LP:=[Pp (g.nb,g.GL),Hk (g.ba,g.IK),lk g.bo g.os.length]
structure RS (s:St) (g:KU):Prop where
 box:s.heap g.gp=some (.box g.box)
 nm:gd s (g.nb,g.GL)
 IK:KQ s (g.ba,g.IK)
 on:SO s g.bo g.os
 HE:∀p,p∈g.os->KQ s p
 nd:(g.nb.toList++(g.ba.toList++g.HE)).Nodup
def RS.Hi{s s':St}{g:KU}(h:RS s g)(hk:∀b,b∈g.H2->s'.heap b=s.heap b):RS s' g:=
 ⟨(hk _ AZk).trans h.box,h.nm.Hi λc hc=>hk c AZ7,h.IK.Hi λc hc=>hk c AZ8,h.on.Hi λc hc=>hk c (by simp[KU.H2,hc]),
  λp hp=>(h.HE p hp).Hi λc hc=>hk c AV,h.nd⟩
def RS.kind{s:St}{g:KU}(h:RS s g){b:Nat}(hb:b∈g.H2):(b=g.gp/\s.heap b=some (.box g.box))\/(g.bo=some b/\s.heap b=some (.K7 1 (g.os.map Hk)))\/∃n,s.heap b=some (.HE n 1):=by
 simp only[KU.H2,KU.HE,Bm,Bf,DW,CD]at hb;rcases hb with rfl|hb|hb|hb|⟨p,hp,hb⟩
 .exact .inl ⟨rfl,h.box⟩
 .have:=h.nm;unfold gd at this;exact Afl
 .exact AgM
 .have:=h.IK;unfold KQ at this;exact Afl
 .exact AgB
def RS.fp{s:St}(hf:Gm s){g:KU}(h:RS s g){fp:LN}(hs:∀b,b∈g.H2->b∈fp){b:Nat}(hb:b∈g.H2):b<s.next/\∃o,s.heap b=some o/\o.Uu=false/\o.Je (λb=>fp.contains b)=true:=by
 have Ox:∀c,c∈g.H2->fp.contains c=true:=λc hc=>by simpa using hs c hc
 rcases h.kind hb with⟨_,hh⟩|⟨_,hh⟩|⟨n,hh⟩
 .refine⟨Gu hf hh,_,hh,rfl,T5 λv hv=>?_⟩;simp only[KU.box,Bm,Cn,or_false]at hv;rcases hv with rfl|rfl|rfl
  .exact uV λc hc=>Ox c AZ7
  .exact Uc λc hc=>Ox c AZ8
  .exact sR λc hc=>Ox c (by simp[KU.H2,hc])
 .refine⟨Gu hf hh,_,hh,rfl,T5 λv hv=>?_⟩;obtain⟨p,hp,rfl⟩:=B8.1 hv;exact Uc λc hc=>Ox c AV
 .exact⟨Gu hf hh,_,hh,rfl,rfl⟩
def RS.lt{s:St}(hf:Gm s){g:KU}(h:RS s g){b:Nat}(hb:b∈g.H2):b<s.next:=(h.fp hf (λ_ h=>h) hb).1
def RS.Hn{s:St}{g:KU}(h:RS s g){fp:LN}(Vg:∀b,b∈g.H2->b∈fp):RS (Hn s fp) g:=h.Hi λb hb=>OZ (Vg b hb)
def RS.Nf{s s0:St}{fp:LN}{g':KU}(h:RS s0 g')(hf:Gm s0)(hi:∀b,b∈g'.H2->b∈fp\/s.next<=b):RS (Nf s fp s0) g':=h.Hi λb hb=>QD ((hi b hb).imp id λh1=>⟨h1,h.lt hf hb⟩)
def RS.onS{s:St}{g:KU}(h:RS s g){b:Nat}(hb:g.bo=some b):OnS s b g.os:=by refine⟨?_,h.HE,(CM.1 (CM.1 h.nd).2.1).2.1⟩;have:=h.on;unfold SO at this;rw[hb]at this;exact this
def RS.RD{s:St}{g:KU}(h:RS s g){v:Nat}(hv:v<g.os.length):∃b,g.bo=some b/\s.heap b=some (.K7 1 (g.os.map Hk)):=AfA
structure MN (s:St) (g:KU) (s':St) (g':KU):Prop where
 gs:RS s' g'
 gp:g'.gp=g.gp
 nb:g'.nb=g.nb
 GL:g'.GL=g.GL
 ba:g'.ba=g.ba
 IK:g'.IK=g.IK
 bo:g'.bo=g.bo
 len:g'.os.length=g.os.length
 HE:∀b,b∈g'.HE->b∈g.HE\/s.next<=b
 Hi:∀b,g.bo≠some b->b∉g.HE->b<s.next->s'.heap b=s.heap b
 Iw:HT s s'
 Iv:Gm s'
def MN.refl{s:St}{g:KU}(hf:Gm s)(hg:RS s g):MN s g s g:=⟨hg,rfl,rfl,rfl,rfl,rfl,rfl,rfl,λ_ h=> .inl h,λ_ _ _ _=>rfl,HT.refl s,hf⟩
def MN.trans{s1 s2 s3:St}{g1 g2 g3:KU}(h:MN s1 g1 s2 g2)(k:MN s2 g2 s3 g3):MN s1 g1 s3 g3:=
 have hn:=h.Iw.next
 ⟨k.gs,k.gp.trans h.gp,k.nb.trans h.nb,k.GL.trans h.GL,k.ba.trans h.ba,k.IK.trans h.IK,k.bo.trans h.bo,k.len.trans h.len,λb hb=>by
  rcases k.HE b hb with h1|h1
  .exact h.HE b h1
  .exact .inr AA,λb h1 h2 h3=>by
  rw[k.Hi b (by rw[h.bo];exact h1) (λhm=>by
   rcases h.HE b hm with h4|h4
   .exact h2 h4
   .omega) AA]
  exact h.Hi b h1 h2 h3,h.Iw.trans k.Iw,k.Iv⟩
def MN.H2{s s':St}{g g':KU}(h:MN s g s' g'){b:Nat}(hb:b∈g'.H2):b∈g.H2\/s.next<=b:=by
 simp only[KU.H2,Bm,Bf,h.gp,h.nb,h.bo,h.ba]at hb⊢;rcases hb with h1|h1|h1|h1|h1
 .exact .inl (.inl h1)
 .exact .inl (.inr (.inl h1))
 .exact .inl (.inr (.inr (.inl h1)))
 .exact .inl (.inr (.inr (.inr (.inl h1))))
 .rcases h.HE b h1 with h2|h2
  .exact .inl (.inr (.inr (.inr (.inr h2))))
  .exact .inr h2
def MN.GY{s s':St}{g g':KU}(h:MN s g s' g'){b:Nat}(hb:b∉g.H2)(hl:b<s.next):s'.heap b=s.heap b:=by simp only[KU.H2,Bm,Bf,not_or]at hb;exact h.Hi b (by rintro h1;exact hb.2.2.1 (by simp[h1])) hb.2.2.2.2 hl
def MN.MW{s s1 s':St}{g g':KU}(h:MN s1 g s' g')(hf:Gm s)(hg:RS s g)(hG:HT s s1)(hk:∀b,b<s.next->s1.heap b=s.heap b):MN s g s' g':=
 have hn:=hG.next
 ⟨h.gs,h.gp,h.nb,h.GL,h.ba,h.IK,h.bo,h.len,λb hb=>by
  rcases h.HE b hb with h1|h1
  .exact AgC
  .exact .inr AA,λb h1 h2 h3=>by rw[h.Hi b h1 h2 AA,hk b h3],hG.trans h.Iw,h.Iv⟩
def nM{s:St}(hf:Gm s){g:KU}(hg:RS s g){v:Nat}{p:OLI}(hv:g.os[v]?=some p){x:PV}{xs:LI}(hx:x.GK=some (I7 xs))(hn:p.2.length+xs.length<=1000000000){b:Nat}(hb:g.bo=some b):
  ∃y s1 s2 g',H8 (Hb 1 8 (Hk p) x) s y s1 [] p.1.toList/\y.IT=true/\H8 (Gc 1 y (.GN b v)) s1 .undef s2 [] [b]/\MN s g s2 g'/\g'.os.map Bx=OA (g.os.map Bx) v xs/\(∀d,s.heap d≠none->p.1≠some d->s1.heap d=s.heap d):=by
 obtain⟨y,s1,s2,os',a1,a2,a3,a4,a5,a6,a7,a8,a9,ts,zL⟩:=ANg hf (hg.onS hb) hv hx hn;have KT:∀d,d∈g.HE->∃n,s.heap d=some (.HE n 1):=λd hd=>(hg.onS hb).lt hf hd;have fO:=(hg.onS hb).K7;have KO:=hg.nd;obtain⟨n1,n2,n3⟩:=CM.1 KO;obtain⟨m1,m2,m3⟩:=CM.1 n2;have hgk:s2.heap g.gp=s.heap g.gp:=a8 g.gp (JQ hg.box fO AD) (λhm=>by obtain⟨n,h⟩:=KT _ hm;rw[hg.box]at h;cases h) (Gu hf hg.box)
 have hnk:∀c,g.nb=some c->s.heap c=some (.HE g.GL.length 1)/\c∉g.HE/\s2.heap c=s.heap c:=λc hc=>by
  have h1:=hg.nm;unfold gd at h1;simp only[hc]at h1;have h2:c∉g.HE:=λhm=>n3 c (by simp[hc]) c (Bf.2 (.inr hm)) rfl;exact AhP
 have hak:∀c,g.ba=some c->s.heap c=some (.HE g.IK.length 1)/\c∉g.HE/\s2.heap c=s.heap c:=λc hc=>by
  have h1:=hg.IK;unfold KQ at h1;simp only[hc]at h1;have h2:c∉g.HE:=λhm=>m3 c (by simp[hc]) c hm rfl;exact AhP
 refine⟨y,s1,s2,{g with os:=os'},a1,a2,a3,⟨⟨?_,hg.nm.Hi λc hc=>(hnk c hc).2.2,hg.IK.Hi λc hc=>(hak c hc).2.2,?_,a4.HE,?_⟩,rfl,rfl,rfl,rfl,rfl,rfl,a5,a7,λd h1 h2 h3=>?_,a9,ts⟩,a6,zL⟩
 .show s2.heap g.gp=some (.box [Pp (g.nb,g.GL),Hk (g.ba,g.IK),lk g.bo os'.length]);rw[hgk,hg.box,a5];rfl
 .show SO s2 g.bo os';unfold SO;rw[hb];exact a4.K7
 .show(g.nb.toList++(g.ba.toList++os'.filterMap CO)).Nodup;refine CM.2 ⟨n1,CM.2 ⟨m1,a4.nd,λc hc d hd=>?_⟩,λc hc d hd=>?_⟩
  .rintro rfl;have pD:g.ba=some c:=by simpa using hc
   obtain⟨h1,h2,_⟩:=hak c pD;rcases a7 c hd with h|h
   .exact h2 h
   .have:=Gu hf h1;omega
  .rintro rfl;have pD:g.nb=some c:=by simpa using hc
   obtain⟨h1,h2,_⟩:=hnk c pD;rcases Bf.1 hd with h|h
   .exact n3 c hc c (Bf.2 (.inl h)) rfl
   .rcases a7 c h with h|h
    .exact h2 h
    .have:=Gu hf h1;omega
 .exact a8 d AbD h2 h3
end
section
open Go.Proofs
def fZ(sc:Sb)(n:BA):JA [.agg (YQ sc),.Gh n] 0=some ([.agg (YQ sc),.Gh n],[]):=by simp[JA,PV.lI,YQ,JC,PV.data]
def bJ(sc:Sb)(k:Nat)(on:LLI)(ns:List BA):LLI:=ns.foldl (λon n=>OA on k [Hv sc n]) on
def ke{X:Mode}{sc:Sb}(La:sc.length<=100000){k bx:Nat}{ns:List BA}(Pr:ns.length<=100000):∀(m i:Nat),ns.length-i=m->i<=ns.length->
  ∀{s:St} (hf:Gm s) {g:KU} (hg:RS s g) (hk:k<g.os.length) (hx:s.heap bx=some (.box (YQ sc))) (lZ:bx∉g.H2) {T:Nat} (hT:JG (g.os.map Bx) T) (Mk:T+m<=900000000),
   ∃s' g',MN s g s' g'/\g'.os.map Bx=bJ sc k (g.os.map Bx) (ns.drop i)/\∀Q:F1,Q (.tuple []) s'->mZ X Q (m+1) (.GN g.gp 0) (I k) (.GV (ns.map GC)) (.GN bx 0) (I i) s
 |0,i,hm,hi,s,hf,g,hg,hk,hx,lZ,T,hT,Mk=>by
  refine⟨s,g,.refl hf hg,by rw[CB AA];rfl,λQ hQ=>?_⟩;unfold mZ vB;refine Fy AcO ?_;rw[Bb];refine Fy AbX ?_;refine cf ?_;exact L5 rfl hQ
 |m+1,i,hm,hi,s,hf,g,hg,hk,hx,lZ,T,hT,Mk=>by
  have pF:i<ns.length:=AA;obtain⟨n,hn⟩:∃n,ns[i]?=some n:=⟨_,Bc pF⟩
  have VN:ns[i]=n:=by rw[Bc pF]at hn;exact FC hn
  obtain⟨p,hp⟩:∃p,g.os[k]?=some p:=⟨_,Bc hk⟩
  obtain⟨b,hb,fO⟩:=hg.RD hk;have fW:p.2.length<=T:=hT _ (B8.2 ⟨p,Bn hp,rfl⟩);obtain⟨y,s1,s2,g1,a1,a2,a3,a4,a5,a6⟩:=nM hf hg hp (x:=.GV [[I (Hv sc n)]]) (xs:=[Hv sc n]) rfl (by simp only[C3];omega) hb
  obtain⟨s',g',k1,k2,k3⟩:=ke (X:=X) La Pr m (i+1) AA pF (bx:=bx) (k:=k) a4.Iv a4.gs (by rw[a4.len];exact hk) ((a4.GY lZ (Gu hf hx)).trans hx) (λh=>by
   rcases a4.H2 h with h|h
   .exact lZ h
   .have:=Gu hf hx;omega) (T:=T+1) (by rw[a5];exact Mq hT) AA
  refine⟨s',g',a4.trans k1,?_,λQ hQ=>?_⟩
  .rw[k2,a5,Bt pF,VN];rfl
  .have To:∀d,p.1=some d->d≠g.gp/\d≠bx:=λd hd=>by
    have:=hg.HE p (Bn hp);unfold KQ at this;rw[hd]at this;exact⟨JQ this hg.box AD,JQ this hx AD⟩
   have YK:=Gu hf hg.box;have cM:=Gu hf hx;unfold mZ vB;refine Fy AcO ?_;rw[Bb];refine Fy AbW ?_;refine ct ?_;refine GR Kl ?_;refine GR Hj ?_;refine GR Ab8 ?_;refine GR Kl ?_;refine GR Hj ?_;refine GR Ab8 ?_;rw[hb];refine GR (Jt AA Aaa) ?_;refine GR AdC ?_;refine GR (Hm hx rfl) ?_;refine GR (Gk AA (GG:=GC n) (by simp[hn]) rfl) ?_;refine GR (Hg rfl) ?_;refine pj (bz sc La n) (fZ sc n) rfl rfl rfl ?_;simp only[Ky,Jl];refine GR (bh (GK:=[[I (Hv sc n)]]) rfl) ?_;refine GR a1 ?_;refine GR (Jt AA Aaa) ?_;refine GR a3 ?_;refine⟨?_,?_⟩
   .simp[Hl,IA,Iy,H2];exact⟨⟨λ_=>⟨λh=>(To _ h).1 rfl,λh=>by omega⟩,Ix AF,Ix AF,Ix AF⟩,Ix AF,Ix AF,by kernel_rfl,Ix AF,Ix AF⟩
   .refine Fy AbS ?_;refine Fy Il ?_;rw[a4.gp]at k3;exact k3 Q hQ
def R9{sc:Sb}{k:Nat}:∀{ns:List BA} {on:LLI} {T:Nat},JG on T->JG (bJ sc k on ns) (T+ns.length)
 |[],_,_,h=>h
 |n::ns,on,T,h=>by
  have:=R9 (sc:=sc) (k:=k) (ns:=ns) (Mq (v:=k) (xs:=[Hv sc n]) h);exact Agr
def AIS{X:Mode}{sc:Sb}(La:sc.length<=100000){k:Nat}{ns:List BA}(Pr:ns.length<=100000){s:St}(hf:Gm s){g:KU}(hg:RS s g)(hk:k<g.os.length){T:Nat}(hT:JG (g.os.map Bx) T)(Mk:T+ns.length<=900000000):
  ∃s' g',MN s g s' g'/\g'.os.map Bx=bJ sc k (g.os.map Bx) ns/\∀Q:F1,Q (.tuple []) s'->g80 X Q (.GN g.gp 0) (I k) (.agg (YQ sc)) (.GV (ns.map GC)) s:=by
 obtain⟨s1,Kq⟩:∃s1,s1=s.new (.box (YQ sc)):=⟨_,rfl⟩
 have MS:Gm s1:=by rw[Kq];exact Hh hf
 have LX:∀b,b<s.next->s1.heap b=s.heap b:=λb hb=>by rw[Kq,Av rfl AA]
 have Rl:RS s1 g:=hg.Hi λb hb=>LX b (hg.lt hf hb);obtain⟨s',g',h1,h2,h3⟩:=ke (X:=X) La (bx:=s.next) Pr ns.length 0 AA AA MS Rl hk AZ3 (λh=>by have:=hg.lt hf h;omega) hT Mk;refine⟨s',g',h1.MW hf hg Aa1 LX,h2,λQ hQ=>?_⟩;unfold g80;refine Fy AdS ?_;rw[<- Kq];exact⟨_,h3 Q hQ⟩
def so{E:VJ}{sc:Sb}(La:sc.length<=100000){k:Nat}{ns:List BA}(Pr:ns.length<=100000){s:St}(hf:Gm s){g:KU}(hg:RS s g)(hk:k<g.os.length){T:Nat}(hT:JG (g.os.map Bx) T)(Mk:T+ns.length<=900000000):
  ∃s' g',SC E BZ 80 [.GN g.gp 0,I k,.agg (YQ sc),.GV (ns.map GC)] s (.tuple []) s'/\MN s g s' g'/\g'.os.map Bx=bJ sc k (g.os.map Bx) ns:=by
 obtain⟨s',g',h1,h2,h3⟩:=AIS (X:=.jG E) La Pr hf hg hk hT Mk;obtain⟨r,yw,h4,rfl,rfl⟩:=(AL1 _ _ _ _ _ (h3 (λr yw=>r=.tuple []/\yw=s') ⟨rfl,rfl⟩)).sc hf AZ6;exact⟨_,g',h4,h1,h2⟩
def wq{l l':LP}(h:tX l l'):∀m v,VR m (.agg l) v->VR m (.agg l') v:=λm v hv=>by
 cases hv with
 |data _ _ hd=>cases hd
 |agg _ _ hl=>exact .agg _ _ (h m _ hl)
def wM{X:Mode}(hX:X=.Hw .Jh\/X=.jG .Jh){sc:Sb}(La:sc.length<=100000){k:Nat}{ns:List BA}(Pr:ns.length<=100000){s:St}(hf:Gm s){g:KU}(hg:RS s g)(hk:k<g.os.length){T:Nat}(hT:JG (g.os.map Bx) T)(Mk:T+ns.length<=900000000){sv nv:PV}(hs:∀m v,VR m sv v->VR m (.agg (YQ sc)) v)(hns:∀m v,VR m nv v->VR m (.GV (ns.map GC)) v):
  ∃s' g',MN s g s' g'/\g'.os.map Bx=bJ sc k (g.os.map Bx) ns/\∀kl:KL,kl (.tuple []) s' [] g.H2->Nm BZ X 80 [.GN g.gp 0,I k,sv,nv] s kl:=by
 have Vg:nh s g.H2:=λb hb=>hg.fp hf (λ_ h=>h) hb;obtain⟨s0,g',c1,c2,c3⟩:=so (E:=.Jh) (s:=Hn s g.H2) La Pr hf.Hn (hg.Hn λ_ h=>h) hk hT Mk;have tc:s.next<=s0.next:=c2.Iw.next;refine⟨Nf s g.H2 s0,g',⟨c2.gs.Nf c2.Iv λb hb=>c2.H2 hb,c2.gp,c2.nb,c2.GL,c2.ba,c2.IK,c2.bo,c2.len,c2.HE,λb h1 h2 h3=>?_,XG (λb hb=>by obtain⟨_,o,h,_⟩:=Vg b hb;rw[h];simp) tc,ZW hf c2.Iv tc λb hb=>(Vg b hb).1⟩,c3,λkl fQ=>?_⟩
 .by_cases hm:b∈g.H2
  .rw[QD (.inl hm),c2.Hi b h1 h2 h3,OZ hm]
  .exact ZX hm h3
 .refine AEX _ Aaj AZr (.cons (NK _) (.cons (NK _) (.cons hs (.cons hns (.refl []))))) ?_ AaQ Vg fQ;simp[Jx,Je,KU.H2,YQ]
end
section
open Go.Proofs
def ACG(sc:Sb)(k:Nat)(on:LLI)(l:List Edge):LLI:=l.foldl (λon x=>bJ sc k on [x.name]) on
def Ud(sc:Sb)(on:LLI)(l:List Ge):LLI:=l.foldl (λon v=>ACG sc (Hv sc v.name).toNat on v.Ga) on
def dH{sc:Sb}{k:Nat}:∀{l:List Edge} {on:LLI} {T:Nat},JG on T->JG (ACG sc k on l) (T+l.length)
 |[],_,_,h=>h
 |x::l,on,T,h=>by
  have:=dH (sc:=sc) (k:=k) (l:=l) (R9 (sc:=sc) (k:=k) (ns:=[x.name]) h);exact Agr
def Ue{sc:Sb}:∀{l:List Ge} {on:LLI} {T:Nat},(∀v,v∈l->v.Ga.length<=17)->JG on T->JG (Ud sc on l) (T+17*l.length)
 |[],_,_,_,h=>h
 |v::l,on,T,hv,h=>by
  have:=Ue (sc:=sc) (l:=l) (λu hu=>hv u AbL) (dH (sc:=sc) (k:=(Hv sc v.name).toNat) (l:=v.Ga) h);have hc:=hv v AD;exact Agr
attribute [local irreducible] jb
def nN{sc:Sb}(La:sc.length<=100000){l:List Ge}(hl:l.length<=100000){i:Nat}{v:Ge}(hv:l[i]?=some v){bx:Nat}{k:Nat}(Zr:Hv sc v.name=k)(Pq:v.Ga.length<=100000){Q:F1}{w3:PV->PV->PV->F1}:∀(m j:Nat),v.Ga.length-j=m->j<=v.Ga.length->
  ∀{s:St} (hf:Gm s) {g:KU} (hg:RS s g) (hk:k<g.os.length) (hx:s.heap bx=some (.box (YQ sc))) (lZ:bx∉g.H2) {T:Nat} (hT:JG (g.os.map Bx) T) (Mk:T+m<=800000000)
   (hW:∀s' g',MN s g s' g'->g'.os.map Bx=ACG sc k (g.os.map Bx) (v.Ga.drop j)->jb (.Hw .Jh) Q w3 (.GN g.gp 0) (.GV (l.map Am)) (.GN bx 0) (I i) s'),
  dY (.Hw .Jh) Q w3 (m+1) (.GN g.gp 0) (.GV (l.map Am)) (.GN bx 0) (I i) (I j) s
 |0,j,hm,hj,s,hf,g,hg,hk,hx,lZ,T,hT,Mk,hW=>by
  rw[CB AA]at hW;unfold dY o8;refine Fy Aba ?_;refine Fy Pw ?_;refine Fy (Hg rfl) ?_;refine Fy AcG ?_;rw[Bb];exact Ae2
 |m+1,j,hm,hj,s,hf,g,hg,hk,hx,lZ,T,hT,Mk,hW=>by
  have jq:j<v.Ga.length:=AA;obtain⟨e,he⟩:∃e,v.Ga[j]?=some e:=⟨_,Bc jq⟩
  have hej:v.Ga[j]=e:=by rw[Bc jq]at he;exact FC he
  rw[Bt jq,hej]at hW;have pF:=(Bp.1 hv).1;have YK:=Gu hf hg.box;have cM:=Gu hf hx;obtain⟨s1,g1,a1,a2,a3⟩:=wM (X:=.Hw .Jh) (.inl rfl) La (ns:=[e.name]) AD hf hg hk hT AB (sv:=.agg (YQ sc)) (nv:=.GV [[.Gh e.name]]) (NK _) (NK _);unfold dY o8;refine Fy Aba ?_;refine Fy Pw ?_;refine Fy (Hg rfl) ?_;refine Fy AcG ?_;rw[Bb];refine Fy AbW ?_;refine ct ?_;refine GR (Hm hx rfl) ?_;refine GR Aba ?_;refine GR Pw ?_;refine GR Acn ?_;refine pj (bz sc La v.name) (fZ sc v.name) rfl rfl rfl ?_;simp only[Ky,Jl];refine GR (Hm hx rfl) ?_;refine GR Aba ?_;refine GR Pw ?_;refine GR AcQ ?_;refine GR (Gk AA (GG:=e.GG) (by simp[he]) rfl) ?_;refine GR Pw ?_;refine GR (Hg (v:=.Gh e.name) rfl) ?_;refine GR (bh (GK:=[[.Gh e.name]]) rfl) ?_;rw[Zr];refine a3 _ ?_;refine⟨?_,?_⟩
  .simp[Hl,IA,Iy,H2];exact⟨Ix AF,Ix AF⟩
  .refine Fy AbS ?_;refine Fy Il ?_;rw[<- a1.gp]
   refine nN La hl hv Zr Pq m (j+1) AA jq a1.Iv a1.gs (by rw[a1.len];exact hk) ((a1.GY lZ cM).trans hx) (λh=>by
    rcases a1.H2 h with h|h
    .exact lZ h
    .omega) (T:=T+1) (by rw[a2];exact R9 hT) AA λs2 g2 k1 k2=>?_
   have:=hW s2 g2 (a1.trans k1) (by rw[k2,a2];rfl);rw[a1.gp];exact this
def kW{sc:Sb}(La:sc.length<=100000){l:List Ge}(hl:l.length<=100000){bx:Nat}(Pq:∀v,v∈l->v.Ga.length<=17){Q:F1}:∀(m i:Nat),l.length-i=m->i<=l.length->
  ∀{s:St} (hf:Gm s) {g:KU} (hg:RS s g) (Zr:∀v,v∈l->∃k:Nat,Hv sc v.name=k/\k<g.os.length) (hx:s.heap bx=some (.box (YQ sc))) (lZ:bx∉g.H2) {T:Nat} (hT:JG (g.os.map Bx) T) (Mk:T+17*m<=700000000)
   (hW:∀s' g',MN s g s' g'->g'.os.map Bx=Ud sc (g.os.map Bx) (l.drop i)->Q (.tuple []) s'),
  ej (.Hw .Jh) Q (m+1) (.GN g.gp 0) (.GV (l.map Am)) (.GN bx 0) (I i) s
 |0,i,hm,hi,s,hf,g,hg,Zr,hx,lZ,T,hT,Mk,hW=>by
  rw[CB AA]at hW;unfold ej u9;refine Fy Abj ?_;rw[Bb];refine Fy AbX ?_;refine cf ?_;exact L5 rfl (hW s g (.refl hf hg) rfl)
 |m+1,i,hm,hi,s,hf,g,hg,Zr,hx,lZ,T,hT,Mk,hW=>by
  have pF:i<l.length:=AA;obtain⟨v,ZO⟩:∃v,v=l[i]:=⟨_,rfl⟩
  have hv:l[i]?=some v:=by rw[ZO];exact Bc pF
  have hvm:=Bn hv;rw[Bt pF,<- ZO]at hW;obtain⟨k,LX,Jm⟩:=Zr v hvm;have AC7:=Pq v hvm;unfold ej u9;refine Fy Abj ?_;rw[Bb];refine Fy AbW ?_;refine ct ?_;refine⟨_,nN La hl hv (bx:=bx) LX AA v.Ga.length 0 AA AA hf hg Jm hx lZ hT AA λs1 g1 a1 a2=>?_⟩;unfold jb;refine Fy AbS ?_;refine Fy Il ?_;rw[<- a1.gp];have cM:=Gu hf hx
  refine kW La hl Pq m (i+1) AA pF a1.Iv a1.gs (λu hu=>by rw[a1.len];exact Zr u hu) ((a1.GY lZ cM).trans hx) (λh=>by
    rcases a1.H2 h with h|h
    .exact lZ h
    .omega) (T:=T+v.Ga.length) (by rw[a2];exact dH hT) AA λs2 g2 k1 k2=>hW s2 g2 (a1.trans k1) (by rw[k2,a2];simp only[CA,Ud,List.foldl_cons,LX,Cj])
def kX{sc:Sb}(La:sc.length<=100000){l:List Ge}(hl:l.length<=100000)(Pq:∀v,v∈l->v.Ga.length<=17){s:St}(hf:Gm s){g:KU}(hg:RS s g)(Zr:∀v,v∈l->∃k:Nat,Hv sc v.name=k/\k<g.os.length){T:Nat}(hT:JG (g.os.map Bx) T)(Mk:T+17*l.length<=700000000):
  SW .Jh BZ 49 [.GN g.gp 0,.agg (YQ sc),.GV (l.map Am)] s λr s'=>r=.tuple []/\∃g',MN s g s' g'/\g'.os.map Bx=Ud sc (g.os.map Bx) l:=by
 refine(ALv (.Hw .Jh) _ _ _ ?_).sw hf;obtain⟨s1,Kq⟩:∃s1,s1=s.new (.box (YQ sc)):=⟨_,rfl⟩
 have MS:Gm s1:=by rw[Kq];exact Hh hf
 have LX:∀b,b<s.next->s1.heap b=s.heap b:=λb hb=>by rw[Kq,Av rfl AA]
 have Rl:RS s1 g:=hg.Hi λb hb=>LX b (hg.lt hf hb);unfold g49;refine Fy AdS ?_;rw[<- Kq];exact⟨_,kW La hl Pq l.length 0 AA AA MS Rl Zr (bx:=s.next) AZ3 (λh=>by have:=hg.lt hf h;omega) hT Mk λs' g' h1 h2=>⟨rfl,g',h1.MW hf hg Aa1 LX,h2⟩⟩
end
section
open Go.Proofs
def nmR(sc:Sb)(Ie:LI)(e:Gw)(on:LLI)(n:BA):LLI:=OA (bJ sc (Hv sc n).toNat on (Li e)) (Hv sc n).toNat Ie
def sK{sc:Sb}{Ie:LI}{e:Gw}{on:LLI}{n:BA}{T:Nat}(h:JG on T):JG (nmR sc Ie e on n) (T+((Li e).length+Ie.length)):=by unfold nmR;rw[<- DY];exact Mq (R9 h)
def jP{sc:Sb}{Ie:LI}{e:Gw}:∀{l:List BA} {on:LLI} {T:Nat},JG on T->JG (l.foldl (nmR sc Ie e) on) (T+l.length*((Li e).length+Ie.length))
 |[],_,_,h=>h.mono AA
 |n::l,on,T,h=>by
  have:=jP (sc:=sc) (Ie:=Ie) (e:=e) (l:=l) (sK (sc:=sc) (Ie:=Ie) (e:=e) (n:=n) h);exact this.mono Aa7
structure QV (s:St) (g:KU) (b:Nat) (cs:List PV):Prop where
 GY:s.heap b=some (.box cs)
 H2:b∉g.H2
def QV.ZR{s s':St}{g g':KU}{b:Nat}{cs:LP}(h:QV s g b cs)(hf:Gm s)(k:MN s g s' g'):QV s' g' b cs:=
 ⟨(k.GY h.H2 (Gu hf h.GY)).trans h.GY,λhm=>by
  rcases k.H2 hm with h1|h1
  .exact h.H2 h1
  .have:=Gu hf h.GY;omega⟩
def QV.S5{s s':St}{g:KU}{b:Nat}{cs:LP}(h:QV s g b cs)(hf:Gm s)(hk:∀b,b<s.next->s'.heap b=s.heap b):QV s' g b cs:=⟨(hk b (Gu hf h.GY)).trans h.GY,h.H2⟩
def QV.new{s s':St}{g:KU}{b:Nat}{cs:LP}(hf:Gm s)(hg:RS s g)(hb:s.next<=b)(h:s'.heap b=some (.box cs)):QV s' g b cs:=⟨h,λhm=>by have:=hg.lt hf hm;omega⟩
attribute [local irreducible] da db dZ
def AAw{sc:Sb}(La:sc.length<=100000){bx ib:Nat}{x:Item}(rZ:(Li x.e).length<=100000){mv:PV}{Ie:LI}(lV:mv.GK=some (I7 Ie)){s:St}(hf:Gm s){g:KU}(hg:RS s g)(hx:QV s g bx (YQ sc))(hi:QV s g ib x.GG)(I0:x.GB=[]){j:Nat}{n:BA}(hj:x.GL[j]?=some n)(jq:x.GL.length<=100000){k:Nat}(Zr:Hv sc n=k)(hk:k<g.os.length){T:Nat}(hT:JG (g.os.map Bx) T)(Mk:T+((Li x.e).length+Ie.length)<=800000000){rc:Nat}
  {Q:F1}{w3:PV->PV->PV->PV->F1}{ASs:PV->PV->PV->PV->PV->PV->PV->F1}{iv iiv:PV}
  (hW:∀s' g',MN s g s' g'->g'.os.map Bx=nmR sc Ie x.e (g.os.map Bx) n->ASs (.GN g.gp 0) iv mv (.GN bx 0) iiv (.GN ib 0) (.HL rc ((Li x.e).map GC)) (I (j+1:Nat)) s'):
  Wn (.Hw .Jh) Q w3 ASs (.GN g.gp 0) iv mv (.GN bx 0) iiv (.GN ib 0) (.HL rc ((Li x.e).map GC)) (I j) s:=by
 have hjn:j<x.GL.length:=(Bp.1 hj).1;have hnr:x.GG[0]?=some (.GV (x.GL.map GC)):=by rw[Item.IC];rfl
 have z9:x.GG[10]?=some (.GV []):=by rw[Item.IC,Gw.IC,I0];rfl
 have cL:=hi.GY;have lB:=hx.GY;unfold Wn;refine Fy Hj ?_;refine Fy (GH cL hnr) ?_;refine Fy AcH ?_;rw[Bb];refine Fy AbW ?_;refine LZ Hj ?_;refine LZ (GH cL z9) ?_;refine LZ (H5 (GK:=[]) rfl) ?_;refine LZ (Gt (v:=.bool true) AF) ?_;refine Fy Og ?_;refine ct ?_;refine GR (Hm lB rfl) ?_;refine GR Hj ?_;refine GR (GH cL hnr) ?_;refine GR Acm ?_;refine GR (Hg rfl) ?_;refine pj (bz sc La n) (fZ sc n) rfl rfl rfl ?_;simp only[Ky,Jl];refine GR Il ?_;rw[Zr];refine⟨?_,?_⟩
 .simp[Hl,IA,Iy,H2]
 refine Fy (Hm lB rfl) ?_;obtain⟨s1,g1,a1,a2,a3⟩:=so (E:=.Jh) La rZ hf hg hk hT AA;refine Rc ((a1.sw (Q:=λr s'=>r=.tuple []/\s'=s1) ⟨rfl,rfl⟩).Hw (.cons (NK _) (.cons (NK _) (.cons (NK _) (.cons (VH rfl) (.refl [])))))) λv s' _ _ hq=>?_;obtain⟨rfl,td⟩:=hq;rw[td];have MS:=a2.Iv;have Rl:=a2.gs;have LX:k<g1.os.length:=by rw[a2.len];exact hk
 obtain⟨p,hp⟩:∃p,g1.os[k]?=some p:=⟨_,Bc LX⟩
 obtain⟨b,hb,fO⟩:=Rl.RD LX
 have fW:p.2.length<=T+(Li x.e).length:=by
  have:JG (g1.os.map Bx) (T+(Li x.e).length):=by rw[a3];exact R9 hT
  exact this _ (B8.2 ⟨p,Bn hp,rfl⟩)
 obtain⟨y,s2,s3,g3,b1,b2,b3,b4,b5,b6⟩:=nM MS Rl hp (x:=mv) lV AA hb;have x6:s1.heap g.gp=some (.box g1.box):=by rw[<- a2.gp];exact Rl.box
 refine GR Kl ?_;refine GR Hj ?_;refine GR (GH x6 rfl) ?_;refine GR Kl ?_;refine GR Hj ?_;refine GR (GH x6 rfl) ?_;rw[hb];refine GR (Jt AA (by simpa using LX)) ?_;refine GR AdC ?_;refine GR b1 ?_;refine GR (Jt AA (by simpa using LX)) ?_;refine GR b3 ?_;refine⟨?_,?_⟩
 .have To:∀d,p.1=some d->d≠g.gp:=λd hd=>by
   have:=Rl.HE p (Bn hp);unfold KQ at this;rw[hd]at this;exact JQ this x6 AD
  have YK:=Gu MS x6;simp[Hl,IA,Iy,H2];exact⟨⟨λ_=>⟨λh=>To _ h rfl,λh=>by omega⟩,Ix AF,Ix AF⟩,Ix AF,Ix AF,by kernel_rfl,Ix AF⟩
 refine Fy AbS ?_;refine Fy Il ?_;refine hW s3 g3 (a2.trans b4) ?_;rw[b5,a3];unfold nmR;rw[Zr];rfl
def sq{sc:Sb}(La:sc.length<=100000){bx ib:Nat}{x:Item}(rZ:(Li x.e).length<=100000){mv:PV}{Ie:LI}(lV:mv.GK=some (I7 Ie))(I0:x.GB=[])(jq:x.GL.length<=100000){rc:Nat}{Q:F1}{w3:PV->PV->PV->PV->F1}{iv iiv:PV}:∀(m j:Nat),x.GL.length-j=m->j<=x.GL.length->
  ∀{s:St} (hf:Gm s) {g:KU} (hg:RS s g) (hx:QV s g bx (YQ sc)) (hi:QV s g ib x.GG) (Zr:∀n,n∈x.GL->∃k:Nat,Hv sc n=k/\k<g.os.length) {T:Nat} (hT:JG (g.os.map Bx) T) (Mk:T+m*((Li x.e).length+Ie.length)<=800000000)
   (hW:∀s' g',MN s g s' g'->g'.os.map Bx=(x.GL.drop j).foldl (nmR sc Ie x.e) (g.os.map Bx)->da (.Hw .Jh) Q w3 (.GN g.gp 0) iv mv (.GN bx 0) iiv (.GN ib 0) s'),
  Uk (.Hw .Jh) Q w3 (m+1) (.GN g.gp 0) iv mv (.GN bx 0) iiv (.GN ib 0) (.HL rc ((Li x.e).map GC)) (I j) s
 |0,j,hm,hj,s,hf,g,hg,hx,hi,Zr,T,hT,Mk,hW=>by
  rw[CB AA]at hW;have hnr:x.GG[0]?=some (.GV (x.GL.map GC)):=by rw[Item.IC];rfl
  have cL:=hi.GY;unfold Uk Wn;refine Fy Hj ?_;refine Fy (GH cL hnr) ?_;refine Fy AcH ?_;rw[Bb];refine Fy AbX ?_;refine bH ?_;refine bH ?_;refine bH ?_;refine bH ?_;refine Fy Pc ?_;refine cf ?_;exact hW s g (.refl hf hg) rfl
 |m+1,j,hm,hj,s,hf,g,hg,hx,hi,Zr,T,hT,Mk,hW=>by
  have G7:j<x.GL.length:=AA;rw[Bt G7]at hW;obtain⟨k,LX,Jm⟩:=Zr _ (Bl G7);have hT3:T+((Li x.e).length+Ie.length)+m*((Li x.e).length+Ie.length)<=800000000:=by rw[Ce]at Mk;omega
  unfold Uk;refine AAw La rZ lV hf hg hx hi I0 (Bc G7) jq LX Jm hT AA λs1 g1 h1 h2=>?_;rw[<- h1.gp];refine sq La rZ lV I0 jq m (j+1) AA G7 h1.Iv h1.gs (hx.ZR hf h1) (hi.ZR hf h1) (λn hn=>by rw[h1.len];exact Zr n hn) (T:=T+((Li x.e).length+Ie.length)) (by rw[h2];exact sK hT) hT3 λs2 g2 k1 k2=>?_;rw[h1.gp];exact hW s2 g2 (h1.trans k1) (by rw[k2,h2];rfl)
end
section
open Go.Proofs
def AAN(x:Item):TF 9 x.GG (0+1)=some (.agg x.e.GG):=rz x
end
section
open Go.Proofs
def ABt{s:St}(hf:Gm s){o:ON}{l xs:List BA}(ho:gd s (o,l)){x:PV}(hx:x.GK=some (xs.map GC))(hn:l.length+xs.length<=1000000000):
  ∃o' s',H8 (Hb 1 16 (Pp (o,l)) x) s (Pp (some o',l++xs)) s' [] o.toList/\s'.heap o'=some (.HE (l++xs).length 1)/\(∀b,b≠o'->s'.heap b=s.heap b)/\((o=some o'/\s'.next=s.next)\/(o=none/\o'=s.next/\s'.next=s.next+1))/\Gm s'/\HT s s':=by
 have JO:∀l:List BA,(l.map GC).all (λr=>Br r.length 1)=true:=λl=>by
  exact AhN
 have HM:∀l:List BA,(l.map GC).length=l.length:=λl=>Bb _;cases o with
 |none=>
  have hl:l=[]:=ho;subst hl;refine⟨s.next,s.new (.HE xs.length 1),?_,by rw[St.Kr];simp,λb hb=>Av rfl hb,.inr ⟨rfl,rfl,rfl⟩,Hh hf,H9⟩;have h:=Mw (bytes:=16) (size:=1) (s:=s) hx (JO xs) (by rw[HM];exact Jf AZz AL) rfl;rw[HM]at h;exact h
 |some c=>
  have hc:s.heap c=some (.HE l.length 1):=ho;refine⟨c,s.set c (.HE (l++xs).length 1),?_,A4,λb hb=>Ar hb,.inl ⟨rfl,rfl⟩,Hx hf AZ2,IV AZ2⟩;have h:=Jp (bytes:=16) (size:=1) (s:=s) (b:=c) (GK:=l.map GC) (e':=1) hx (JO xs) (by rw[HM,HM];exact Jf hn AL) (JO l) (by rw[HM];exact hc) (.inr rfl);rw[HM,HM]at h;show H8 (Hb 1 16 (.HL c (l.map GC)) x) s (.HL c ((l++xs).map GC)) _ _ _;rw[Bu,Bd];exact h
structure My (s:St) (g:KU) (s':St) (g':KU):Prop where
 gs:RS s' g'
 gp:g'.gp=g.gp
 H2:∀b,b∈g'.H2->b∈g.H2\/s.next<=b
 Hi:∀b,b∉g.H2->b<s.next->s'.heap b=s.heap b
 Iw:HT s s'
 Iv:Gm s'
def My.refl{s:St}{g:KU}(hf:Gm s)(hg:RS s g):My s g s g:=⟨hg,rfl,λ_ h=> .inl h,λ_ _ _=>rfl,.refl _,hf⟩
def My.trans{s1 s2 s3:St}{g1 g2 g3:KU}(h:My s1 g1 s2 g2)(k:My s2 g2 s3 g3):My s1 g1 s3 g3:=
 have hn:=h.Iw.next
 ⟨k.gs,k.gp.trans h.gp,λb hb=>by
  rcases k.H2 b hb with h1|h1
  .exact h.H2 b h1
  .exact .inr AA,λb h1 h2=>by
  rw[k.Hi b (λhm=>by
   rcases h.H2 b hm with h3|h3
   .exact h1 h3
   .omega) AA]
  exact h.Hi b h1 h2,h.Iw.trans k.Iw,k.Iv⟩
def MN.JD{s s':St}{g g':KU}(h:MN s g s' g'):My s g s' g':=⟨h.gs,h.gp,λb hb=>h.H2 hb,λb hb hl=>h.GY hb hl,h.Iw,h.Iv⟩
def RS.nC{s:St}{g:KU}(h:RS s g):g.H2.Nodup:=by
 obtain⟨n1,n2,n3⟩:=CM.1 h.nd;obtain⟨m1,m2,m3⟩:=CM.1 n2
 have ho:∀d,d∈g.nb.toList++(g.ba.toList++g.HE)->∃n,s.heap d=some (.HE n 1):=λd hd=>by
  have hi:d∈g.H2:=by
   simp only[KU.H2,Bm,Bf]at hd⊢;rcases hd with h|h|h
   .exact .inr (.inl h)
   .exact .inr (.inr (.inr (.inl h)))
   .exact .inr (.inr (.inr (.inr h)))
  simp only[Bf,DW,KU.HE,CD]at hd;rcases hd with hd|hd|⟨p,hp,hd⟩
  .have:=h.nm;unfold gd at this;simp only[hd]at this;exact⟨_,this⟩
  .have:=h.IK;unfold KQ at this;simp only[hd]at this;exact⟨_,this⟩
  .have:=h.HE p hp;unfold KQ at this;rw[hd]at this;exact⟨_,this⟩
 have fO:∀d,d∈g.bo.toList->s.heap d=some (.K7 1 (g.os.map Hk)):=λd hd=>by
  have:=h.on;unfold SO at this;rw[DW.1 hd]at this;exact this
 refine CP.2 ⟨λhm=>?_,CM.2 ⟨n1,CM.2 ⟨?_,n2,λa ha b hb=>?_⟩,λa ha b hb=>?_⟩⟩
 .simp only[Bf]at hm;rcases hm with hm|hm|hm
  .obtain⟨n,hn⟩:=ho g.gp (by simp only[Bf];exact .inl hm);rw[h.box]at hn;cases hn
  .have:=fO _ hm;rw[h.box]at this;cases this
  .obtain⟨n,hn⟩:=ho g.gp (by simp only[Bf];exact .inr hm);rw[h.box]at hn;cases hn
 .cases g.bo<;>simp
 .rintro rfl;obtain⟨n,hn⟩:=ho a (Bf.2 (.inr hb));rw[fO a ha]at hn;cases hn
 .rintro rfl;rcases Bf.1 hb with hb|hb
  .obtain⟨n,hn⟩:=ho a (Bf.2 (.inl ha));rw[fO a hb]at hn;cases hn
  .exact n3 a ha a hb rfl
def AIT{s:St}(hf:Gm s){g:KU}(hg:RS s g)(n:BA)(hn:g.GL.length<=100000):
  ∃y s1 s2 c,H8 (Hb 1 16 (Pp (g.nb,g.GL)) (.GV [[.Gh n]])) s y s1 [] g.nb.toList/\y.IT=true/\H8 (Gc 1 y (.GN g.gp 0)) s1 .undef s2 [] [g.gp]/\My s g s2 {g with nb:=some c,GL:=g.GL++[n]}/\s.next<=s1.next:=by
 obtain⟨c,s1,a1,a2,a3,a4,a5,a6⟩:=ABt hf hg.nm (x:=.GV [[.Gh n]]) (xs:=[n]) rfl AB;have KO:=hg.nC
 have Kk:∀d,d∈g.H2->g.nb≠some d->d≠c:=λd hd h1=>by
  exact Af0
 have key:∀d,d∈g.gp::(g.bo.toList++(g.ba.toList++g.HE))->d∈g.H2/\g.nb≠some d:=λd hd=>by
  unfold KU.H2 at KO⊢;obtain⟨h1,h2⟩:=CP.1 KO;rcases Bm.1 hd with rfl|hd
  .exact⟨Bw,λh=>h1 (Bf.2 (.inl Ah))⟩
  .exact⟨Bq _ (Bf.2 (.inr hd)),λh=>(CM.1 h2).2.2 d Ah d hd rfl⟩
 have x6:=Kk _ (key g.gp Bw).1 (key g.gp Bw).2;have Lz:s1.heap g.gp=some (.box [Pp (g.nb,g.GL),Hk (g.ba,g.IK),lk g.bo g.os.length]):=(a3 _ x6).trans hg.box;obtain⟨s2,JY⟩:∃s2,s2=s1.set g.gp (.box [Pp (some c,g.GL++[n]),Hk (g.ba,g.IK),lk g.bo g.os.length]):=⟨_,rfl⟩
 have hk:∀d,d≠c->d≠g.gp->s2.heap d=s.heap d:=λd h1 h2=>by rw[JY,Ar h2,a3 d h1]
 have Jm:∀d,d∈g.bo.toList++(g.ba.toList++g.HE)->s2.heap d=s.heap d:=λd hd=>by
  obtain⟨h1,h2⟩:=key d (Bq _ hd);refine hk d (Kk d h1 h2) ?_;rintro rfl;unfold KU.H2 at KO;exact(CP.1 KO).1 (Bf.2 (.inr hd))
 have ADA:c∈g.H2\/s.next<=c:=by
  exact Aht
 refine⟨_,s1,s2,c,a1,af,?_,⟨⟨?_,?_,hg.IK.Hi λd hd=>Jm d ?_,hg.on.Hi λd hd=>Jm d ?_,λp hp=>(hg.HE p hp).Hi λd hd=>Jm d ?_,?_⟩,rfl,λb hb=>?_,λb h1 h2=>hk b ?_ ?_,?_,?_⟩,a6.next⟩
 .rw[JY];exact KD Lz af rfl rfl
 .rw[JY];exact A4
 .exact AhH
 .have hd:g.ba=some d:=hd;simp[hd]
 .simp[hd]
 .exact Ag8
 .show([c]++(g.ba.toList++g.HE)).Nodup;refine CM.2 ⟨AD,(CM.1 hg.nd).2.1,λa ha b hb=>?_⟩;simp at ha;subst ha;obtain⟨h1,h2⟩:=key b (Bq _ (Bf.2 (.inr hb)));exact(Kk b h1 h2).symm
 .have hb:b∈g.gp::([c]++(g.bo.toList++(g.ba.toList++g.HE))):=hb;simp only[Bm,Bf,Cn,or_false]at hb;rcases hb with rfl|rfl|hb
  .exact .inl AZk
  .exact ADA
  .exact .inl (key b (Bq _ (by simpa only[Bf]using hb))).1
 .exact Agw
 .rintro rfl;exact h1 AZk
 .exact AhB
 .rw[JY];exact Hx a5 AS
def AST{s:St}(hf:Gm s){g:KU}(hg:RS s g)(a:Int)(hn:g.IK.length<=100000):
  ∃y s1 s2 c,H8 (Hb 1 8 (Hk (g.ba,g.IK)) (.GV [[I a]])) s y s1 [] g.ba.toList/\y.IT=true/\H8 (Gc 1 y (.GN g.gp 1)) s1 .undef s2 [] [g.gp]/\My s g s2 {g with ba:=some c,IK:=g.IK++[a]}/\s.next<=s1.next:=by
 obtain⟨c,s1,a1,a2,a3,a4,a5,a6⟩:=UA hf hg.IK (x:=.GV [[I a]]) (xs:=[a]) rfl AB;have KO:=hg.nC
 have Kk:∀d,d∈g.H2->g.ba≠some d->d≠c:=λd hd h1=>by
  exact Af0
 have key:∀d,d∈g.gp::(g.nb.toList++(g.bo.toList++g.HE))->d∈g.H2/\g.ba≠some d:=λd hd=>by
  unfold KU.H2 at KO⊢;obtain⟨h1,h2⟩:=CP.1 KO;obtain⟨_,h3,h4⟩:=CM.1 h2;obtain⟨_,h5,h6⟩:=CM.1 h3;obtain⟨_,_,h7⟩:=CM.1 h5;simp only[Bm,Bf]at hd⊢;rcases hd with rfl|hd|hd|hd
  .exact⟨.inl rfl,λh=>h1 Ah⟩
  .exact Ahe
  .exact⟨.inr (.inr (.inl hd)),λh=>h6 d hd d Ah rfl⟩
  .exact⟨.inr (.inr (.inr (.inr hd))),λh=>h7 d Ah d hd rfl⟩
 have x6:=Kk _ (key g.gp Bw).1 (key g.gp Bw).2;have Lz:s1.heap g.gp=some (.box [Pp (g.nb,g.GL),Hk (g.ba,g.IK),lk g.bo g.os.length]):=(a3 _ x6).trans hg.box;obtain⟨s2,JY⟩:∃s2,s2=s1.set g.gp (.box [Pp (g.nb,g.GL),Hk (some c,g.IK++[a]),lk g.bo g.os.length]):=⟨_,rfl⟩
 have hk:∀d,d≠c->d≠g.gp->s2.heap d=s.heap d:=λd h1 h2=>by rw[JY,Ar h2,a3 d h1]
 have Jm:∀d,d∈g.nb.toList++(g.bo.toList++g.HE)->s2.heap d=s.heap d:=λd hd=>by
  obtain⟨h1,h2⟩:=key d (Bq _ hd);refine hk d (Kk d h1 h2) ?_;rintro rfl;unfold KU.H2 at KO;refine(CP.1 KO).1 ?_;simp only[Bf]at hd⊢;rcases hd with h|h|h
  .exact .inl h
  .exact .inr (.inl h)
  .exact AhZ
 have ADA:c∈g.H2\/s.next<=c:=by
  exact Aht
 refine⟨_,s1,s2,c,a1,LR,?_,⟨⟨?_,hg.nm.Hi λd hd=>Jm d ?_,?_,hg.on.Hi λd hd=>Jm d ?_,λp hp=>(hg.HE p hp).Hi λd hd=>Jm d ?_,?_⟩,rfl,λb hb=>?_,λb h1 h2=>hk b ?_ ?_,?_,?_⟩,a6.next⟩
 .rw[JY];exact KD Lz LR rfl rfl
 .rw[JY];exact A4
 .have hd:g.nb=some d:=hd;simp[hd]
 .exact AhH
 .simp[hd]
 .exact Ag8
 .show(g.nb.toList++([c]++g.HE)).Nodup;obtain⟨n1,n2,n3⟩:=CM.1 hg.nd;refine CM.2 ⟨n1,CM.2 ⟨AD,(CM.1 n2).2.1,λx hx b hb=>?_⟩,λx hx b hb=>?_⟩
  .simp at hx;subst hx;obtain⟨h1,h2⟩:=key b AX;exact(Kk b h1 h2).symm
  .rcases Bf.1 hb with h|h
   .simp at h;subst h;obtain⟨h1,h2⟩:=key x (by simp only[Bm,Bf];exact .inr (.inl hx));exact Kk x h1 h2
   .exact n3 x hx b (Bf.2 (.inr h))
 .have hb:b∈g.gp::(g.nb.toList++(g.bo.toList++([c]++g.HE))):=hb;simp only[Bm,Bf,Cn,or_false]at hb;rcases hb with rfl|hb|hb|rfl|hb
  .exact .inl AZk
  .exact .inl (key b AaE).1
  .exact .inl (key b AZu).1
  .exact ADA
  .exact .inl (key b AX).1
 .exact Agw
 .rintro rfl;exact h1 AZk
 .exact AhB
 .rw[JY];exact Hx a5 AS
def ASU{s:St}(hf:Gm s){g:KU}(hg:RS s g)(hn:g.os.length<=100000):
  ∃y s1 s2 c,H8 (II 1 24 (lk g.bo g.os.length) (.GV [[.nil]])) s y s1 [] g.bo.toList/\y.IT=true/\H8 (Gc 1 y (.GN g.gp 2)) s1 .undef s2 [] [g.gp]/\My s g s2 {g with bo:=some c,os:=g.os++[(none,[])]}:=by
 obtain⟨s1,a1,a2,a3,a4,a5,a6⟩:=ABu hf hg.on hn;have KO:=hg.nC;have hgl:=hg.lt hf (b:=g.gp) AZk;have Kk:∀d,d∈g.H2->d≠s.next:=λd hd=>by have:=hg.lt hf hd;omega
 have key:∀d,d∈g.gp::(g.nb.toList++(g.ba.toList++g.HE))->d∈g.H2/\g.bo≠some d:=λd hd=>by
  unfold KU.H2 at KO⊢;obtain⟨h1,h2⟩:=CP.1 KO;obtain⟨_,h3,h4⟩:=CM.1 h2;obtain⟨_,h5,h6⟩:=CM.1 h3;simp only[Bm,Bf]at hd⊢;rcases hd with rfl|hd|hd|hd
  .exact⟨.inl rfl,λh=>h1 Ah⟩
  .exact Ahe
  .exact⟨.inr (.inr (.inr (.inl hd))),λh=>h6 d Ah d (Bf.2 (.inl hd)) rfl⟩
  .exact⟨.inr (.inr (.inr (.inr hd))),λh=>h6 d Ah d (Bf.2 (.inr hd)) rfl⟩
 have Lz:s1.heap g.gp=some (.box [Pp (g.nb,g.GL),Hk (g.ba,g.IK),lk g.bo g.os.length]):=(a3 _ AA (key g.gp Bw).2).trans hg.box;obtain⟨s2,JY⟩:∃s2,s2=s1.set g.gp (.box [Pp (g.nb,g.GL),Hk (g.ba,g.IK),.ME s.next (g.os.length+1)]):=⟨_,rfl⟩
 have Jm:∀d,d∈g.nb.toList++(g.ba.toList++g.HE)->s2.heap d=s.heap d:=λd hd=>by
  obtain⟨h1,h2⟩:=key d (Bq _ hd);rw[JY,Ar λhe=>?_,a3 d (Kk d h1) h2];subst he;unfold KU.H2 at KO;refine(CP.1 KO).1 ?_;simp only[Bf]at hd⊢;rcases hd with h|h|h
  .exact .inl h
  .exact .inr (.inr (.inl h))
  .exact AhZ
 have hbn:s2.heap s.next=some (.K7 1 ((g.os++[(none,[])]).map Hk)):=by rw[JY,Ar AA];exact a2
 have hfm:(g.os++[(none,[])]).filterMap CO=g.HE:=by simp[KU.HE]
 refine⟨_,s1,s2,s.next,a1,rfl,?_,⟨⟨?_,hg.nm.Hi λd hd=>Jm d ?_,hg.IK.Hi λd hd=>Jm d ?_,hbn,λp hp=>?_,?_⟩,rfl,λb hb=>?_,λb h1 h2=>?_,?_,?_⟩⟩
 .rw[JY];exact KD Lz rfl rfl rfl
 .show s2.heap g.gp=some (.box [Pp (g.nb,g.GL),Hk (g.ba,g.IK),.ME s.next (g.os++[(none,[])]).length]);rw[JY,A4,Bd];rfl
 .have hd:g.nb=some d:=hd;simp[hd]
 .have hd:g.ba=some d:=hd;simp[hd]
 .rcases Bf.1 hp with hp|hp
  .exact(hg.HE p hp).Hi λd hd=>Jm d (by simp only[KU.HE,Bf,CD];exact .inr (.inr ⟨p,hp,hd⟩))
  .simp at hp;subst hp;rfl
 .show(g.nb.toList++(g.ba.toList++(g.os++[(none,[])]).filterMap CO)).Nodup;rw[hfm];exact hg.nd
 .have hb:b∈g.gp::(g.nb.toList++([s.next]++(g.ba.toList++(g.os++[(none,[])]).filterMap CO))):=hb;rw[hfm]at hb;simp only[Bm,Bf,Cn,or_false]at hb;rcases hb with rfl|hb|rfl|hb|hb
  .exact .inl AZk
  .exact .inl (key b AaE).1
  .exact .inr (Bg _)
  .exact .inl (key b AZu).1
  .exact .inl (key b AX).1
 .rw[JY,Ar (by rintro rfl;exact h1 AZk),a3 b AA (λh=>h1 Aal)]
 .exact AhB
 .rw[JY];exact Hx a5 AS
end
section
open Go.Proofs
structure TS (s:St) (g:KU) (tb o1 o2:Nat) (sc:Sb):Prop where
 box:s.heap tb=some (.box [.HL o1 ((sc.map CO).map GC),.HL o2 (I7 (sc.map Bx))])
 nm:s.heap o1=some (.HE sc.length 1)
 is:s.heap o2=some (.HE sc.length 1)
 ne:o1≠o2
 H2:tb∉g.H2/\o1∉g.H2/\o2∉g.H2
def TS.JD{s s':St}{g g':KU}{tb o1 o2:Nat}{sc:Sb}(h:TS s g tb o1 o2 sc)(hf:Gm s)(k:My s g s' g'):TS s' g' tb o1 o2 sc:=by
 have h1:=Gu hf h.box;have h2:=Gu hf h.nm;have h3:=Gu hf h.is
 have VN:∀b,b∉g.H2->b<s.next->b∉g'.H2:=λb hb hl hm=>by
  rcases k.H2 b hm with h|h
  .exact hb h
  .omega
 exact⟨(k.Hi tb h.H2.1 h1).trans h.box,(k.Hi o1 h.H2.2.1 h2).trans h.nm,(k.Hi o2 h.H2.2.2 h3).trans h.is,h.ne,VN _ h.H2.1 h1,VN _ h.H2.2.1 h2,VN _ h.H2.2.2 h3⟩
def Qw(sc:Sb)(k:Nat):List Ge->Sb
 |[]=>sc
 |v::r=>Qw (sc++[(v.name,(k:Int))]) (k+1) r
def eJ:∀{l:List Ge} {sc:Sb} {k:Nat},(Qw sc k l).length=sc.length+l.length
 |[],_,_=>rfl
 |v::r,sc,k=>by simp only[Qw,eJ,Bd,CE,List.length_nil];omega
def sL(l:List BA):(l.map GC).all (λr=>Br r.length 1)=true:=AhN
def wG{s:St}(hf:Gm s){g:KU}(hg:RS s g)(hn:g.GL.length<=100000)(ha:g.IK.length=g.GL.length)(ho:g.os.length=g.GL.length){tb o1 o2:Nat}{sc:Sb}(hT:TS s g tb o1 o2 sc)(La:sc.length<=100000){l:List Ge}(hl:l.length<=100000){i:Nat}{v:Ge}(hv:l[i]?=some v):
  ∃s' g',RS s' g'/\g'.gp=g.gp/\g'.GL=g.GL++[v.name]/\g'.IK=g.IK++[v.GY]/\g'.os=g.os++[(none,[])]/\(∀b,b∈g'.H2->b∈g.H2\/s.next<=b)/\TS s' g' tb o1 o2 (sc++[(v.name,(g.GL.length:Int))])/\(∀b,b∉g.H2->b≠tb->b≠o1->b≠o2->b<s.next->s'.heap b=s.heap b)/\HT s s'/\Gm s'/\
   ∀{Q:F1} {W:PV->PV->PV->PV->F1} {rb:PV},W (.GN g.gp 0) (.GV (l.map Am)) rb (.GN tb 0) (I (i+1:Nat)) s'->gF (.Hw .Jh) Q W (.GN g.gp 0) (.GV (l.map Am)) rb (.GN tb 0) (I i) s:=by
 have pF:=(Bp.1 hv).1;have htl:=Gu hf hT.box;have h1l:=Gu hf hT.nm;have h2l:=Gu hf hT.is;have AMx:tb≠o1:=JQ hT.box hT.nm AD;have AMy:tb≠o2:=JQ hT.box hT.is AD;have hgl:=Gu hf hg.box;have hgt:g.gp≠tb:=by rintro h;exact hT.H2.1 Aal
 have Pr:((sc.map CO).map GC).length=sc.length:=AD;have rZ:(I7 (sc.map Bx)).length=sc.length:=by simp[I7]
 obtain⟨k,hk⟩:∃k:Int,k=(g.GL.length:Int):=⟨_,rfl⟩
 obtain⟨sa,hsa⟩:∃sa,sa=s.set o1 (.HE (((sc.map CO).map GC).length+[[PV.Gh v.name]].length) 1):=⟨_,rfl⟩
 have hka:∀b,b≠o1->sa.heap b=s.heap b:=λb hb=>by rw[hsa,Ar hb]
 have hna:sa.next=s.next:=by rw[hsa];rfl
 have hfa:Gm sa:=by rw[hsa];exact Hx hf (by rw[hT.nm];simp)
 have hta:=(hka tb AMx).trans hT.box;obtain⟨sb,Ur⟩:∃sb,sb=sa.set tb (.box [.HL o1 ((sc.map CO).map GC++[[PV.Gh v.name]]),.HL o2 (I7 (sc.map Bx))]):=⟨_,rfl⟩
 have hkb:∀b,b≠o1->b≠tb->sb.heap b=s.heap b:=λb h1 h2=>by rw[Ur,Ar h2,hka b h1]
 have hnb:sb.next=s.next:=by rw[Ur];exact hna
 have hfb:Gm sb:=by rw[Ur];exact Hx hfa (by rw[hta];simp)
 have htb:sb.heap tb=some (.box [.HL o1 ((sc.map CO).map GC++[[PV.Gh v.name]]),.HL o2 (I7 (sc.map Bx))]):=by rw[Ur];exact A4
 have h2b:sb.heap o2=some (.HE sc.length 1):=(hkb o2 hT.ne.symm AMy.symm).trans hT.is;have Tn:sb.heap g.gp=some (.box g.box):=(hkb g.gp (by rintro h;exact hT.H2.2.1 (by simp[KU.H2,<- h])) hgt).trans hg.box;obtain⟨sc1,vN⟩:∃sc1,sc1=sb.set o2 (.HE ((I7 (sc.map Bx)).length+[[PVI k]].length) 1):=⟨_,rfl⟩
 have AVX:sc1.next=s.next:=by rw[vN];exact hnb
 have AU3:Gm sc1:=by rw[vN];exact Hx hfb (by rw[h2b];simp)
 have ARj:sc1.heap tb=some (.box [.HL o1 ((sc.map CO).map GC++[[PV.Gh v.name]]),.HL o2 (I7 (sc.map Bx))]):=by rw[vN,Ar AMy];exact htb
 obtain⟨sd,hsd⟩:∃sd,sd=sc1.set tb (.box [.HL o1 ((sc.map CO).map GC++[[PV.Gh v.name]]),.HL o2 (I7 (sc.map Bx)++[[PVI k]])]):=⟨_,rfl⟩
 have KO:sd.next=s.next:=by rw[hsd];exact AVX
 have hfd:Gm sd:=by rw[hsd];exact Hx AU3 (by rw[ARj];simp)
 have vG:∀b,b≠o1->b≠tb->b≠o2->sd.heap b=s.heap b:=λb h1 h2 h3=>by rw[hsd,Ar h2,vN,Ar h3,hkb b h1 h2]
 have hgd:RS sd g:=hg.Hi λb hb=>vG b (by rintro rfl;exact hT.H2.2.1 hb) (by rintro rfl;exact hT.H2.1 hb) (by rintro rfl;exact hT.H2.2.2 hb)
 have hTd:TS sd g tb o1 o2 (sc++[(v.name,k)]):=by
  refine⟨?_,?_,?_,hT.ne,hT.H2⟩
  .rw[hsd,A4];simp[I7,GC]
  .rw[hsd,Ar AMx.symm,vN,Ar hT.ne,Ur,Ar AMx.symm,hsa,A4,Pr];simp
  .rw[hsd,Ar AMy.symm,vN,A4,rZ];simp
 have hGd:HT s sd:=⟨AA,λb _ hh=>by
  rw[vG b (by rintro rfl;rw[hT.nm]at hh;cases hh) (by rintro rfl;rw[hT.box]at hh;cases hh) (by rintro rfl;rw[hT.is]at hh;cases hh)];exact hh⟩
 obtain⟨y1,e1,e2,c1,p1,p2,p3,p4,p5⟩:=AIT hfd hgd v.name hn;obtain⟨g1,Rl⟩:∃g1:KU,g1={g with nb:=some c1,GL:=g.GL++[v.name]}:=⟨_,rfl⟩
 rw[<- Rl]at p4;obtain⟨y2,e3,e4,c2,q1,q2,q3,q4,q5⟩:=AST p4.Iv p4.gs v.GY (by rw[Rl];show g.IK.length<=_;omega);obtain⟨g2,Tm⟩:∃g2:KU,g2={g1 with ba:=some c2,IK:=g1.IK++[v.GY]}:=⟨_,rfl⟩
 rw[<- Tm]at q4;obtain⟨y3,e5,e6,c3,r1,r2,r3,r4⟩:=ASU q4.Iv q4.gs (by rw[Tm,Rl];show g.os.length<=_;omega);obtain⟨g3,tZ⟩:∃g3:KU,g3={g2 with bo:=some c3,os:=g2.os++[(none,[])]}:=⟨_,rfl⟩
 rw[<- tZ]at r4;have hG:=p4.trans (q4.trans r4);have To:g1.gp=g.gp:=by rw[Rl]
 have AHJ:g2.gp=g.gp:=by rw[Tm];exact To
 have L0:e2.heap g.gp=some (.box g1.box):=by rw[<- To];exact p4.gs.box
 have hb4:e4.heap g.gp=some (.box g2.box):=by rw[<- AHJ];exact q4.gs.box
 rw[To]at q3;rw[AHJ]at r3;refine⟨e6,g3,hG.gs,hG.gp,by rw[tZ,Tm,Rl],by rw[tZ,Tm,Rl],by rw[tZ,Tm,Rl],λb hb=>?_,by rw[<- hk];exact hTd.JD hfd hG,λb h1 h2 h3 h4 h5=>?_,hGd.trans hG.Iw,hG.Iv,λ{Q W rb} hW=>?_⟩
 .rcases hG.H2 b hb with h|h
  .exact .inl h
  .exact AgD
 .rw[hG.Hi b h1 AA,vG b h3 h2 h4]
 .unfold gF;refine Fy Abj ?_;rw[Bb];refine Fy AbW ?_;refine ct ?_;refine GR Hj ?_;refine GR (GH hT.box rfl) ?_;refine GR Aba ?_;refine GR Pw ?_;refine GR Acn ?_;refine GR (bh (GK:=[[.Gh v.name]]) rfl) ?_;refine GR (Jp (xs:=[[PV.Gh v.name]]) rfl rfl (Jf (by simp only[Pr,C3];omega) AA) (sL _) (by rw[Pr];exact hT.nm) (.inr rfl)) ?_;rw[<- hsa];refine GR Hj ?_;refine GR (KD (Oc:=[.HL o1 ((sc.map CO).map GC++[[PV.Gh v.name]]),.HL o2 (I7 (sc.map Bx))]) hta rfl rfl rfl) ?_;rw[<- Ur];refine⟨?_,?_⟩
  .simp[Hl,IA,Iy,H2]
   (repeat' apply And.intro)<;>first|exact Ix AF|kernel_rfl
  refine GR Hj ?_;refine GR (GH htb rfl) ?_;refine GR Kl ?_;refine GR Hj ?_;refine GR (GH Tn rfl) ?_;refine GR AdH ?_;rw[Bb,<- hk];refine GR (bh (GK:=[[I k]]) rfl) ?_;refine GR (Jp (xs:=[[PVI k]]) rfl rfl (Jf (by simp only[rZ,C3];omega) AA) SJ (by rw[rZ];exact h2b) (.inr rfl)) ?_;rw[<- vN];refine GR Hj ?_;refine GR (KD (Oc:=[.HL o1 ((sc.map CO).map GC++[[PV.Gh v.name]]),.HL o2 (I7 (sc.map Bx)++[[PVI k]])]) ARj rfl rfl rfl) ?_;rw[<- hsd];refine⟨?_,?_⟩
  .simp[Hl,IA,Iy,H2]
   (repeat' apply And.intro)<;>first|exact Ix AF|kernel_rfl
  refine GR Kl ?_;refine GR Hj ?_;refine GR (GH hgd.box rfl) ?_;refine GR Aba ?_;refine GR Pw ?_;refine GR Acn ?_;refine GR (bh (GK:=[[.Gh v.name]]) rfl) ?_;refine GR p1 ?_;refine GR Kl ?_;refine GR Hj ?_;refine GR p3 ?_;refine⟨?_,?_⟩
  .simp[Hl,IA,Iy,H2]
   (repeat' apply And.intro)<;>first|exact Ix AF|kernel_rfl
  refine GR Kl ?_;refine GR Hj ?_;refine GR (GH L0 rfl) ?_;refine GR Aba ?_;refine GR Pw ?_;refine GR (Hg (v:=I v.GY) rfl) ?_;refine GR (bh (GK:=[[I v.GY]]) rfl) ?_;refine GR q1 ?_;refine GR Kl ?_;refine GR Hj ?_;refine GR q3 ?_;refine⟨?_,?_⟩
  .simp[Hl,IA,Iy,H2]
   (repeat' apply And.intro)<;>first|exact Ix AF|kernel_rfl
  refine Fy Kl ?_;refine Fy Hj ?_;refine Fy (GH hb4 rfl) ?_;refine Fy (vl (GK:=[[.nil]]) rfl) ?_;refine Fy r1 ?_;refine Fy Kl ?_;refine Fy Hj ?_;refine Fy r3 ?_;refine Fy AbS ?_;refine Fy Il ?_;exact hW
end
section
open Go.Proofs
structure AKY (s:St) (g:KU) (l:List Ge) (s':St) (g':KU):Prop where
 gs:RS s' g'
 gp:g'.gp=g.gp
 GL:g'.GL=g.GL++l.map Ao
 IK:g'.IK=g.IK++l.map Ge.GY
 os:g'.os=g.os++l.map λ_=>(none,[])
 H2:∀b,b∈g'.H2->b∈g.H2\/s.next<=b
 Iw:HT s s'
 Iv:Gm s'
attribute [local irreducible] ja
def nL{tb o1 o2:Nat}{l:List Ge}(hl:l.length<=50000){rb:PV}{Q:F1}:∀(m i:Nat),l.length-i=m->i<=l.length->
  ∀{s:St} (hf:Gm s) {g:KU} (hg:RS s g) (hn:g.GL.length+m<=100000) (ha:g.IK.length=g.GL.length) (ho:g.os.length=g.GL.length) {sc:Sb} (hT:TS s g tb o1 o2 sc) (La:sc.length+m<=100000)
   (hW:∀s' g',AKY s g (l.drop i) s' g'->TS s' g' tb o1 o2 (Qw sc g.GL.length (l.drop i))->(∀b,b∉g.H2->b≠tb->b≠o1->b≠o2->b<s.next->s'.heap b=s.heap b)->ja (.Hw .Jh) Q rb (.GN tb 0) s'),
  dX (.Hw .Jh) Q (m+1) (.GN g.gp 0) (.GV (l.map Am)) rb (.GN tb 0) (I i) s
 |0,i,hm,hi,s,hf,g,hg,hn,ha,ho,sc,hT,La,hW=>by
  rw[CB AA]at hW;unfold dX gF;refine Fy Abj ?_;rw[Bb];refine Fy AbX ?_;refine cf ?_;exact hW s g ⟨hg,rfl,AD,AD,AD,λb hb=> .inl hb,.refl _,hf⟩ hT λ_ _ _ _ _ _=>rfl
 |m+1,i,hm,hi,s,hf,g,hg,hn,ha,ho,sc,hT,La,hW=>by
  have G7:i<l.length:=AA;obtain⟨v,ZO⟩:∃v,v=l[i]:=⟨_,rfl⟩
  have hv:l[i]?=some v:=by rw[ZO];exact Bc G7
  rw[Bt G7,<- ZO]at hW;obtain⟨s1,g1,a1,a2,a3,a4,a5,a6,a7,a8,a9,ts,zL⟩:=wG hf hg AA ha ho hT AA (l:=l) AA hv;have pJ:=a9.next;unfold dX;refine zL ?_;rw[<- a2];refine nL hl m (i+1) AA G7 ts a1 (by rw[a3];simp;omega) (by rw[a4,a3];simp[ha]) (by rw[a5,a3];simp[ho]) a7 AB λs2 g2 b1 b2 b3=>hW s2 g2 ⟨b1.gs,b1.gp.trans a2,?_,?_,?_,λb hb=>?_,a9.trans b1.Iw,b1.Iv⟩ ?_ λb h1 h2 h3 h4 h5=>?_
  .rw[b1.GL,a3];simp
  .rw[b1.IK,a4];simp
  .rw[b1.os,a5];simp
  .rcases b1.H2 b hb with h|h
   .exact a6 b h
   .exact AgD
  .have fT:g1.GL.length=g.GL.length+1:=by rw[a3];simp
   rw[fT]at b2;exact b2
  .rw[b3 b (λh=>by
    rcases a6 b h with h|h
    .exact h1 h
    .omega) h2 h3 h4 AA,a8 b h1 h2 h3 h4 h5]
def yk{s:St}(hf:Gm s){g:KU}(hg:RS s g){sc:Sb}{l:List Ge}(hl:l.length<=50000)(hn:g.GL.length<=50000)(ha:g.IK.length=g.GL.length)(ho:g.os.length=g.GL.length)(La:sc.length<=50000):
  SW .Jh BZ 48 [.GN g.gp 0,.agg (YQ sc),.GV (l.map Am)] s λr s'=>∃o1 o2 g',r=.agg [.HL o1 (((Qw sc g.GL.length l).map CO).map GC),.HL o2 (I7 ((Qw sc g.GL.length l).map Bx))]/\AKY s g l s' g'/\∀b,b∉g.H2->b<s.next->s'.heap b=s.heap b:=by
 refine(ALu (.Hw .Jh) _ _ _ ?_).sw hf;have Pr:((sc.map CO).map GC).length=sc.length:=AD;have rZ:(I7 (sc.map Bx)).length=sc.length:=by simp[I7]
 obtain⟨s1,Kq⟩:∃s1,s1=(s.new (.box (YQ sc))).new (.box [.nil,.nil]):=⟨_,rfl⟩
 have fT:s1.next=s.next+2:=by rw[Kq];rfl
 have MS:Gm s1:=by rw[Kq];exact Hh (Hh hf)
 have hx1:s1.heap s.next=some (.box (YQ sc)):=by rw[Kq,Av (n:=s.next+1) rfl AA];exact Az rfl
 have VO:s1.heap (s.next+1)=some (.box [.nil,.nil]):=by rw[Kq];exact Az rfl
 have LX:∀b,b<s.next->s1.heap b=s.heap b:=λb hb=>by rw[Kq,Av (n:=s.next+1) rfl AA,Av rfl AA]
 obtain⟨s2,JY⟩:∃s2,s2=s1.new (.HE ((sc.map CO).map GC).length 1):=⟨_,rfl⟩
 have gJ:s2.next=s.next+3:=by rw[JY];show s1.next+1=_;omega
 have hx2:s2.heap s.next=some (.box (YQ sc)):=by rw[JY,Av rfl AA];exact hx1
 obtain⟨s3,Ra⟩:∃s3,s3=s2.new (.HE (I7 (sc.map Bx)).length 1):=⟨_,rfl⟩
 have hn3:s3.next=s.next+4:=by rw[Ra];show s2.next+1=_;omega
 obtain⟨s4,cO⟩:∃s4,s4=s3.new (.box [.nil,.nil]):=⟨_,rfl⟩
 have hb4:s4.heap (s.next+4)=some (.box [.nil,.nil]):=by rw[cO];exact Az hn3
 have hn4:s4.next=s.next+5:=by rw[cO];show s3.next+1=_;omega
 obtain⟨s5,hs5⟩:∃s5,s5=s4.set (s.next+4) (.box [.HL (s.next+2) ((sc.map CO).map GC),.HL (s.next+3) (I7 (sc.map Bx))]):=⟨_,rfl⟩
 have hf5:Gm s5:=by
  rw[hs5,cO,Ra,JY];refine Hx (Hh (Hh (Hh MS))) ?_;rw[<- JY,<- Ra,<- cO,hb4];simp
 have hn5:s5.next=s.next+5:=by rw[hs5,cO];show s3.next+1=_;omega
 have AHN:∀b,b<s.next+4->s5.heap b=s3.heap b:=λb hb=>by rw[hs5,Ar AA,cO,Av rfl AA]
 have hk5:∀b,b<s.next->s5.heap b=s.heap b:=λb hb=>by rw[AHN b AA,Ra,Av rfl AA,JY,Av rfl AA,LX b hb]
 have mr:s5.heap (s.next+1)=some (.box [.nil,.nil]):=by rw[AHN _ AA,Ra,Av rfl AA,JY,Av rfl AA];exact VO
 have hg5:RS s5 g:=hg.Hi λb hb=>hk5 b (hg.lt hf hb);have VN:∀b,s.next<=b->b∉g.H2:=λb hb hm=>by have:=hg.lt hf hm;omega
 have hT5:TS s5 g (s.next+4) (s.next+2) (s.next+3) sc:=by
  refine⟨?_,?_,?_,AA,VN _ AA,VN _ AA,VN _ AA⟩
  .rw[hs5];exact A4
  .rw[AHN _ AA,Ra,Av rfl AA,JY,Az AA,Pr]
  .rw[AHN _ AA,Ra,Az AA,rZ]
 have hG5:HT s s5:=by
  rw[hs5,cO,Ra,JY,Kq];refine(H9.trans (H9.trans (H9.trans (H9.trans H9)))).trans (IV ?_);rw[<- Kq,<- JY,<- Ra,<- cO,hb4];simp
 unfold g48;refine Fy AdS ?_;refine Fy (Lw (n:=s.next+1) rfl) ?_;rw[<- Kq];refine GR Hj ?_;refine GR (GH hx1 rfl) ?_;refine GR (Mw (xs:=(sc.map CO).map GC) rfl (sL _) (Jf (by rw[Pr];omega) AA) (n:=s.next+2) AA) ?_;rw[<- JY];refine GR Hj ?_;refine GR (GH hx2 rfl) ?_;refine GR (Mw (xs:=I7 (sc.map Bx)) rfl SJ (Jf (by rw[rZ];omega) AA) (n:=s.next+3) AA) ?_;rw[<- Ra];refine GR (bj (l:=[.HL (s.next+2) ((sc.map CO).map GC),.HL (s.next+3) (I7 (sc.map Bx))]) rfl rfl) ?_;refine GR (Lw (n:=s.next+4) AA) ?_;rw[<- cO];refine GR (IZ hb4 rfl rfl rfl) ?_;rw[<- hs5];refine⟨?_,?_⟩
 .simp[Hl,IA,Iy,H2]
  (repeat' apply And.intro)<;>first|(intros;omega)|exact Ix AF|kernel_rfl
 .refine⟨_,nL hl l.length 0 AA AA hf5 hg5 AA ha ho hT5 AA λs6 g6 b1 b2 b3=>?_⟩;rw[CA]at b1 b2;have yD:s6.heap (s.next+1)=some (.box [.nil,.nil]):=by rw[b3 _ (VN _ AA) AA AA AA AA];exact mr
  unfold ja;refine Fy (Hm b2.box rfl) ?_;refine Fy (IZ yD rfl rfl rfl) ?_;refine L5 (Q:=λr s'=>∃o1 o2 g',r=.agg [.HL o1 (((Qw sc g.GL.length l).map CO).map GC),.HL o2 (I7 ((Qw sc g.GL.length l).map Bx))]/\AKY s g l s' g'/\∀b,b∉g.H2->b<s.next->s'.heap b=s.heap b) (Ib (G3 (Hm A4 rfl))) ⟨_,_,g6,rfl,?_,λb h1 h2=>?_⟩
  .have hrb:s.next+1∉g6.H2:=λhm=>by
    rcases b1.H2 _ hm with h|h
    .exact VN _ AA h
    .omega
   refine⟨b1.gs.Hi λb hb=>?_,b1.gp,b1.GL,b1.IK,b1.os,λb hb=>?_,hG5.trans (b1.Iw.trans (IV (by rw[yD];simp))),Hx b1.Iv (by rw[yD];simp)⟩
   .rw[Ar (by rintro rfl;exact hrb hb)]
   .rcases b1.H2 b hb with h|h
    .exact .inl h
    .exact AgD
  .rw[Ar AA,b3 b h1 AA AA AA AA,hk5 b h2]
end
section
open Go.Proofs
def tA:∀{l:List Ge} {sc:Sb} {k i:Nat},(Qw sc k l)[i]?=if i<sc.length then sc[i]? else(l[i-sc.length]?).map λv=>(v.name,((k+(i-sc.length):Nat):Int))
 |[],sc,k,i=>by
  simp only[Qw,List.getElem?_nil,Option.map_none];split
  .rfl
  .exact Ck AA
 |v::r,sc,k,i=>by
  simp only[Qw];rw[tA,Bd,C3];by_cases h1:i<sc.length
  .rw[Ps AA,Ps h1,CL h1]
  .rw[Ng h1];by_cases h2:i=sc.length
   .subst h2;rw[Ps AA,CT (Bg _)];simp
   .rw[Ng AA];have:i-sc.length=(i-(sc.length+1))+1:=AA;rw[this,List.getElem?_cons_succ];congr 2;funext v;congr 2;omega
def rsc(l:List Ge):Sb:=Qw [] 0 l
def py{l:List Ge}:(rsc l).length=l.length:=by rw[rsc,eJ];simp
def ANp{l:List Ge}{i:Nat}:(rsc l)[i]?=(l[i]?).map λv=>(v.name,(i:Int)):=by rw[rsc,tA];simp
def yq{l:List Ge}{n:BA}:∀{k:Nat},k<=l.length->(∃(j:Nat) (v:Ge),j<k/\l[j]?=some v/\v.name=n/\qX (rsc l) n k=j)\/(qX (rsc l) n k= -1/\∀(j:Nat) (v:Ge),j<k->l[j]?=some v->v.name≠n)
 |0,_=> .inr ⟨rfl,λ_ _ h=>Zq h (Nat.not_lt_zero _)⟩
 |k+1,hk=>by
  obtain⟨v,hv⟩:∃v,l[k]?=some v:=⟨_,Bc AA⟩
  have he:qX (rsc l) n (k+1)=if v.name.toList==n.toList then(k:Int)else qX (rsc l) n k:=by
   simp only[qX,ANp,hv,Option.map_some]
  by_cases c:v.name=n
  .exact .inl ⟨k,v,AA,hv,c,by rw[he,c];simp⟩
  .have c':(v.name.toList==n.toList)=false:=by
    rw[beq_eq_false_iff_ne];exactλh=>c (toList_inj h)
   rw[he,c'];rcases yq (l:=l) (n:=n) (k:=k) AA with⟨j,u,h1,h2,h3,h4⟩|⟨h1,h2⟩
   .exact .inl ⟨j,u,AA,h2,h3,by simpa using h4⟩
   .refine .inr ⟨by simpa using h1,λj u hj hu=>?_⟩;by_cases cj:j=k
    .subst cj;rw[hv]at hu;cases hu;exact c
    .exact h2 j u AA hu
def nS{l:List Ge}{n:BA}(h:n∈l.map Ao):∃(j:Nat) (v:Ge),Hv (rsc l) n=j/\j<l.length/\l[j]?=some v/\v.name=n:=by
 have e:Hv (rsc l) n=qX (rsc l) n l.length:=by rw[Hv,py]
 rcases yq (l:=l) (n:=n) (Bg _)with⟨j,v,h1,h2,h3,h4⟩|⟨_,h2⟩
 .exact⟨j,v,by rw[e,h4],h1,h2,h3⟩
 .obtain⟨v,hv,rfl⟩:=B8.1 h;obtain⟨j,hj⟩:=List.mem_iff_getElem?.1 hv;exact Zq rfl (h2 j v (Bp.1 hj).1 hj)
def AC0{S:List BA}{w:BA}(h:Kv S w=true):w∈S:=by obtain⟨x,hx,he⟩:=OV.1 h;rw[<- toList_inj he];exact hx
def GO.sc(n:GO):Sb:=rsc n.all
end
section
section
variable{n:GO} (hd:gY n.vars)
include hd
end
section
variable{n:GO} {P R:LLI} (hd:gY n.vars)
include hd
end
end
section
open Go.Proofs
end
section
open Go.Proofs
end
section
open Go.Proofs
end
section
open Go.Proofs
mutual
def pt {N:List GO} {S:List ByteArray} {nd:Int}:∀(e:Gw),OM N S nd e->∀m,m∈Li e->m∈S
 | .mk form sub name tk tl i j GP a,h,m,hm=>by
  obtain⟨h1,_,_,h2⟩:=h.K5;simp only[Li]at hm;split at hm
  .simp at hm
  .rcases Bf.1 hm with hm|hm
   .split at hm
    .rename_i hc;simp at hm;subst hm;exact AC0 (h1 hc)
    .simp at hm
   .split at hm
    .exact AIR GP h2 m hm
    .exact yo GP h2 m hm
def yo {N:List GO} {S:List ByteArray} {nd:Int}:∀(l:List Gw),(∀k,k∈l->OM N S nd k)->∀m,m∈Qt l->m∈S
 |[],_,m,hm=>by simp[Qt]at hm
 |k::r,h,m,hm=>by
  simp only[Qt]at hm;rcases Bf.1 hm with hm|hm
  .exact pt k (h k AD) m hm
  .exact yo r (λx hx=>h x (by simp[hx])) m hm
def AIR {N:List GO} {S:List ByteArray} {nd:Int}:∀(l:List Gw),(∀k,k∈l->OM N S nd k)->∀m,m∈rdH l->m∈S
 |[],_,m,hm=>by simp[rdH]at hm
 |k::r,h,m,hm=>by
  simp only[rdH]at hm;exact pt k (h k AD) m hm
end
end
section
open Go.Proofs
end
end Go.Vi
