/- Part of the proof of CauseChecks (own work, made small). -/
import Derived.Test.YtlonlfiaclacdaaGreatD1
import Derived.Test.YtlonlfiaclacdaaGreatE1
import Derived.Test.YtlonlfiaclacdaaGreatF1
set_option linter.all false
set_option maxRecDepth 100000
open Bool renaming and_eq_true->Bo
open Go renaming FuncId->B9,TypeId->Bz
open Go.ByteArray renaming toList_eq->C8
open Go.Proofs.Tryz renaming prog->BZ
open Go.Vi.Edge renaming GG->A9
open Go.Vi.Ge renaming GG->Am
open Go.Vi.I1 renaming is->BH,s->BW
open Go.Vi.Item renaming GX->BK
open Go.Vi.JJ renaming run->A2
open Go.Vi.Obj renaming box->BI
open Go.Vi.PV renaming int->BD
open Go.Vi.St renaming H3->Az,G0->Av,Gg->Ar,HJ->A4
open List renaming all_cons->Co,all_eq_true->CY,append_assoc->B3,append_nil->CG,drop_eq_getElem_cons->Bt,drop_of_length_le->CB,drop_zero->CA,getD_eq_getElem?_getD->CK,getElem?_eq_getElem->Bc,getElem?_eq_none->Ck,getElem?_eq_some_iff->Bp,getElem?_map->CV,getElem_mem->Bl,length_append->Bd,length_cons->CE,length_map->Bb,map_append->Bu,map_cons->DE,map_nil->Dt,map_set->E7,mem_append->Bf,mem_cons->Bm,mem_cons_of_mem->Bq,mem_cons_self->Bw,mem_filterMap->CD,mem_map->B8,mem_of_getElem?->Bn,mem_or_eq_of_mem_set->Ej,nil_append->CC,nodup_append->CM,nodup_cons->CP,not_mem_nil->Cn,replicate->DA,set_cons_succ->Cb,set_cons_zero->Ca,take_length->DG
open List.cons renaming injEq->FE
open Nat renaming add_assoc->DY,add_le_add_left->Ee,add_mul->Ce,beq->Br,beq_refl->EJ,le_refl->Bg,le_trans->CN,lt_of_lt_of_le->Cv,lt_of_not_le->ER,testBit->EX
open Option renaming mem_toList->DW
open Option.some renaming injEq->Bh
open Prod renaming fst->CO,snd->Bx
namespace Go.Vi
abbrev PVI(n:Int):PV:=.int .i64 n
section
section
variable{P:Program} {s s':St} {v x y:PV} {b o n m off size bytes:Nat} {cs Oc GG l z:LP} {GK xs:LLP} {i j:Int} {kk:IntKind}
def vn(h0:0<=i)(hf:Go.Ab.Im i.toNat bytes=true)(h:s.next=n):H8 (IY size bytes z (.int kk i) (.int kk i)) s (.ME n i.toNat) (s.new (.K7 size (DA i.toNat z).flatten)) [] []:=by subst h;refine⟨.K7 size (DA i.toNat z).flatten λb=> .ME b i.toNat,?_,rfl,rfl,rfl⟩;simp only[IY,Lv,Ps h0,hf,EJ,Bool.and_self,cond_true]
def ASF(h0:0<=i)(h:i.toNat<n):H8 (Ip size (.ME b n) (.int kk i)) s (.GN b (i.toNat*size)) s [] []:=⟨.val _,by simp only[Ip,Lv,Ps h0,Ps h],rfl,rfl,rfl⟩
def Jt(h0:0<=i)(h:i.toNat<n):H8 (Ip 1 (.ME b n) (.int kk i)) s (.GN b i.toNat) s [] []:=by have:=ASF (kk:=kk) (size:=1) (b:=b) (s:=s) h0 h;rwa [Nat.mul_one]at this
def KJ{e:Nat}(h:s.heap b=some (.K7 e cs))(h2:cs[o]?=some v):H8 (GJ (.GN b o)) s v s [b] []:=⟨_,rfl,by simp only[A2,h,h2],rfl,rfl⟩
def T3{e:Nat}(h:s.heap b=some (.K7 e cs))(hx:x.IT=true)(ho:o<cs.length):H8 (Gc 1 x (.GN b o)) s .undef (s.set b (.K7 e (cs.set o x))) [] [b]:=by
 have hc:x.cells=[x]:=by cases x<;>first|rfl|cases hx
 refine⟨.store b λcs=>MU cs o x.cells,?_,?_,rfl,rfl⟩
 .exact Afy
 .simp only[A2,h,hc];rw[y5 ho]
def Pb:H8 (Gq (.ME b n)) s (I n) s [] []:=⟨.val _,rfl,rfl,rfl,rfl⟩
def ANb:H8 (Gq .nil) s (I 0) s [] []:=⟨.val _,rfl,rfl,rfl,rfl⟩
def yZ(h0:0<=i)(h:i.toNat<=n):H8 (Hq size false true (.ME b n) [.int kk i]) s (.ME b i.toNat) s [] []:=⟨.val _,by simp only[Hq,Qy,Lv,Ps h0,AEw,true_and,Option.getD_some,Ps h],rfl,rfl,rfl⟩
def vm(hx:x.GK=some xs)(ha:xs.all (λr=>Br r.length size)=true)(hf:Go.Ab.Im (n+xs.length) bytes=true)(hb:s.heap b=some (.K7 size cs))(hc:n*size<=cs.length)(h:s.next=m):
  H8 (II size bytes (.ME b n) x) s (.ME m (n+xs.length)) ((s.set b .KV).new (.K7 size (cs.take (n*size)++xs.flatten))) [] [b]:=by
 subst h;refine⟨.JD b size (λcs=>if n*size<=cs.length then some (cs.take (n*size)++xs.flatten)else none) λb'=> .ME b' (n+xs.length),?_,?_,rfl,rfl⟩
 .simp only[II,hx,ha,hf,cond_true]
 .simp only[A2,hb,EJ,cond_true,Ps hc]
def pf(hx:x.GK=some (GG::xs))(ha:(GG::xs).all (λr=>Br r.length size)=true)(hf:Go.Ab.Im (GG::xs).length bytes=true)(h:s.next=m):
  H8 (II size bytes .nil x) s (.ME m (GG::xs).length) (s.new (.K7 size (GG::xs).flatten)) [] []:=by
 subst h;refine⟨.K7 size (GG::xs).flatten λb=> .ME b (GG::xs).length,?_,rfl,rfl,rfl⟩;simp only[II,hx,ha,hf,cond_true]
def vl(h:yv size l=some GK):H8 (Ia size l) s (.GV GK) s [] []:=⟨.val _,by simp only[Ia,h],rfl,rfl,rfl⟩
def yY(h:s.next=n):H8 (some (.map [] λb=> .map b)) s (.map n) (s.new (.map [])) [] []:=by subst h;exact⟨_,rfl,rfl,rfl,rfl⟩
def pg{t:Bz}{k:PV}{mk:I1}{M:ML}{ok:Bool}(hk:ey k=some mk)(ht:dz P t mk=true)(hb:s.heap b=some (.map M))(ha:M.all (λp=>mk.NM p.1)=true)
  (hv:(match IQ mk M with
   |some v=>(bif ok then .tuple [.int .i64 v,.bool true]else .int .i64 v)
   |none=>(bif ok then .tuple [.int .i64 0,.bool false]else .int .i64 0))=v):H8 (HF P t (.map b) k ok) s v s [b] []:=by
 refine⟨_,by simp only[HF,hk,ht,cond_true];rfl,?_,rfl,rfl⟩;simp only[A2,hb,ha,cond_true];subst hv;cases IQ mk M<;>rfl
def yb{t:Bz}{k:PV}{mk:I1}{M:ML}(hk:ey k=some mk)(ht:dz P t mk=true)(hb:s.heap b=some (.map M))(ha:M.all (λp=>mk.NM p.1)=true):
  H8 (HH P t (.map b) k (I i)) s .undef (s.set b (.map (Mv mk i M))) [] [b]:=by
 refine⟨_,by simp only[HH,hk,ht,cond_true];rfl,?_,rfl,rfl⟩;simp only[A2,hb,ha,cond_true]
def AJ8{t:Bz}{k:PV}{mk:I1}{M:ML}(hk:ey k=some mk)(ht:dz P t mk=true)(hb:s.heap b=some (.map M))(ha:M.all (λp=>mk.NM p.1)=true):
  H8 (HN P t (.map b) k) s .undef (s.set b (.map (SD mk M))) [] [b]:=by
 refine⟨_,by simp only[HN,hk,ht,cond_true];rfl,?_,rfl,rfl⟩;simp only[A2,hb,ha,cond_true]
def AEQ:H8 (Jq (.int kk i) (.int kk j)) s (.int kk (if j<i then j else i)) s [] []:=⟨.val _,by simp only[Jq,AHt,if_true],rfl,rfl,rfl⟩
def Zc:H8 (HR (.ME b n)) s (.ME b n) s [] []:=M8
def vk:H8 (HR (.map b)) s (.map b) s [] []:=M8
def AEM{f:B9}:H8 (HR (.fn f l)) s (.fn f l) s [] []:=M8
def ANZ:H8 (HR (.yield n)) s (.yield n) s [] []:=M8
def ANX:H8 (HR .PY) s .PY s [] []:=M8
def pd(hx:x.IT=true)(h:s.next=n):H8 (Ht x) s (.GN n 0) (s.new (.box [x])) [] []:=by
 subst h;have hc:x.cells=[x]:=by cases x<;>first|rfl|cases hx
 refine⟨.box [x] λb=> .GN b 0,?_,rfl,rfl,rfl⟩;show(bif x.cells.all PV.IT then _ else _)=_;rw[hc];simp[hx]
end
section
variable{P:Program} {X:Mode} {E:VJ} {f:FuncId} {vs args:LP} {s s':St} {k:F1} {kl:KL} {v:PV}
def bq{HV G9:LLP}{r:PV}{bs:LN}(h:PC P f args HV r G9)(h1:JA vs 0=some (args,bs))(h2:Lp bs=true)(h3:Gv s bs=some HV)(h4:G9.length=bs.length)
  (hk:k (JF r (Hc s bs G9)).1 (JF r (Hc s bs G9)).2):pC P X f vs s k:=
 (Mb P X).2 (.inl ⟨_,_,bs,⟨args,HV,r,G9,h1,h2,h3,h4,h,rfl⟩,hk⟩)
def pj{HV G9:LLP}{r:PV}{bs:LN}(h:PC P f args HV r G9)(h1:JA vs 0=some (args,bs))(h2:Lp bs=true)(h3:Gv s bs=some HV)(h4:G9.length=bs.length)
  (hk:kl (JF r (Hc s bs G9)).1 (JF r (Hc s bs G9)).2 [] bs):Nm P X f vs s kl:=
 (Mb P X).2 (.inl ⟨_,_,bs,⟨args,HV,r,G9,h1,h2,h3,h4,h,rfl⟩,hk⟩)
def Rc{Q:F1}(h:SW E P f vs s Q)(hk:∀v s',HT s s'->Gm s'->Q v s'->k v s'):pC P (.Hw E) f vs s k:=(Mb P _).2 (.inr ⟨Q,h,hk⟩)
def AWc(h:SC E P f vs s v s')(hk:k v s'):pC P (.jG E) f vs s k:=(Mb P _).2 (.inr ⟨v,s',h.sw ⟨rfl,rfl⟩,hk⟩)
def AEX{s0:St}(fp:LN)(hX:X≠ .old)(hE:∀S m,X.KW.holds m->X.KW.holds (jR S m))(hw:tX vs args)(hr:Jx (λb=>fp.contains b) args=true)(h:SC X.KW P f args (Hn s fp) v s0)(Vg:nh s fp)
  (hk:kl v (Nf s fp s0) [] fp):Nm P X f vs s kl:=by
 refine(Mb P X).2 (.inr ?_);cases X with
 |old=>exact Zq rfl hX
 |jG E=>exact⟨v,_,fp,⟨args,s0,hE,hw,hr,h,Vg,rfl⟩,hk⟩
 |Hw E=>exact⟨v,_,fp,⟨args,s0,hE,hw,hr,h,Vg,rfl⟩,hk⟩
def pk{Q:F1}(h:AFj E P vs s Q)(hk:∀v s',HT s s'->Gm s'->Q v s'->k v s'):Jz P (.Hw E) vs s k:=⟨Q,h,hk⟩
def L5{l:Option (LP)}{l':LP}{Q:F1}(h0:l=some l')(hk:Q (Lg l') s):HA l λl=>Q (Lg l) s:=by subst h0;exact hk
end
def zp{p:Prop}(h:p:=by first|exact zo|exact Pb|exact ANb|exact Zc|exact vk|exact AEM|exact ANZ|exact ANX|exact yY zn|exact pd rfl zn|exact AEQ|exact vl (by dsimp only[yv,TG,PV.cells,PV.data,PV.mT]<;>rfl)|exact KJ zh AN):p:=h
def zw{A B:Prop}(h:B)(k:ZH B->A:=by intro zq;(repeat(first|(apply Fy;· exact zp)|refine ct ?_|refine cf ?_|(apply GR;· exact zp)|refine ACw ?_|refine bH ?_|refine ACx ?_|refine dd ?_|refine jg ?_|(apply LZ;· exact zp)|(apply KS;· exact zp)|refine vC ?_|refine z8 ?_));exact zq.out):A:=k ⟨h⟩
def IV{s:St}{b:Nat}{o:Obj}(h:s.heap b≠none):HT s (s.set b o):=⟨Bg _,λx _ hn=>by
 by_cases c:x=b
 .subst c;exact Zq hn h
 .rw[Ar c];exact hn⟩
def H9{s:St}{o:Obj}:HT s (s.new o):=⟨Nat.le_succ _,λx hx hn=>by rw[Av rfl (Nat.ne_of_lt hx)];exact hn⟩
def Hx{s:St}{b:Nat}{o:Obj}(hf:Gm s)(h:s.heap b≠none):Gm (s.set b o):=λx hx=>by
 have c:x≠b:=by rintro rfl;exact h (hf x hx)
 rw[Ar c];exact hf x hx
def Hh{s:St}{o:Obj}(hf:Gm s):Gm (s.new o):=λx hx=>by
 have hx:s.next+1<=x:=hx;rw[Av rfl AA];exact hf x AA
def Gu{s:St}(hf:Gm s){b:Nat}{o:Obj}(h:s.heap b=some o):b<s.next:=ER λhc=>by rw[hf b hc]at h;cases h
end
attribute [local irreducible] H0 HR Gp Ht Gf Hu GJ GM Gc HK HC JI G6 Hs Hq Ho JZ Jd Ip JN JW G2 Gq Hb pQ I2 Ic Gn Gb Gs HA HZ H8 Int.instDecidableEq Int.decEq instBEqOfDecidableEq IY II Ia Jq HF HH HN pC Nm OJ Jz Jc
section
open Go.Proofs
abbrev Sc:=Nat×Nat×ML
inductive I9 (s:St):PV->List Sc->Prop
 |nil:I9 s .PY []
 |cons (sp mp:Nat) (M:ML) (v:PV) (r:List Sc):s.heap sp=some (.box [.map mp,v])->s.heap mp=some (.map M)->M.all (λp=>(BW default).NM p.1)=true->I9 s v r->I9 s (.GN sp 0) ((sp,mp,M)::r)
def Lb(n:BA):List Sc->Int
 |[]=> -1
 |(_,_,M)::r=>match IQ (.s n) M with
  |some i=>i
  |none=>Lb n r
def KF:List Sc->LN
 |[]=>[]
 |(sp,mp,_)::r=>sp::mp::KF r
def j5{n n':BA}{M:ML}(h:M.all (λp=>(BW n).NM p.1)=true):M.all (λp=>(BW n').NM p.1)=true:=by
 rw[CY]at h⊢;intro p hp;have:=h p hp;cases hk:p.1 with
 |i _=>rw[hk]at this;cases this
 |s _=>rfl
def j9(n:BA):dz BZ 68 (.s n)=true:=by kernel_rfl
def mW{X:Mode}{Q:F1}{s:St}{n:BA}:∀{v:PV} {l:List Sc},I9 s v l->Q (I (Lb n l)) s->∃m,jf X Q m v (.Gh n) s
 |_,_,.nil,hQ=>by
  refine⟨1,?_⟩;unfold jf o9;refine zw ?_;unfold ACs;exact L5 rfl hQ
 |_,_,.cons sp mp M v r h1 h2 h3 h4,hQ=>by
  cases hf:IQ (.s n) M with
  |some i=>
   refine⟨1,?_⟩;unfold jf o9;refine zw ?_;refine Fy Acg ?_;refine zw ?_;refine L5 rfl ?_;simp only[Lb,hf]at hQ;exact hQ
  |none=>
   simp only[Lb,hf]at hQ;obtain⟨m,hm⟩:=mW h4 hQ;refine⟨m+1,?_⟩;unfold jf o9;refine zw ?_;refine Fy Acg ?_;refine zw ?_;cases h4 with
   |nil=>refine zw ?_;exact hm
   |cons _ _ _ _ _ _ _ _ _=>refine zw ?_;exact hm
def ft{E:VJ}{s:St}(hf:Gm s){v:PV}{l:List Sc}(hc:I9 s v l)(n:BA):SC E BZ 79 [v,.Gh n] s (I (Lb n l)) s:=by
 have:g79 (.jG E) (λr s'=>r=I (Lb n l)/\s'=s) v (.Gh n) s:=by
  unfold g79;exact mW hc ⟨rfl,rfl⟩
 obtain⟨r,s',h1,rfl,rfl⟩:=(AL0 _ _ _ this).sc hf (by rintro r s' ⟨_,rfl⟩;exact⟨HT.refl _,hf⟩);exact h1
end
section
open Go.Proofs
def I7(l:LI):LLP:=l.map λi=>[I i]
def Hk(p:OLI):PV:=match p.1 with
 |none=> .nil
 |some c=> .HL c (I7 p.2)
def KQ(s:St)(p:OLI):Prop:=match p.1 with
 |none=>p.2=[]
 |some c=>s.heap c=some (.HE p.2.length 1)
def KQ.Hi{s s':St}{p:OLI}(h:KQ s p)(hk:∀c,p.1=some c->s'.heap c=s.heap c):KQ s' p:=by unfold KQ at*;exact AfZ
def MC{l:LI}:(I7 l).length=l.length:=by simp[I7]
def SJ{l:LI}:(I7 l).all (λr=>Br r.length 1)=true:=by rw[CY];intro r hr;obtain⟨i,_,rfl⟩:=B8.1 hr;rfl
def AEk{a b:LI}:I7 (a++b)=I7 a++I7 b:=by simp[I7]
def LR{p:OLI}:(Hk p).IT=true:=by unfold Hk;split<;>rfl
def NY{s:St}{p:OLI}(h:KQ s p):(Hk p).GK=some (I7 p.2):=by
 unfold KQ at h;unfold Hk;split
 .rename_i he;rw[he]at h;rw[h];rfl
 .rfl
def Jf{n b:Nat}(h:n<=1000000000)(hb:b<=100):Go.Ab.Im n b=true:=by unfold Go.Ab.Im;have:n*b<=1000000000*100:=Nat.mul_le_mul h hb;simp;omega
def UA{s:St}(hf:Gm s){o:ON}{l xs:LI}(ho:KQ s (o,l)){x:PV}(hx:x.GK=some (I7 xs))(hn:l.length+xs.length<=1000000000):
  ∃o' s',H8 (Hb 1 8 (Hk (o,l)) x) s (Hk (some o',l++xs)) s' [] o.toList/\s'.heap o'=some (.HE (l++xs).length 1)/\(∀b,b≠o'->s'.heap b=s.heap b)/\((o=some o'/\s'.next=s.next)\/(o=none/\o'=s.next/\s'.next=s.next+1))/\Gm s'/\HT s s':=by
 cases o with
 |none=>
  have hl:l=[]:=ho;subst hl;refine⟨s.next,s.new (.HE xs.length 1),?_,by rw[St.Kr];simp,λb hb=>Av rfl hb,.inr ⟨rfl,rfl,rfl⟩,Hh hf,H9⟩;have h:=Mw (bytes:=8) (size:=1) (s:=s) hx SJ (by rw[MC];exact Jf AZz AL) rfl;rw[MC]at h;exact h
 |some c=>
  have hc:s.heap c=some (.HE l.length 1):=ho;refine⟨c,s.set c (.HE (l++xs).length 1),?_,A4,λb hb=>Ar hb,.inl ⟨rfl,rfl⟩,Hx hf AZ2,IV AZ2⟩;have h:=Jp (bytes:=8) (size:=1) (s:=s) (b:=c) (GK:=I7 l) (e':=1) hx SJ (by rw[MC,MC];exact Jf hn AL) SJ (by rw[MC];exact hc) (.inr rfl);rw[MC,MC]at h;show H8 (Hb 1 8 (.HL c (I7 l)) x) s (.HL c (I7 (l++xs))) _ _ _;rw[AEk,Bd];exact h
structure Gr where
 gp:Nat
 ba:Option Nat
 IK:List Int
 bo:Option Nat
 os:List (Option Nat×List Int)
def lk(bo:ON)(n:Nat):PV:=match bo with
 |none=> .nil
 |some b=> .ME b n
def SO(s:St)(bo:ON)(os:List (OLI)):Prop:=match bo with
 |none=>os=[]
 |some b=>s.heap b=some (.K7 1 (os.map Hk))
structure GS (s:St) (g:Gr):Prop where
 box:s.heap g.gp=some (.box [Hk (g.ba,g.IK),lk g.bo g.os.length])
 IK:KQ s (g.ba,g.IK)
 on:SO s g.bo g.os
 HE:∀p,p∈g.os->KQ s p
 nd:(g.ba.toList++g.os.filterMap CO).Nodup
def Gr.H2(g:Gr):LN:=g.gp::(g.bo.toList++(g.ba.toList++g.os.filterMap CO))
def SO.Hi{s s':St}{bo:ON}{os:List (OLI)}(h:SO s bo os)(hk:∀c,bo=some c->s'.heap c=s.heap c):SO s' bo os:=by
 unfold SO at*;split
 .exact h
 .rename_i c;exact(hk c rfl).trans h
def GS.Hi{s s':St}{g:Gr}(h:GS s g)(hk:∀b,b∈g.H2->s'.heap b=s.heap b):GS s' g:=
 ⟨(hk _ (by simp[Gr.H2])).trans h.box,h.IK.Hi λc hc=>hk c AZ5,h.on.Hi λc hc=>hk c (by simp[Gr.H2,hc]),
  λp hp=>(h.HE p hp).Hi λc hc=>hk c Ai,h.nd⟩
def JQ{s:St}{a b:Nat}{o o':Obj}(h:s.heap a=some o)(h':s.heap b=some o')(Kk:o≠o'):a≠b:=by rintro rfl;rw[h]at h';cases h';exact Kk rfl
def GS.kind{s:St}{g:Gr}(h:GS s g){b:Nat}(hb:b∈g.H2):(b=g.gp/\s.heap b=some (.box [Hk (g.ba,g.IK),lk g.bo g.os.length]))\/(g.bo=some b/\s.heap b=some (.K7 1 (g.os.map Hk)))\/∃n,s.heap b=some (.HE n 1):=by
 simp only[Gr.H2,Bm,Bf,DW,CD]at hb;rcases hb with rfl|hb|hb|⟨p,hp,hb⟩
 .exact .inl ⟨rfl,h.box⟩
 .exact AgM
 .have:=h.IK;unfold KQ at this;exact Afl
 .exact AgB
def T5{S:Nat->Bool}:∀{l:LP},(∀v,v∈l->Je S v=true)->Jx S l=true
 |[],_=>by unfold Jx;rfl
 |a::l,h=>by unfold Jx;rw[h a AD,T5 λv hv=>h v AW];rfl
def Uc{S:Nat->Bool}{p:OLI}(h:∀c,p.1=some c->S c=true):Je S (Hk p)=true:=by unfold Hk;exact Agc
def sR{S:Nat->Bool}{bo:ON}{n:Nat}(h:∀c,bo=some c->S c=true):Je S (lk bo n)=true:=by
 unfold lk;split
 .unfold Je;rfl
 .rename_i c;unfold Je;exact h c rfl
def GS.fp{s:St}(hf:Gm s){g:Gr}(h:GS s g){fp:LN}(hs:∀b,b∈g.H2->b∈fp){b:Nat}(hb:b∈g.H2):b<s.next/\∃o,s.heap b=some o/\o.Uu=false/\o.Je (λb=>fp.contains b)=true:=by
 have Ox:∀c,c∈g.H2->fp.contains c=true:=λc hc=>by simpa using hs c hc
 rcases h.kind hb with⟨_,hh⟩|⟨_,hh⟩|⟨n,hh⟩
 .refine⟨Gu hf hh,_,hh,rfl,T5 λv hv=>?_⟩;simp only[Bm,Cn,or_false]at hv;rcases hv with rfl|rfl
  .exact Uc λc hc=>Ox c AZ5
  .exact sR λc hc=>Ox c (by simp[Gr.H2,hc])
 .refine⟨Gu hf hh,_,hh,rfl,T5 λv hv=>?_⟩;obtain⟨p,hp,rfl⟩:=B8.1 hv;exact Uc λc hc=>Ox c Ai
 .exact⟨Gu hf hh,_,hh,rfl,rfl⟩
def GS.lt{s:St}(hf:Gm s){g:Gr}(h:GS s g){b:Nat}(hb:b∈g.H2):b<s.next:=(h.fp hf (λ_ h=>h) hb).1
end
section
open Go.Proofs
def AE6{l:LP}{n:Nat}(h:l.length=n):l.take (n*1)=l:=by rw[Nat.mul_one,<- h];exact DG
def ABu{s:St}(hf:Gm s){bo:ON}{os:List (OLI)}(ho:SO s bo os)(hn:os.length<=100000):
  ∃s',H8 (II 1 24 (lk bo os.length) (.GV [[.nil]])) s (.ME s.next (os.length+1)) s' [] bo.toList/\s'.heap s.next=some (.K7 1 ((os++[(none,[])]).map Hk))/\(∀b,b≠s.next->bo≠some b->s'.heap b=s.heap b)/\s'.next=s.next+1/\Gm s'/\HT s s':=by
 cases bo with
 |none=>
  have yB:os=[]:=ho;subst yB;refine⟨s.new (.K7 1 [.nil]),?_,St.Kr,λb hb _=>Av rfl hb,rfl,Hh hf,H9⟩;exact pf (x:=.GV [[.nil]]) (GG:=[.nil]) (xs:=[]) rfl rfl (Jf AD AL) rfl
 |some c=>
  have hc:s.heap c=some (.K7 1 (os.map Hk)):=ho;have G7:=Gu hf hc;refine⟨(s.set c .KV).new (.K7 1 ((os.map Hk).take (os.length*1)++[[PV.nil]].flatten)),?_,?_,λb hb L0=>?_,rfl,Hh (Hx hf AZ2),(IV AZ2).trans H9⟩
  .exact vm (n:=os.length) (x:=.GV [[.nil]]) (xs:=[[.nil]]) rfl rfl (Jf AB AL) hc AD rfl
  .rw[AE6 AD];have:(s.set c .KV).next=s.next:=rfl;rw[<- this,St.Kr];simp[Hk]
  .have:c≠b:=λh=>L0 (by rw[h]);exact(Av (s:=s.set c .KV) (n:=s.next) rfl hb).trans (Ar (Ne.symm this))
def AOl(s:St)(g:Gr)(at_:Int)(s':St)(g':Gr):Prop:=GS s' g'/\g'.gp=g.gp/\g'.IK=g.IK++[at_]/\g'.os=g.os++[(none,[])]/\g'.bo≠none/\(∀b,b∈g'.H2->b∈g.H2\/s.next<=b)/\(∀b,b∉g.H2->b<s.next->s'.heap b=s.heap b)/\HT s s'/\Gm s'
def AKd{E:VJ}{s:St}(hf:Gm s){g:Gr}(hg:GS s g)(hn:g.os.length<=100000)(ha:g.IK.length=g.os.length)(at_:Int):
  ∃s' g',SC E BZ 76 [.GN g.gp 0,I at_] s (I g.os.length) s'/\AOl s g at_ s' g':=by
 obtain⟨c,s1,a1,a2,a3,a4,a5,a6⟩:=UA hf hg.IK (x:=.GV [[I at_]]) (xs:=[at_]) rfl AB
 have To:g.gp≠c:=by
  rcases a4 with⟨h,_⟩|⟨_,h,_⟩
  .have:=hg.IK;unfold KQ at this;simp only[h]at this;exact JQ hg.box this AD
  .have:=Gu hf hg.box;omega
 have Lz:s1.heap g.gp=some (.box [Hk (g.ba,g.IK),lk g.bo g.os.length]):=(a3 _ To).trans hg.box;obtain⟨s2,JY⟩:∃s2,s2=s1.set g.gp (.box [Hk (some c,g.IK++[at_]),lk g.bo g.os.length]):=⟨_,rfl⟩
 have M4:Gm s2:=by rw[JY];exact Hx a5 AS
 have gJ:s2.next=s1.next:=by rw[JY];rfl
 have pL:SO s2 g.bo g.os:=hg.on.Hi λb hb=>by
  have h0:=hg.on;unfold SO at h0;rw[hb]at h0;rw[JY,Ar (JQ h0 hg.box AD)];refine a3 b ?_;rcases a4 with⟨h,_⟩|⟨_,h,_⟩
  .have:=hg.IK;unfold KQ at this;simp only[h]at this;exact JQ h0 this AD
  .have:=Gu hf h0;omega
 obtain⟨s3,b1,b2,b3,b4,b5,b6⟩:=ABu M4 pL hn
 have AMQ:s3.heap g.gp=some (.box [Hk (some c,g.IK++[at_]),lk g.bo g.os.length]):=by
  rw[b3 g.gp (by have:=Gu M4 (b:=g.gp) (by rw[JY];exact A4);omega) (λh=>by
   have h0:=pL;unfold SO at h0;rw[h]at h0;simp only at h0;rw[JY,A4]at h0;cases h0),JY]
  exact A4
 let g':Gr:={gp:=g.gp,ba:=some c,IK:=g.IK++[at_],bo:=some s2.next,os:=g.os++[(none,[])]}
 obtain⟨s4,cO⟩:∃s4,s4=s3.set g.gp (.box [Hk (some c,g.IK++[at_]),.ME s2.next (g.os.length+1)]):=⟨_,rfl⟩
 have hf4:Gm s4:=by rw[cO];exact Hx b5 (by rw[AMQ];simp)
 have xq:HT s s2:=by rw[JY];exact a6.trans (IV AS)
 have hG4:HT s s4:=by rw[cO];exact(xq.trans b6).trans (IV (by rw[AMQ];simp))
 have hc4:s4.heap c=some (.HE (g.IK++[at_]).length 1):=by
  have Tj:s2.heap c=some (.HE (g.IK++[at_]).length 1):=by rw[JY,Ar To.symm];exact a2
  rw[cO,Ar To.symm,b3 c (by have:=Gu M4 Tj;omega) (λh=>by
   have h0:=pL;unfold SO at h0;rw[h]at h0;simp only at h0;rw[Tj]at h0;cases h0)]
  exact Tj
 have mf:∀b,b≠g.gp->b≠c->g.bo≠some b->b<s.next->s4.heap b=s.heap b:=by
  intro b h1 h2 h3 h4;have:s.next<=s1.next:=a6.next;rw[cO,Ar h1,b3 b AA h3,JY,Ar h1,a3 b h2]
 have KT:∀p,p∈g.os->∀d,p.1=some d->d≠g.gp/\d≠c/\g.bo≠some d/\d<s.next:=by
  intro p hp d hd;have h0:=hg.HE p hp;unfold KQ at h0;rw[hd]at h0;simp only at h0;refine⟨JQ h0 hg.box AD,?_,λh=>?_,Gu hf h0⟩
  .rcases a4 with⟨h,_⟩|⟨_,h,_⟩
   .intro Xw;have KO:=hg.nd;rw[h]at KO;simp only[Option.toList,List.singleton_append,CP]at KO;exact KO.1 (CD.2 ⟨p,hp,by rw[hd,Xw]⟩)
   .have:=Gu hf h0;omega
  .have h2:=hg.on;unfold SO at h2;rw[h]at h2;simp only at h2;rw[h2]at h0;cases h0
 have hGS:GS s4 g':=by
  refine⟨?_,hc4,?_,λp hp=>?_,?_⟩
  .rw[cO,A4];simp[g',lk]
  .show s4.heap s2.next=_;rw[cO,Ar (by have:=Gu hf hg.box;have:=a6.next;omega)];exact b2
  .rcases Bf.1 hp with hp|hp
   .exact(hg.HE p hp).Hi λd hd=>by
     obtain⟨h1,h2,h3,h4⟩:=KT p hp d hd;exact mf d h1 h2 h3 h4
   .simp at hp;subst hp;rfl
  .show([c]++(g.os++[(none,[])]).filterMap CO).Nodup;have:(g.os++[((none:ON),([]:LI))]).filterMap CO=g.os.filterMap CO:=AD;rw[this];refine CP.2 ⟨λh=>?_,(CM.1 hg.nd).2.1⟩;obtain⟨p,hp,hd⟩:=CD.1 h;exact(KT p hp c hd).2.1 rfl
 have:g76 (.jG E) (λr s'=>r=I g.os.length/\s'=s4) (.GN g.gp 0) (I at_) s:=by
  unfold g76;refine zw ?_;refine Fy Ab8 ?_;refine zw ?_;refine Fy a1 ?_;refine Fy Kl ?_;refine Fy Hj ?_;refine Fy (KD Lz LR rfl rfl) ?_;rw[show([Hk (g.ba,g.IK),lk g.bo g.os.length].set 0 (Hk (some c,g.IK++[at_])))=[Hk (some c,g.IK++[at_]),lk g.bo g.os.length]from rfl,<- JY];refine zw ?_;refine Fy (GH (by rw[JY];exact A4) rfl) ?_;refine zw ?_;refine Fy b1 ?_;refine Fy Kl ?_;refine Fy Hj ?_;refine Fy (KD AMQ rfl rfl rfl) ?_;rw[show([Hk (some c,g.IK++[at_]),lk g.bo g.os.length].set (0+1) (.ME s2.next (g.os.length+1)))=[Hk (some c,g.IK++[at_]),.ME s2.next (g.os.length+1)]from rfl,<- cO];refine zw ?_;refine Fy (GH (by rw[cO];exact A4) rfl) ?_;refine Fy (H5 (GK:=I7 (g.IK++[at_])) rfl) ?_;refine zw ?_;refine L5 (Q:=λr s'=>r=I g.os.length/\s'=s4) rfl ⟨?_,rfl⟩;show PVI (IntKind.i64.wrap _)=_;rw[MC,HB AbK AbK];simp[ha]
 obtain⟨r,s',h1,rfl,rfl⟩:=(ALx _ _ _ this).sc hf (by rintro r s' ⟨_,rfl⟩;exact⟨hG4,hf4⟩);refine⟨_,g',h1,hGS,rfl,rfl,rfl,by simp[g'],λb hb=>?_,λb hb G7=>?_,hG4,hf4⟩
 .simp only[Gr.H2,g',Bm,Bf,DW,Bh,CD,Cn,or_false]at hb⊢;rcases hb with rfl|rfl|rfl|⟨p,hp,hd⟩
  .exact .inl (.inl rfl)
  .exact .inr (by rw[gJ];exact a6.next)
  .rcases a4 with⟨h,_⟩|⟨_,h,_⟩
   .exact .inl (.inr (.inr (.inl h)))
   .exact AgD
  .rcases hp with hp|rfl
   .exact .inl (.inr (.inr (.inr ⟨p,hp,hd⟩)))
   .cases hd
 .simp only[Gr.H2,Bm,Bf,DW,not_or]at hb;refine mf b hb.1 ?_ hb.2.1 G7;rcases a4 with⟨h,_⟩|⟨_,h,_⟩
  .rintro rfl;exact hb.2.2.1 h
  .omega
end
section
open Go.Proofs
def Gr.HE(g:Gr):LN:=g.os.filterMap CO
def OA(on:LLI)(v:Nat)(xs:LI):LLI:=on.set v (on.getD v []++xs)
structure cP (s:St) (g:Gr) (v:Nat) (xs:List Int) (s':St) (g':Gr):Prop where
 gs:GS s' g'
 gp:g'.gp=g.gp
 ba:g'.ba=g.ba
 IK:g'.IK=g.IK
 bo:g'.bo=g.bo
 on:g'.os.map Bx=OA (g.os.map Bx) v xs
 HE:∀b,b∈g'.HE->b∈g.HE\/s.next<=b
 Hi:∀b,g.bo≠some b->b∉g.HE->b<s.next->s'.heap b=s.heap b
 Iw:HT s s'
 Iv:Gm s'
def GS.RD{s:St}{g:Gr}(h:GS s g){v:Nat}(hv:v<g.os.length):∃b,g.bo=some b/\s.heap b=some (.K7 1 (g.os.map Hk)):=AfA
def QN{os:List (OLI)}{v:Nat}{p:OLI}{b:Nat}(h:b∈(os.set v p).filterMap CO):b∈os.filterMap CO\/p.1=some b:=by
 obtain⟨q,hq,hb⟩:=CD.1 h;rcases Ej hq with h1|rfl
 .exact .inl (CD.2 ⟨q,h1,hb⟩)
 .exact .inr hb
def nD{os:List (OLI)}:∀{v:Nat} {o:ON} {l l':LI} {c:Nat},os[v]?=some (o,l)->(os.filterMap CO).Nodup->(o=some c\/(o=none/\c∉os.filterMap CO))->((os.set v (some c,l')).filterMap CO).Nodup:=by
 induction os with
 |nil=>intro v o l l' c h;simp at h
 |cons q os ih=>
  intro v o l l' c h KO hc;cases v with
  |zero=>
   simp at h;subst h;rw[Ca];rcases hc with rfl|⟨rfl,hc⟩
   .simpa[List.filterMap_cons]using KO
   .simp only[List.filterMap_cons]at KO hc⊢;exact CP.2 ⟨hc,KO⟩
  |succ v=>
   simp at h;rw[Cb];cases hq:q.1 with
   |none=>
    simp only[List.filterMap_cons,hq]at KO hc⊢;exact ih h KO hc
   |some d=>
    simp only[List.filterMap_cons,hq,CP]at KO hc⊢
    refine⟨λhm=>?_,ih h KO.2 (by
     rcases hc with h1|⟨h1,h2⟩
     .exact AgC
     .exact .inr ⟨h1,λhx=>h2 (Bq _ hx)⟩)⟩
    rcases QN hm with h1|h1
    .exact KO.1 h1
    .simp only[Bh]at h1;subst h1;rcases hc with rfl|⟨_,h2⟩
     .exact KO.1 (CD.2 ⟨_,Bn h,rfl⟩)
     .exact h2 Bw
def ik{s:St}(hf:Gm s){g:Gr}(hg:GS s g){v:Nat}{p:OLI}(hv:g.os[v]?=some p){x:PV}{xs:LI}(hx:x.GK=some (I7 xs))(hn:p.2.length+xs.length<=1000000000){b:Nat}(hb:g.bo=some b):
  ∃y s1 s2 g',H8 (Hb 1 8 (Hk p) x) s y s1 [] p.1.toList/\y.IT=true/\H8 (Gc 1 y (.GN b v)) s1 .undef s2 [] [b]/\cP s g v xs s2 g'/\(∀d,s.heap d≠none->p.1≠some d->s1.heap d=s.heap d)/\s.next<=s1.next/\s2.next=s1.next:=by
 obtain⟨o,l⟩:=p;have hvl:=(Bp.1 hv).1;have hpm:(o,l)∈g.os:=Bn hv;obtain⟨c,s1,a1,a2,a3,a4,a5,a6⟩:=UA hf (hg.HE _ hpm) hx hn
 have fO:s.heap b=some (.K7 1 (g.os.map Hk)):=by
  have:=hg.on;unfold SO at this;rw[hb]at this;exact this
 have Wz:∀{p:OLI} {d:Nat},p∈g.os->p.1=some d->s.heap d=some (.HE p.2.length 1):=λ{p d} hp hd=>by
  have:=hg.HE p hp;unfold KQ at this;rw[hd]at this;exact this
 have hbc:b≠c:=by
  exact Afx
 have Lz:s1.heap b=some (.K7 1 (g.os.map Hk)):=(a3 b hbc).trans fO
 have hgc:g.gp≠c:=by
  rcases a4 with⟨h,_⟩|⟨_,h,_⟩
  .exact JQ hg.box (Wz hpm h) AD
  .have:=Gu hf hg.box;omega
 have Tn:g.gp≠b:=JQ hg.box fO AD;have rf:(g.os.map Hk).set v (Hk (some c,l++xs))=(g.os.set v (some c,l++xs)).map Hk:=by rw[E7]
 let g':Gr:={g with os:=g.os.set v (some c,l++xs)}
 have OW:∀d,d≠b->d≠c->(s1.set b (.K7 1 ((g.os.map Hk).set v (Hk (some c,l++xs))))).heap d=s.heap d:=λd h1 h2=>by rw[Ar h1,a3 d h2]
 refine⟨_,s1,s1.set b (.K7 1 ((g.os.map Hk).set v (Hk (some c,l++xs)))),g',a1,LR,T3 Lz LR (by simpa using hvl),⟨⟨?_,?_,?_,λp hp=>?_,?_⟩,rfl,rfl,rfl,rfl,?_,λd hd=>?_,λd h1 h2 h3=>?_,a6.trans (IV AS),Hx a5 AS⟩,λd hd tY=>?_,a6.next,rfl⟩
 .show _=some (BI [Hk (g.ba,g.IK),lk g.bo (g.os.set v (some c,l++xs)).length]);rw[List.length_set,OW _ Tn hgc];exact hg.box
 .refine hg.IK.Hi λd hd=>?_;have hd:g.ba=some d:=hd
  have Un:s.heap d=some (.HE g.IK.length 1):=by
   have:=hg.IK;unfold KQ at this;simp only[hd]at this;exact this
  refine OW d (JQ Un fO AD) ?_;rintro rfl;rcases a4 with⟨h,_⟩|⟨_,h,_⟩
  .have KO:=hg.nd;rw[hd]at KO;simp only[Option.toList,List.singleton_append,CP]at KO;exact KO.1 (CD.2 ⟨_,hpm,h⟩)
  .have:=Gu hf Un;omega
 .show SO _ g.bo (g.os.set v (some c,l++xs));rw[hb];show(s1.set b _).heap b=some (.K7 1 ((g.os.set v (some c,l++xs)).map Hk));rw[A4,rf]
 .obtain⟨i,hi⟩:∃i,(g.os.set v (some c,l++xs))[i]?=some p:=List.mem_iff_getElem?.1 hp;rw[List.getElem?_set]at hi;split at hi
  .exact Age
  .rename_i Kk;have vK:p∈g.os:=Bn hi;refine(hg.HE p vK).Hi λd hd=>?_;have hdo:=Wz vK hd;refine OW d (JQ hdo fO AD) ?_;rintro rfl;rcases a4 with⟨h,_⟩|⟨_,h,_⟩
   .have KO:=(CM.1 hg.nd).2.1;have h1:g.os[v]?=some (o,l):=hv
    have key:∀(os:List (OLI)) (i v:Nat) (p q:OLI),os[i]?=some p->os[v]?=some q->p.1=some d->q.1=some d->(os.filterMap CO).Nodup->i=v:=by
     intro os
     induction os with
     |nil=>intro i v p q h;simp at h
     |cons z os ih=>
      intro i v p q hi hv hp hq KO
      have AMg:(os.filterMap CO).Nodup:=by
       cases hz:z.1 with
       |none=>simpa only[List.filterMap_cons,hz]using KO
       |some e=>simp only[List.filterMap_cons,hz,CP]at KO;exact KO.2
      cases i with
      |zero=>
       cases v with
       |zero=>rfl
       |succ v=>
        exact AfJ
      |succ i=>
       cases v with
       |zero=>
        exact AfK
       |succ v=>simp at hi hv;rw[ih i v p q hi hv hp hq AMg]
    exact Kk (key g.os i v p (o,l) hi h1 hd h KO).symm
   .have:=Gu hf hdo;omega
 .show(g.ba.toList++(g.os.set v (some c,l++xs)).filterMap CO).Nodup;obtain⟨n1,n2,n3⟩:=CM.1 hg.nd;refine CM.2 ⟨n1,nD hv n2 ?_,λa ha d hd=>?_⟩
  .exact Aej
  .rcases QN hd with h1|h1
   .exact n3 a ha d h1
   .simp only[Bh]at h1;subst h1;rintro rfl;rcases a4 with⟨h,_⟩|⟨_,h,_⟩
    .exact n3 a ha a (CD.2 ⟨_,hpm,h⟩) rfl
    .have ha:g.ba=some a:=by simpa using ha
     have Un:s.heap a=some (.HE g.IK.length 1):=by
      have:=hg.IK;unfold KQ at this;simp only[ha]at this;exact this
     have:=Gu hf Un;omega
 .show(g.os.set v (some c,l++xs)).map Bx=_;unfold OA;rw[E7,CK,CV,hv];rfl
 .exact AeS
 .refine OW d AbD ?_;exact Af5
 .exact Afa
end
section
open Go.Proofs
def lR(i:Int):LI:=if 0<=i then[i]else[]
def zM{on:LLI}{v:Nat}:OA on v []=on:=by
 unfold OA;rw[CG];by_cases h:v<on.length
 .rw[CK,Bc h];simp
 .rw[List.set_eq_of_length_le AA]
def cP.refl{s:St}{g:Gr}(hf:Gm s)(hg:GS s g)(v:Nat):cP s g v [] s g:=⟨hg,rfl,rfl,rfl,rfl,zM.symm,λb hb=> .inl hb,λ_ _ _ _=>rfl,HT.refl s,hf⟩
def AQG{i:Int}(h:0<=i):SP BZ .geq 3 (I i) (I 0)=some (.bool true):=by show some (PV.bool (decide (i>=0)))=_;rw[decide_eq_true AA]
def AUK{i:Int}(h:i<0):SP BZ .geq 3 (I i) (I 0)=some (.bool false):=by show some (PV.bool (decide (i>=0)))=_;rw[decide_eq_false AA]
def Nv{i j:Int}(h:i<j):SP BZ .lss 3 (I i) (I j)=some (.bool true):=by show some (PV.bool (decide (i<j)))=_;rw[decide_eq_true h]
def Nt{i j:Int}(h:¬i<j):SP BZ .lss 3 (I i) (I j)=some (.bool false):=by show some (PV.bool (decide (i<j)))=_;rw[decide_eq_false h]
def AMA{X:Mode}{s:St}(hf:Gm s){g:Gr}(hg:GS s g){l:List Sc}{sv:PV}{k:Nat}(hk:k<g.os.length)(n:BA)(hn:∀p,p∈g.os->p.2.length<=900000000)
  (rP:∀kk:F1,kk (I (Lb n l)) s->pC BZ X 79 [sv,.Gh n] s kk):
  ∃s' g',cP s g k (lR (Lb n l)) s' g'/\∀Q:F1,Q (.tuple []) s'->g77 X Q (.GN g.gp 0) (I k) sv (.Gh n) s:=by
 by_cases hi:0<=Lb n l
 .obtain⟨p,hp⟩:∃p,g.os[k]?=some p:=⟨_,Bc hk⟩
  obtain⟨b,hb,fO⟩:=hg.RD hk;obtain⟨y,s1,s2,g',a1,a2,a3,a4,a5,a6,a7⟩:=ik hf hg hp (x:=.GV [[I (Lb n l)]]) (xs:=[Lb n l]) rfl (by have:=hn p (Bn hp);simp;omega) hb;refine⟨s2,g',?_,λQ hQ=>?_⟩
  .rw[show lR (Lb n l)=[Lb n l]from Ps hi];exact a4
  .unfold g77;refine rP _ ?_;refine zw ?_;refine Yz AaX ?_;refine zw ?_;refine GR Ab8 ?_;refine zw ?_;refine GR Ab8 ?_;rw[hb];refine GR (Jt AA Aaa) ?_;refine GR AdC ?_;refine zw ?_;refine GR a1 ?_;refine GR (Jt AA Aaa) ?_;refine GR a3 ?_;refine⟨?_,L5 rfl hQ⟩
   have To:∀d,p.1=some d->d≠g.gp:=λd hd=>by
    have:=hg.HE p (Bn hp);unfold KQ at this;rw[hd]at this;exact JQ this hg.box AD
   have hgpn:g.gp<s.next:=Gu hf hg.box;simp[Hl,IA,Iy,H2];have no:∀{A:Prop} {m j:Nat},EX m j=true->EX m j=false->A:=λh h'=>by rw[h]at h';cases h'
   exact⟨⟨λ_=>⟨λh=>To _ h rfl,λh=>by omega⟩,no AF,no AF⟩,no AF,no AF,by kernel_rfl,no AF⟩
 .refine⟨s,g,?_,λQ hQ=>?_⟩
  .rw[show lR (Lb n l)=[]from Ng hi];exact cP.refl hf hg k
  .unfold g77;refine rP _ ?_;refine zw ?_;refine Yy AaX ?_;refine zw ?_;exact L5 rfl hQ
def xx{E:VJ}{s:St}(hf:Gm s){g:Gr}(hg:GS s g){l:List Sc}{sv:PV}(hc:I9 s sv l){k:Nat}(hk:k<g.os.length)(n:BA)(hn:∀p,p∈g.os->p.2.length<=900000000):
  ∃s' g',SC E BZ 77 [.GN g.gp 0,I k,sv,.Gh n] s (.tuple []) s'/\cP s g k (lR (Lb n l)) s' g':=by
 obtain⟨s',g',h1,h2⟩:=AMA (X:=.jG E) hf hg hk n hn (l:=l) (sv:=sv) λkk h=>AWc (ft hf hc n) h;obtain⟨r,yw,h3,rfl,rfl⟩:=(ALy _ _ _ _ _ (h2 (λr yw=>r=.tuple []/\yw=s') ⟨rfl,rfl⟩)).sc hf AZ6;exact⟨_,g',h3,h1⟩
end
section
open Go.Proofs
section
variable{s s0:St} {fp:LN}
def GS.Nf{g':Gr}(h:GS s0 g')(hf:Gm s0)(hi:∀b,b∈g'.H2->b∈fp\/s.next<=b):GS (Nf s fp s0) g':=
 h.Hi λb hb=>QD (by
  rcases hi b hb with h1|h1
  .exact AgC
  .exact .inr ⟨h1,h.lt hf hb⟩)
def ZX{b:Nat}(h:b∉fp)(hl:b<s.next):(Nf s fp s0).heap b=s.heap b:=L9 h λhc=>by omega
def ZW(hf:Gm s)(h0:Gm s0)(hn:s.next<=s0.next)(Vg:∀b,b∈fp->b<s.next):Gm (Nf s fp s0):=λb hb=>by
 have hb:s0.next<=b:=hb;rw[L9 (λh=>by have:=Vg b h;omega) AA];exact hf b AA
def XG(Vg:∀b,b∈fp->s.heap b≠none)(hn:s.next<=s0.next):HT s (Nf s fp s0):=⟨hn,λb hb hh=>by
 rw[L9 (λh=>Vg b h hh) AA];exact hh⟩
end
def GS.Hn{s:St}{g:Gr}(h:GS s g){fp:LN}(Vg:∀b,b∈g.H2->b∈fp):GS (Hn s fp) g:=h.Hi λb hb=>OZ (Vg b hb)
def I9.Hi{s s':St}{v:PV}{l:List Sc}(h:I9 s v l)(hk:∀b,b∈KF l->s'.heap b=s.heap b):I9 s' v l:=by
 induction h with
 |nil=>exact .nil
 |cons sp mp M v r h1 h2 h3 h4 ih=>
  exact .cons sp mp M v r ((hk sp Aae).trans h1) ((hk mp Aae).trans h2) h3 (ih λb hb=>hk b (by simp[KF,hb]))
def I9.kind{s:St}{v:PV}{l:List Sc}(h:I9 s v l){b:Nat}(hb:b∈KF l):(∃mp v,s.heap b=some (.box [.map mp,v]))\/∃M,s.heap b=some (.map M):=by
 induction h with
 |nil=>simp[KF]at hb
 |cons sp mp M v r h1 h2 h3 h4 ih=>
  simp only[KF,Bm]at hb;rcases hb with rfl|rfl|hb
  .exact .inl ⟨_,_,h1⟩
  .exact .inr ⟨_,h2⟩
  .exact ih hb
def I9.lt{s:St}(hf:Gm s){v:PV}{l:List Sc}(h:I9 s v l){b:Nat}(hb:b∈KF l):b<s.next:=by rcases h.kind hb with⟨_,_,h⟩|⟨_,h⟩<;>exact Gu hf h
def I9.YT{s:St}{v:PV}{l:List Sc}(h:I9 s v l){g:Gr}(hg:GS s g){b:Nat}(hb:b∈KF l):b∉g.H2:=by
 intro hm;rcases hg.kind hm with⟨_,hh⟩|⟨_,hh⟩|⟨n,hh⟩<;>rcases h.kind hb with⟨_,_,h2⟩|⟨_,h2⟩<;>rw[hh]at h2<;>try(cases h2;done)
 simp only[Bh,Obj.box.injEq,FE,and_true]at h2;have:=h2.1;unfold Hk at this;split at this<;>cases this
def Ix{A:Prop}{m j:Nat}(h:EX m j=true):EX m j=false->A:=λh'=>by rw[h]at h';cases h'
def Le(M:ML)(k:Nat):List Ge->ML
 |[]=>M
 |v::r=>Le (Mv (.s v.name) k M) (k+1) r
def sB{n:BA}{i:Int}:∀{M:ML},M.all (λp=>(BW default).NM p.1)=true->(Mv (.s n) i M).all (λp=>(BW default).NM p.1)=true
 |[],_=>rfl
 |(k,v)::r,h=>by
  simp only[Co,Bo]at h;unfold Mv;cases BH (.s n) k with
  |true=>simp only[cond_true,Co,h.2,Bool.and_true];rfl
  |false=>simp only[cond_false,Co,h.1,sB h.2,Bool.and_true]
def wC{s:St}(hf:Gm s){g:Gr}(hg:GS s g)(hn:g.os.length<=100000)(ha:g.IK.length=g.os.length){sp mp:Nat}{M:ML}{r:List Sc}(hc:I9 s (.GN sp 0) ((sp,mp,M)::r))(KO:(KF ((sp,mp,M)::r)).Nodup){l:List Ge}{i:Nat}{v:Ge}(hv:l[i]?=some v)(hl:l.length<=100000):
  ∃s' g',GS s' g'/\g'.gp=g.gp/\g'.IK=g.IK++[v.GY]/\g'.os=g.os++[(none,[])]/\I9 s' (.GN sp 0) ((sp,mp,Mv (.s v.name) g.os.length M)::r)/\HT s s'/\Gm s'/\(∀b,b∈g'.H2->b∈g.H2\/s.next<=b)/\(∀b,b∉g.H2->b≠mp->b<s.next->s'.heap b=s.heap b)/\
   ∀{Q:F1} {W:PV->PV->PV->PV->PV->F1},W (.GN g.gp 0) (.GN sp 0) (.GV (l.map Am)) (.GV (l.map Am)) (I l.length) (I (i+1:Nat)) s'->au (.Hw .Jh) Q W (.GN g.gp 0) (.GN sp 0) (.GV (l.map Am)) (.GV (l.map Am)) (I l.length) (I i) s:=by
 have pF:i<l.length:=(Bp.1 hv).1;cases hc with
 |cons _ _ _ pv _ h1 h2 h3 h4=>
 have hsp:=Gu hf h1;have hmp:=Gu hf h2;have AVy:sp≠mp:=JQ h1 h2 AD;have er:I9 s (.GN sp 0) ((sp,mp,M)::r):=.cons sp mp M pv r h1 h2 h3 h4;obtain⟨s2,JY⟩:∃s2,s2=(s.new (.box [(.Gh ⟨#[]⟩),(I 0),(I 0),.nil,(I 0)])).set s.next (.box v.GG):=⟨_,rfl⟩
 have Jm:∀b,b<s.next->s2.heap b=s.heap b:=λb hb=>by rw[JY,Ar AA,Av rfl AA]
 have gJ:s2.next=s.next+1:=by rw[JY];rfl
 have M4:Gm s2:=by rw[JY];exact Hx (Hh hf) AH
 have L0:s2.heap s.next=some (.box v.GG):=by rw[JY];exact A4
 have Tm:GS s2 g:=hg.Hi λb hb=>Jm b (hg.lt hf hb);have xq:HT s s2:=by rw[JY];exact H9.trans (IV AH)
 obtain⟨s0,g',c1,c2,c3,c4,c5,c6,c7,c8,c9,c10⟩:=AKd (E:=.Jh) (s:=Hn s2 g.H2) M4.Hn (Tm.Hn λ_ h=>h) hn ha v.GY;have Vg:nh s2 g.H2:=λb hb=>Tm.fp M4 (λ_ h=>h) hb;have tc:s2.next<=s0.next:=c9.next;obtain⟨s3,Ra⟩:∃s3,s3=Nf s2 g.H2 s0:=⟨_,rfl⟩
 have hn3:s3.next=s0.next:=by rw[Ra];rfl
 have Tl:Gm s3:=by rw[Ra];exact ZW M4 c10 tc λb hb=>(Vg b hb).1
 have hG3:HT s2 s3:=by rw[Ra];exact XG (λb hb=>by obtain⟨_,o,h,_⟩:=Vg b hb;rw[h];simp) tc
 have tZ:GS s3 g':=by rw[Ra];exact c2.Nf c10 c7
 have gI:∀b,b∉g.H2->b<s2.next->s3.heap b=s2.heap b:=λb h1 h2=>by rw[Ra];exact ZX h1 h2
 have hmi:=er.YT hg (b:=mp) Aae;have hsi:=er.YT hg (b:=sp) Aae;have fS:s3.heap mp=some (.map M):=by rw[gI mp hmi AA,Jm mp hmp];exact h2
 have qT:s.next∉g.H2:=λh=>by have:=hg.lt hf h;omega
 obtain⟨s4,cO⟩:∃s4,s4=s3.set mp (.map (Mv (.s v.name) g.os.length M)):=⟨_,rfl⟩
 have hm4:mp∉g'.H2:=λh=>by
  rcases c7 mp h with h|h
  .exact hmi h
  .have:(Hn s2 g.H2).next=s2.next:=rfl;omega
 have mf:∀b,b∉g.H2->b≠mp->b<s.next->s4.heap b=s.heap b:=λb h1 h2 h3=>by rw[cO,Ar h2,gI b h1 AA,Jm b h3]
 refine⟨s4,g',?_,c3,c4,c5,?_,?_,?_,λb hb=>?_,mf,?_⟩
 .exact tZ.Hi λb hb=>by rw[cO,Ar (by rintro rfl;exact hm4 hb)]
 .refine .cons sp mp _ pv r ((mf sp hsi AVy hsp).trans h1) (by rw[cO];exact A4) (sB h3) (h4.Hi λb hb=>?_);have OK:b∈KF ((sp,mp,M)::r):=by simp[KF,hb]
  refine mf b (er.YT hg OK) ?_ (er.lt hf OK);rintro rfl;simp[KF,hb]at KO
 .rw[cO];exact(xq.trans hG3).trans (IV (by rw[fS];simp))
 .rw[cO];exact Hx Tl (by rw[fS];simp)
 .rcases c7 b hb with h|h
  .exact .inl h
  .have:(Hn s2 g.H2).next=s2.next:=rfl;exact AgD
 .intro Q W hW;unfold au;refine zw ?_;refine Yz (by simpa using pF) ?_;refine Fy Aba ?_;refine zw ?_;rw[<- JY];refine AEX g.H2 AD (λ_ _ _=>trivial) (tX.refl _) (by simp[Jx,Je,Gr.H2]) c1 Vg ?_;rw[<- Ra];refine GR (yb rfl (j9 v.name) fS (j5 h3)) ?_;rw[<- cO];refine⟨?_,?_⟩
  .simp[Hl,IA,Iy,H2];exact⟨⟨λ_=>⟨hsi,λh=>by omega⟩,λ_=>⟨qT,λh=>by omega⟩,Ix AF⟩,Ix AF,Ix AF,Ix AF,Ix AF⟩
  .apply Fy
   .exact Adl
   exact hW
end
section
open Go.Proofs
def I9.fp{s:St}(hf:Gm s){fp:LN}:∀{v:PV} {l:List Sc},I9 s v l->(∀b,b∈KF l->b∈fp)->(Je (λb=>fp.contains b) v=true)/\∀{b},b∈KF l->b<s.next/\∃o,s.heap b=some o/\o.Uu=false/\o.Je (λb=>fp.contains b)=true
 |_,_,.nil,_=>⟨by unfold Je;rfl,λh=>by simp[KF]at h⟩
 |_,_,.cons sp mp M v r h1 h2 h3 h4,hs=>by
  obtain⟨k1,k2⟩:=I9.fp hf h4 λb hb=>hs b (by simp[KF,hb]);refine⟨by unfold Je;simpa using hs sp Aae,λ{b} hb=>?_⟩;simp only[KF,Bm]at hb;rcases hb with rfl|rfl|hb
  .refine⟨Gu hf h1,_,h1,rfl,T5 λx hx=>?_⟩;simp only[Bm,Cn,or_false]at hx;rcases hx with rfl|rfl
   .unfold Je;simpa using hs mp Aae
   .exact k1
  .exact⟨Gu hf h2,_,h2,rfl,rfl⟩
  .exact k2 hb
def I9.Hn{s:St}{v:PV}{l:List Sc}(h:I9 s v l){fp:LN}(Vg:∀b,b∈KF l->b∈fp):I9 (Hn s fp) v l:=h.Hi λb hb=>OZ (Vg b hb)
def Gr.AIK{g:Gr}{b:Nat}(h:b∈g.HE):b∈g.H2:=by simp only[Gr.H2,Bm,Bf];exact AhZ
def cP.H2{s s':St}{g g':Gr}{v:Nat}{xs:LI}(h:cP s g v xs s' g'){b:Nat}(hb:b∈g'.H2):b∈g.H2\/s.next<=b:=Adk
def cP.len{s s':St}{g g':Gr}{v:Nat}{xs:LI}(h:cP s g v xs s' g'):g'.os.length=g.os.length:=by have:=congrArg List.length h.on;simpa[OA]using this
def AAC{X:Mode}(hX:X=.Hw .Jh\/X=.jG .Jh){s:St}(hf:Gm s){g:Gr}(hg:GS s g){l:List Sc}{sv:PV}(hc:I9 s sv l){k:Nat}(hk:k<g.os.length)(n:BA)(hn:∀p,p∈g.os->p.2.length<=900000000):
  ∃s' g',cP s g k (lR (Lb n l)) s' g'/\∀kl:KL,kl (.tuple []) s' [] (g.H2++KF l)->Nm BZ X 77 [.GN g.gp 0,I k,sv,.Gh n] s kl:=by
 have Vg:nh s (g.H2++KF l):=λb hb=>by
  rcases Bf.1 hb with h|h
  .exact hg.fp hf (λb hb=>by simp[hb]) h
  .exact(hc.fp hf (fp:=g.H2++KF l) (λb hb=>by simp[hb])).2 h
 obtain⟨s0,g',c1,c2⟩:=xx (E:=.Jh) (s:=Hn s (g.H2++KF l)) hf.Hn (hg.Hn λb hb=>by simp[hb]) (hc.Hn λb hb=>by simp[hb]) hk n hn;have tc:s.next<=s0.next:=c2.Iw.next;refine⟨Nf s (g.H2++KF l) s0,g',⟨c2.gs.Nf c2.Iv λb hb=>?_,c2.gp,c2.ba,c2.IK,c2.bo,c2.on,c2.HE,λb h1 h2 h3=>?_,XG (λb hb=>by obtain⟨_,o,h,_⟩:=Vg b hb;rw[h];simp) tc,ZW hf c2.Iv tc λb hb=>(Vg b hb).1⟩,λkl fQ=>?_⟩
 .rcases c2.H2 hb with h|h
  .exact .inl Ah
  .exact .inr h
 .by_cases hm:b∈g.H2++KF l
  .rw[QD (.inl hm),c2.Hi b h1 h2 h3,OZ hm]
  .exact ZX hm h3
 .refine AEX _ Aaj AZr (tX.refl _) ?_ AaQ Vg fQ;unfold Jx Jx Jx Jx Jx;rw[(hc.fp hf (fp:=g.H2++KF l) (λb hb=>by simp[hb])).1];simp[Je,Gr.H2]
def toList_inj{a b:BA}(h:a.toList=b.toList):a=b:=by have:=congrArg List.toArray h;cases a;cases b;simp_all [C8]
def gM{n:BA}:BH (.s n) (.s n)=true:=by simp[BH]
def AJ3{n n':BA}(h:n'≠n):BH (.s n') (.s n)=false:=by simp only[BH,beq_eq_false_iff_ne,ne_eq];intro hh;exact h (toList_inj hh)
def yG{n:BA}{k:I1}(h:BH (.s n) k=true):k=.s n:=by
 cases k with
 |i _=>cases h
 |s m=>simp only[BH,beq_iff_eq]at h;rw[toList_inj h]
def NC{n n':BA}{i:Int}:∀{M:ML},IQ (.s n') (Mv (.s n) i M)=if n'=n then some i else IQ (.s n') M
 |[]=>by
  by_cases h:n'=n
  .subst h;simp[Mv,IQ,gM]
  .simp[Mv,IQ,AJ3 h,h]
 |(k,v)::r=>by
  unfold Mv;cases hk:BH (.s n) k with
  |true=>
   have:=yG hk;subst this;by_cases h:n'=n
   .subst h;simp[IQ,gM]
   .simp[IQ,AJ3 h,h]
  |false=>
   simp only[cond_false,IQ];cases Rm:BH (.s n') k with
   |true=>
    have:=yG Rm;subst this;have h:n'≠n:=by rintro rfl;rw[gM]at hk;cases hk
    simp[h]
   |false=>simp only[cond_false];exact NC
def SE{n:BA}:∀{l:List Ge} {M:ML} {k:Nat},(∀v,v∈l->v.name≠n)->IQ (.s n) (Le M k l)=IQ (.s n) M
 |[],_,_,_=>rfl
 |v::r,M,k,h=>by
  rw[Le,SE λv hv=>h v AW,NC,Ng λe=>h v AD e.symm]
def XJ:∀{l:List Ge} {M:ML} {k:Nat} {v:Ge},v∈l->∃j:Nat,k<=j/\j<k+l.length/\IQ (.s v.name) (Le M k l)=some (j:Int)
 |[],_,_,v,h=>by simp at h
 |w::r,M,k,v,h=>by
  by_cases hr:∃u,u∈r/\u.name=v.name
  .obtain⟨u,hu,he⟩:=hr;obtain⟨j,h1,h2,h3⟩:=XJ (M:=Mv (.s w.name) k M) (k:=k+1) hu;exact⟨j,AA,by simp;omega,by rw[Le,<- he];exact h3⟩
  .have hvw:v=w:=by
    rcases Bm.1 h with h|h
    .exact h
    .exact Zq ⟨v,h,rfl⟩ hr
   subst hvw;refine⟨k,Bg _,AD,?_⟩;rw[Le,SE λu hu he=>hr ⟨u,hu,he⟩,NC,Ps rfl]
end
section
open Go.Proofs
structure OF (s:St) (g:Gr) (s':St) (g':Gr):Prop where
 gs:GS s' g'
 gp:g'.gp=g.gp
 ba:g'.ba=g.ba
 IK:g'.IK=g.IK
 bo:g'.bo=g.bo
 len:g'.os.length=g.os.length
 HE:∀b,b∈g'.HE->b∈g.HE\/s.next<=b
 Hi:∀b,g.bo≠some b->b∉g.HE->b<s.next->s'.heap b=s.heap b
 Iw:HT s s'
 Iv:Gm s'
def cP.ZR{s s':St}{g g':Gr}{v:Nat}{xs:LI}(h:cP s g v xs s' g'):OF s g s' g':=⟨h.gs,h.gp,h.ba,h.IK,h.bo,h.len,h.HE,h.Hi,h.Iw,h.Iv⟩
def OF.refl{s:St}{g:Gr}(hf:Gm s)(hg:GS s g):OF s g s g:=⟨hg,rfl,rfl,rfl,rfl,rfl,λ_ h=> .inl h,λ_ _ _ _=>rfl,HT.refl s,hf⟩
def OF.trans{s1 s2 s3:St}{g1 g2 g3:Gr}(h:OF s1 g1 s2 g2)(k:OF s2 g2 s3 g3):OF s1 g1 s3 g3:=
 have hn:=h.Iw.next
 ⟨k.gs,k.gp.trans h.gp,k.ba.trans h.ba,k.IK.trans h.IK,k.bo.trans h.bo,k.len.trans h.len,λb hb=>by
  rcases k.HE b hb with h1|h1
  .exact h.HE b h1
  .exact .inr (CN hn h1),λb h1 h2 h3=>by
   rw[k.Hi b (by rw[h.bo];exact h1) (λhm=>by
    rcases h.HE b hm with h4|h4
    .exact h2 h4
    .omega) (Cv h3 hn)]
   exact h.Hi b h1 h2 h3,h.Iw.trans k.Iw,k.Iv⟩
def OF.at{s s':St}{g g':Gr}(h:OF s g s' g'){b:Nat}(h1:b∉g.H2)(h2:b<s.next):s'.heap b=s.heap b:=h.Hi b (λe=>h1 (by simp[Gr.H2,e])) (λe=>h1 (Gr.AIK e)) h2
def OF.H2{s s':St}{g g':Gr}(h:OF s g s' g'){b:Nat}(hb:b∈g'.H2):b∈g.H2\/s.next<=b:=Adk
def OF.chain{s s':St}{g g':Gr}(h:OF s g s' g')(hf:Gm s)(hg:GS s g){v:PV}{l:List Sc}(hc:I9 s v l):I9 s' v l:=hc.Hi λb hb=>h.at (hc.YT hg hb) (hc.lt hf hb)
def OF.MW{s s1 s':St}{g g':Gr}(h:OF s1 g s' g')(hf:Gm s)(hg:GS s g)(hG:HT s s1)(hk:∀b,b<s.next->s1.heap b=s.heap b):OF s g s' g':=
 ⟨h.gs,h.gp,h.ba,h.IK,h.bo,h.len,λb hb=>by
  rcases h.HE b hb with h1|h1
  .exact AgC
  .exact .inr (CN hG.next h1),λb h1 h2 h3=>(h.Hi b h1 h2 (Cv h3 hG.next)).trans (hk b h3),hG.trans h.Iw,h.Iv⟩
def JG(on:LLI)(T:Nat):Prop:=∀l,l∈on->l.length<=T
def Mq{on:LLI}{v T:Nat}{xs:LI}(h:JG on T):JG (OA on v xs) (T+xs.length):=λl hl=>by
 rcases Ej hl with h1|rfl
 .have:=h l h1;omega
 .rw[Bd];by_cases hv:v<on.length
  .rw[CK,Bc hv];have:=h _ (Bl hv);exact Aea
  .rw[CK,Ck AA];simp
def gH{i:Int}:(lR i).length<=1:=by unfold lR;split<;>simp
def JG.mono{on:LLI}{T T':Nat}(h:JG on T)(hT:T<=T'):JG on T':=λl hl=>CN (h l hl) hT
def JG.os{g:Gr}{T:Nat}(h:JG (g.os.map Bx) T)(hT:T<=900000000):∀p,p∈g.os->p.2.length<=900000000:=λp hp=>CN (h _ (B8.2 ⟨p,hp,rfl⟩)) hT
def wD{s:St}(hf:Gm s){g:Gr}(hg:GS s g){sp mp:Nat}{M:ML}{r:List Sc}(hc:I9 s (.GN sp 0) ((sp,mp,M)::r)){v:Ge}{bv:Nat}(hbv:s.heap bv=some (.box v.GG))(qT:bv∉g.H2){k:Nat}(hm:IQ (.s v.name) M=some (k:Int))(hk:k<g.os.length)
  {i:Nat}{x:Edge}(hx:v.Ga[i]?=some x)(hl:v.Ga.length<=17){T:Nat}(hT:JG (g.os.map Bx) T)(Mk:T<=900000000):
  ∃s' g',OF s g s' g'/\g'.os.map Bx=OA (g.os.map Bx) k (lR (Lb x.name ((sp,mp,M)::r)))/\
   ∀{Q:F1} {w8:PV->PV->PV->PV->F1} {W:PV->PV->PV->PV->PV->PV->PV->PV->F1} {a b c:PV},W (.GN g.gp 0) (.GN sp 0) (.GN bv 0) a b c (.GV (v.Ga.map A9)) (I v.Ga.length) (I (i+1:Nat)) s'->
    fx (.Hw .Jh) Q w8 W (.GN g.gp 0) (.GN sp 0) (.GN bv 0) a b c (.GV (v.Ga.map A9)) (I v.Ga.length) (I i) s:=by
 have pF:i<v.Ga.length:=(Bp.1 hx).1;have er:=hc;cases hc with
 |cons _ _ _ pv _ h1 h2 h3 h4=>
 have hsp:=Gu hf h1;have hmp:=Gu hf h2;have hbl:=Gu hf hbv;obtain⟨s2,JY⟩:∃s2,s2=(s.new (.box [(.Gh ⟨#[]⟩),(.bool false)])).set s.next (.box x.GG):=⟨_,rfl⟩
 have Jm:∀b,b<s.next->s2.heap b=s.heap b:=λb hb=>by rw[JY,Ar AA,Av rfl AA]
 have gJ:s2.next=s.next+1:=by rw[JY];rfl
 have M4:Gm s2:=by rw[JY];exact Hx (Hh hf) AH
 have L0:s2.heap s.next=some (.box x.GG):=by rw[JY];exact A4
 have Tm:GS s2 g:=hg.Hi λb hb=>Jm b (hg.lt hf hb);have xq:HT s s2:=by rw[JY];exact H9.trans (IV AH)
 have Tj:I9 s2 (.GN sp 0) ((sp,mp,M)::r):=er.Hi λb hb=>Jm b (er.lt hf hb);have ARg:s2.heap sp=some (.box [.map mp,pv]):=(Jm sp hsp).trans h1;have vH:s2.heap mp=some (.map M):=(Jm mp hmp).trans h2;have hbv2:s2.heap bv=some (.box v.GG):=(Jm bv hbl).trans hbv;obtain⟨s3,g',c1,c2⟩:=AAC (.inl rfl) M4 Tm Tj hk x.name (hT.os Mk);refine⟨s3,g',c1.ZR.MW hf hg xq Jm,c1.on,λ{Q w8 W a b c} hW=>?_⟩;unfold fx;refine zw ?_;refine Yz (by simpa using pF) ?_;refine Fy (Gk AA (GG:=x.GG) (by simp[hx]) rfl) ?_;refine zw ?_;rw[<- JY];refine GR (pg rfl (j9 v.name) vH (j5 h3) (by rw[hm])) ?_;refine zw ?_;refine c2 _ ?_;refine⟨?_,?_⟩
 .simp[Hl,IA,Iy,H2];exact⟨Ix AF,Ix AF,Ix AF,Ix AF⟩
 .apply Fy
  .exact Adl
  exact hW
def iq(ch:List Sc)(k:Nat)(on:LLI)(l:List Edge):LLI:=l.foldl (λon x=>OA on k (lR (Lb x.name ch))) on
def Yx{ch:List Sc}{k:Nat}:∀{l:List Edge} {on:LLI} {T:Nat},JG on T->JG (iq ch k on l) (T+l.length)
 |[],_,_,h=>h
 |x::l,on,T,h=>by
  have:=Yx (ch:=ch) (k:=k) (l:=l) ((Mq (v:=k) (xs:=lR (Lb x.name ch)) h).mono (Ee gH T));exact Agr
def kS{sp mp:Nat}{M:ML}{r:List Sc}{v:Ge}{bv:Nat}{k:Nat}(hm:IQ (.s v.name) M=some (k:Int))(hl:v.Ga.length<=17):∀(n i:Nat),v.Ga.length-i=n->i<=v.Ga.length->
  ∀{s:St} (hf:Gm s) {g:Gr} (hg:GS s g) (hc:I9 s (.GN sp 0) ((sp,mp,M)::r)) (hbv:s.heap bv=some (.box v.GG)) (qT:bv∉g.H2) (hk:k<g.os.length) {T:Nat} (hT:JG (g.os.map Bx) T) (Mk:T+n<=900000000),
  ∃s' g',OF s g s' g'/\g'.os.map Bx=iq ((sp,mp,M)::r) k (g.os.map Bx) (v.Ga.drop i)/\
   ∀{Q:F1} {w8:PV->PV->PV->PV->F1} {a b c:PV},oz (.Hw .Jh) Q w8 (.GN g.gp 0) (.GN sp 0) a b c s'->
    ∃m,jV (.Hw .Jh) Q w8 m (.GN g.gp 0) (.GN sp 0) (.GN bv 0) a b c (.GV (v.Ga.map A9)) (I v.Ga.length) (I i) s
 |0,i,hi,Ml,s,hf,g,hg,hc,hbv,qT,hk,T,hT,Mk=>by
  refine⟨s,g,.refl hf hg,by rw[CB AA];rfl,λ{Q w8 a b c} h=>⟨1,?_⟩⟩;unfold jV fx;refine zw ?_;refine Yy AB ?_;exact h
 |n+1,i,hi,Ml,s,hf,g,hg,hc,hbv,qT,hk,T,hT,Mk=>by
  have G7:i<v.Ga.length:=AA;obtain⟨s1,g1,c1,c2,c3⟩:=wD hf hg hc hbv qT hm hk (Bc G7) hl hT AA;have hbl:=Gu hf hbv
  obtain⟨s2,g2,d1,d2,d3⟩:=kS hm hl n (i+1) AA G7 c1.Iv c1.gs (c1.chain hf hg hc) ((c1.at qT hbl).trans hbv) (λh=>by
   rcases c1.H2 h with h1|h1
   .exact qT h1
   .omega) (by rw[c1.len];exact hk) (T:=T+1) (by rw[c2];exact(Mq hT).mono (Ee gH T)) AA
  refine⟨s2,g2,c1.trans d1,?_,λ{Q w8 a b c} h=>?_⟩
  .rw[d2,c2,Bt G7];rfl
  .rw[c1.gp]at d3;obtain⟨m,hmm⟩:=d3 h;exact⟨m+1,c3 hmm⟩
end
section
open Go.Proofs
def ZP(M:ML)(n:BA):Nat:=((IQ (.s n) M).getD 0).toNat
def TE(ch:List Sc)(M:ML)(on:LLI)(l:List Ge):LLI:=l.foldl (λon v=>iq ch (ZP M v.name) on v.Ga) on
def Wi{ch:List Sc}{M:ML}:∀{l:List Ge} {on:LLI} {T:Nat},(∀v,v∈l->v.Ga.length<=17)->JG on T->JG (TE ch M on l) (T+17*l.length)
 |[],_,_,_,h=>h
 |v::l,on,T,hv,h=>by
  have:=Wi (ch:=ch) (M:=M) (l:=l) (λu hu=>hv u AbL) (Yx (ch:=ch) (k:=ZP M v.name) (l:=v.Ga) h);have hc:=hv v AD;exact Agr
def nK{sp mp:Nat}{M:ML}{r:List Sc}{l:List Ge}(hl:l.length<=100000)(hv:∀v,v∈l->v.Ga.length<=17):∀(n i:Nat),l.length-i=n->i<=l.length->
  ∀{s:St} (hf:Gm s) {g:Gr} (hg:GS s g) (hc:I9 s (.GN sp 0) ((sp,mp,M)::r)) (hm:∀v,v∈l->∃k:Nat,IQ (.s v.name) M=some (k:Int)/\k<g.os.length) {T:Nat} (hT:JG (g.os.map Bx) T) (Mk:T+17*n<=900000000),
  ∃s' g',OF s g s' g'/\g'.os.map Bx=TE ((sp,mp,M)::r) M (g.os.map Bx) (l.drop i)/\
   ∀{Q:F1},Q (.tuple []) s'->∃m,ei (.Hw .Jh) Q m (.GN g.gp 0) (.GN sp 0) (.GV (l.map Am)) (I l.length) (I i) s
 |0,i,hi,Ml,s,hf,g,hg,hc,hm,T,hT,Mk=>by
  refine⟨s,g,.refl hf hg,by rw[CB AA];rfl,λ{Q} h=>⟨1,?_⟩⟩;unfold ei u6;refine zw ?_;refine Yy AB ?_;exact L5 rfl h
 |n+1,i,hi,Ml,s,hf,g,hg,hc,hm,T,hT,Mk=>by
  have G7:i<l.length:=AA;obtain⟨v,ZO⟩:∃v,v=l[i]:=⟨_,rfl⟩
  have hvi:l[i]?=some v:=by rw[ZO];exact Bc G7
  have hvm:v∈l:=Bn hvi;obtain⟨k,LX,Jm⟩:=hm v hvm;obtain⟨s2,JY⟩:∃s2,s2=(s.new (.box [(.Gh ⟨#[]⟩),(I 0),(I 0),.nil,(I 0)])).set s.next (.box v.GG):=⟨_,rfl⟩
  have hkk:∀b,b<s.next->s2.heap b=s.heap b:=λb hb=>by rw[JY,Ar AA,Av rfl AA]
  have gJ:s2.next=s.next+1:=by rw[JY];rfl
  have M4:Gm s2:=by rw[JY];exact Hx (Hh hf) AH
  have L0:s2.heap s.next=some (.box v.GG):=by rw[JY];exact A4
  have Tm:GS s2 g:=hg.Hi λb hb=>hkk b (hg.lt hf hb);have xq:HT s s2:=by rw[JY];exact H9.trans (IV AH)
  have Tj:I9 s2 (.GN sp 0) ((sp,mp,M)::r):=hc.Hi λb hb=>hkk b (hc.lt hf hb);have Pq:=hv v hvm;obtain⟨s3,g3,c1,c2,c3⟩:=kS LX Pq v.Ga.length 0 AA AA M4 Tm Tj L0 (λh=>by have:=hg.lt hf h;omega) Jm hT AA;have c1':OF s g s3 g3:=c1.MW hf hg xq hkk;obtain⟨s4,g4,d1,d2,d3⟩:=nK hl hv n (i+1) AA G7 c1.Iv c1.gs (c1'.chain hf hg hc) (λu hu=>by rw[c1.len];exact hm u hu) (T:=T+17) (by rw[c2];exact(Yx hT).mono AB) AA;refine⟨s4,g4,c1'.trans d1,?_,λ{Q} h=>?_⟩
  .rw[d2,c2,Bt G7,<- ZO];simp only[TE,List.foldl_cons,CA];rw[show ZP M v.name=k by simp[ZP,LX]]
  .rw[c1.gp]at d3;obtain⟨m,hmm⟩:=d3 h;refine⟨m+1,?_⟩;unfold ei u6;refine zw ?_;refine Yz AaZ ?_;refine Fy Aci ?_;refine zw ?_;rw[<- JY,Bb];refine c3 (Q:=Q) ?_;unfold oz;apply Fy
   .exact Adl
   exact hmm
def nJ{sp mp:Nat}{r:List Sc}{l:List Ge}(hl:l.length<=100000):∀(n i:Nat),l.length-i=n->i<=l.length->
  ∀{s:St} (hf:Gm s) {g:Gr} (hg:GS s g) (hn:g.os.length+n<=100000) (ha:g.IK.length=g.os.length) {M:ML} (hc:I9 s (.GN sp 0) ((sp,mp,M)::r)) (KO:(KF ((sp,mp,M)::r)).Nodup),
  ∃s' g',GS s' g'/\g'.gp=g.gp/\g'.IK=g.IK++(l.drop i).map Ge.GY/\g'.os=g.os++(l.drop i).map (λ_=>(none,[]))/\I9 s' (.GN sp 0) ((sp,mp,Le M g.os.length (l.drop i))::r)/\HT s s'/\Gm s'/\(∀b,b∈g'.H2->b∈g.H2\/s.next<=b)/\(∀b,b∉g.H2->b≠mp->b<s.next->s'.heap b=s.heap b)/\
   ∀{Q:F1},xk (.Hw .Jh) Q (.GN g.gp 0) (.GN sp 0) (.GV (l.map Am)) s'->∃m,ar (.Hw .Jh) Q m (.GN g.gp 0) (.GN sp 0) (.GV (l.map Am)) (.GV (l.map Am)) (I l.length) (I i) s
 |0,i,hi,Ml,s,hf,g,hg,hn,ha,M,hc,KO=>by
  rw[CB AA];refine⟨s,g,hg,rfl,AD,AD,hc,HT.refl s,hf,λb h=> .inl h,λ_ _ _ _=>rfl,λ{Q} h=>⟨1,?_⟩⟩;unfold ar au;refine zw ?_;refine Yy AB ?_;exact h
 |n+1,i,hi,Ml,s,hf,g,hg,hn,ha,M,hc,KO=>by
  have G7:i<l.length:=AA;obtain⟨s1,g1,c1,c2,c3,c4,c5,c6,c7,c8,c9,c10⟩:=wC hf hg AA ha hc KO (Bc G7) hl;have hgl:g1.os.length=g.os.length+1:=by rw[c4];simp
  obtain⟨s2,g2,d1,d2,d3,d4,d5,d6,d7,d8,d9,d10⟩:=nJ hl n (i+1) AA G7 c7 c1 AA (by rw[c3,hgl];simp[ha]) c5 KO;rw[Bt G7];have pJ:=c6.next;refine⟨s2,g2,d1,d2.trans c2,by rw[d3,c3,DE,B3];rfl,by rw[d4,c4,DE,B3];rfl,?_,c6.trans d6,d7,λb hb=>?_,λb h1 h2 h3=>?_,λ{Q} h=>?_⟩
  .rw[Le,<- hgl];exact d5
  .rcases d8 b hb with h|h
   .exact c8 b h
   .exact AgD
  .rw[d9 b (λh=>by
    rcases c8 b h with h|h
    .exact h1 h
    .omega) h2 AA]
   exact c9 b h1 h2 h3
  .rw[c2]at d10;obtain⟨m,hm⟩:=d10 h;exact⟨m+1,c10 hm⟩
structure Put (s:St) (g:Gr) (sp mp:Nat) (M:ML) (r:List Sc) (l:List Ge) (s':St) (g':Gr):Prop where
 gs:GS s' g'
 gp:g'.gp=g.gp
 IK:g'.IK=g.IK++l.map Ge.GY
 on:g'.os.map Bx=TE ((sp,mp,Le M g.os.length l)::r) (Le M g.os.length l) (g.os.map Bx++l.map λ_=>[]) l
 len:g'.os.length=g.os.length+l.length
 chain:I9 s' (.GN sp 0) ((sp,mp,Le M g.os.length l)::r)
 Iw:HT s s'
 Iv:Gm s'
 H2:∀b,b∈g'.H2->b∈g.H2\/s.next<=b
 Hi:∀b,b∉g.H2->b≠mp->b<s.next->s'.heap b=s.heap b
def wE{sp mp:Nat}{r:List Sc}{l:List Ge}(hl:TB.WF l){s:St}(hf:Gm s){g:Gr}(hg:GS s g)(hn:g.os.length+l.length<=100000)(ha:g.IK.length=g.os.length){M:ML}(hc:I9 s (.GN sp 0) ((sp,mp,M)::r))(KO:(KF ((sp,mp,M)::r)).Nodup){T:Nat}(hT:JG (g.os.map Bx) T)(Mk:T+17*l.length<=900000000):
  SW .Jh BZ 44 [.GN g.gp 0,.GN sp 0,.GV (l.map Am)] s λx s'=>x=.tuple []/\∃g',Put s g sp mp M r l s' g':=by
 obtain⟨s1,g1,c1,c2,c3,c4,c5,c6,c7,c8,c9,c10⟩:=nJ hl.len l.length 0 AA AA hf hg hn ha hc KO;rw[CA]at c3 c4 c5;have hgl:g1.os.length=g.os.length+l.length:=by rw[c4];simp
 have hon:g1.os.map Bx=g.os.map Bx++l.map λ_=>[]:=by rw[c4];simp
 obtain⟨s2,g2,d1,d2,d3⟩:=nK hl.len (λv hv=>(hl.all v hv).Ga) l.length 0 AA AA c7 c1 c5 (λv hv=>by
  obtain⟨j,h1,h2,h3⟩:=XJ (M:=M) (k:=g.os.length) hv
  exact⟨j,h3,AA⟩) (T:=T) (by
   rw[hon];intro x hx;rcases Bf.1 hx with h|h
   .exact hT x h
   .obtain⟨_,_,rfl⟩:=B8.1 h;simp) AA
 rw[CA,hon]at d2;have pJ:=c6.next
 have hP:Put s g sp mp M r l s2 g2:=⟨d1.gs,d1.gp.trans c2,d1.IK.trans c3,d2,by rw[d1.len,hgl],d1.chain c7 c1 c5,c6.trans d1.Iw,d1.Iv,λb hb=>by
  rcases d1.H2 hb with h|h
  .exact c8 b h
  .exact .inr AA,λb h1 h2 h3=>by
   rw[d1.at (λh=>by
    rcases c8 b h with h|h
    .exact h1 h
    .omega) AA]
   exact c9 b h1 h2 h3⟩
 refine(ALq (.Hw .Jh) _ _ _ ?_).sw hf;unfold g44;refine Fy Abj ?_;rw[Bb];refine c10 ?_;unfold xk;refine Fy Abj ?_;rw[Bb,<- c2];exact d3 ⟨rfl,g2,hP⟩
end
section
open Go.Proofs
mutual
def Li:Gw->List ByteArray
 | .mk form _ name _ _ _ _ GP _=>if form=6 then[]else(if form=2\/form=9\/form=10 then[name]else[])++(if form=8 then rdH GP else Qt GP)
def Qt:List Gw->List ByteArray
 |[]=>[]
 |k::r=>Li k++Qt r
def rdH:List Gw->List ByteArray
 |[]=>[]
 |k::_=>Li k
end
def MM(l:List BA):LP:=l.map PV.Gh
structure Rnd (E:VJ) (L:Nat) (xs:List PV) (I:List PV->St->Prop):Prop where
 qC:∀{pre s s'},I pre s->Gm s->Gm s'->s.next<=s'.next->(∀b,b<s.next->s'.heap b=s.heap b)->I pre s'
 round:∀pre x post s,xs=pre++x::post->I pre s->Gm s->YW E BZ L [x] s λr s'=>r=.bool true/\I (pre++[x]) s'
def AKa(E:VJ)(L:Nat)(xs:LP)(I:LP->St->Prop)(e:Gw):Prop:=∀pre post s,xs=pre++(MM (Li e)++post)->I pre s->Gm s->SW E BZ 105 [.agg e.GG,.yield L] s λr s'=>r=.bool true/\I (pre++MM (Li e)) s'
section
variable{E:VJ} {L:Nat} {xs:LP} {I:LP->St->Prop}
def ym(hR:Rnd E L xs I){ks:List Gw}(hk:∀k,k∈ks->AKa E L xs I k)(hl:ks.length<=100000){Q:F1}{fin:LP}(hQ:∀s,I fin s->Gm s->Q (.bool true) s):∀(n i:Nat),ks.length-i=n->i<=ks.length->∀(pre post:LP) (s:St),xs=pre++(MM (Qt (ks.drop i))++post)->pre++MM (Qt (ks.drop i))=fin->I pre s->Gm s->
  Xq (.Hw E) Q (n+1) (.yield L) (.GV (ks.map Gw.GG)) (.int .i64 ks.length) (.int .i64 i) s
 |0,i,hi,Ml,pre,post,s,hx,hfin,hI,hf=>by
  rw[CB AA]at hfin;simp only[Qt,MM,Dt,CG]at hfin;subst hfin;unfold Xq jT;refine zw ?_;refine Yy AB ?_;unfold oj;exact L5 rfl (hQ s hI hf)
 |n+1,i,hi,Ml,pre,post,s,hx,hfin,hI,hf=>by
  have G7:i<ks.length:=AA;have hki:ks[i]?=some ks[i]:=Bc G7;rw[Bt G7]at hx hfin;simp only[Qt,MM,Bu]at hx hfin;unfold Xq jT;refine zw ?_;refine Yz AaZ ?_;refine Fy (Gk AA (GG:=ks[i].GG) (by rw[CV];simp[hki]) ks[i].GX) ?_;refine Fy (IB ks[i].GX) ?_;refine zw ?_;refine Fy (IZ zh ks[i].GX (by rw[Gw.IC];rfl) rfl) ?_;refine Fy (Hm zh ks[i].GX) ?_;have M4:Gm ((s.new (.box [(.int .i64 0),(.int .i64 0),(.Gh ⟨#[]⟩),(.int .i64 0),(.int .i64 0),(.int .i64 0),(.int .i64 0),.nil,(.int .i64 0)])).set s.next (.box ks[i].GG)):=Hx (Hh hf) AH;have hI2:I pre ((s.new (.box [(.int .i64 0),(.int .i64 0),(.Gh ⟨#[]⟩),(.int .i64 0),(.int .i64 0),(.int .i64 0),(.int .i64 0),.nil,(.int .i64 0)])).set s.next (.box ks[i].GG)):=hR.qC hI hf M4 (Nat.le_succ _) λb hb=>by rw[Ar AA,Av rfl AA]
  refine Rc (hk ks[i] (Bl G7) pre (MM (Qt (ks.drop (i+1)))++post) _ AaR hI2 M4) λv s' hG jm hq=>?_;obtain⟨rfl,hI'⟩:=hq;refine Fy S8 ?_;refine cf ?_;apply Fy
  .exact Gt (v:=.int .i64 (i+1:Nat)) (by
    show some (BD .i64 (IntKind.i64.wrap _))=_;rw[HB AA AA];simp)
  exact ym hR hk hl hQ n (i+1) AA G7 (pre++MM (Li ks[i])) post s' AaR (by rw[<- hfin];simp[MM]) hI' jm
def po(hR:Rnd E L xs I){ks:List Gw}(hk:∀k,k∈ks->AKa E L xs I k)(hl:ks.length<=100000){Q:F1}{pre post:LP}{s:St}(hx:xs=pre++(MM (Qt ks)++post))(hI:I pre s)(hf:Gm s)(hQ:∀s',I (pre++MM (Qt ks)) s'->Gm s'->Q (.bool true) s'):
  dP (.Hw E) Q (.yield L) (.GV (ks.map Gw.GG)) s:=by
 unfold dP;refine Fy (H5 (GK:=ks.map Gw.GG) rfl) ?_;rw[Bb];exact⟨_,ym hR hk hl hQ ks.length 0 AA AA pre post s (by simpa using hx) AD hI hf⟩
def ASO(hR:Rnd E L xs I){e:Gw}(he:e.WF):AKa E L xs I e:=by
 induction he with
 |mk form sub name tk tl n m GP GY Qz hf0 hs td ht hk ih=>
  intro pre post s hx hI hf;have Gl:(Gw.mk form sub name tk tl n m GP GY).GG=[.int .i64 form,.int .i64 sub,.Gh name,.int .i64 tk,.int .i64 tl,.int .i64 n,.int .i64 m,.GV (GP.map Gw.GG),.int .i64 GY]:=Gw.IC _;rw[Gl];refine(AG3 (.Hw E) _ _ ?_).sw hf;obtain⟨s1,Kq⟩:∃s1,s1=s.new (.box [.int .i64 form,.int .i64 sub,.Gh name,.int .i64 tk,.int .i64 tl,.int .i64 n,.int .i64 m,.GV (GP.map Gw.GG),.int .i64 GY]):=⟨_,rfl⟩
  have MS:Gm s1:=by rw[Kq];exact Hh hf
  have hI1:I pre s1:=by rw[Kq];exact hR.qC hI hf (Hh hf) (Nat.le_succ _) λb hb=>Av rfl AA
  have Lz:s1.heap s.next=some (.box [.int .i64 form,.int .i64 sub,.Gh name,.int .i64 tk,.int .i64 tl,.int .i64 n,.int .i64 m,.GV (GP.map Gw.GG),.int .i64 GY]):=by rw[Kq];exact St.Kr
  have fQ:GP.length<=100000:=Qz.2.2.2.2;have hQ:∀s',I (pre++MM (Li (.mk form sub name tk tl n m GP GY))) s'->Gm s'->(λ(r:PV) (s':St)=>r=.bool true/\I (pre++MM (Li (.mk form sub name tk tl n m GP GY))) s') (.bool true) s':=λs' h _=>⟨rfl,h⟩
  generalize(λ(r:PV) (s':St)=>r=.bool true/\I (pre++MM (Li (.mk form sub name tk tl n m GP GY))) s')=Q at hQ
  have named:form≠6->form≠8->(form=2\/form=9\/form=10)->Sx (.Hw E) Q (.yield L) (.GN s.next 0) (.GV (GP.map Gw.GG)) (.bool true) s1:=λh6 h8 h2=>by
   have hr:Li (.mk form sub name tk tl n m GP GY)=[name]++Qt GP:=by simp[Li,h6,h8,h2]
   rw[hr]at hQ hx;unfold Sx;refine zw ?_;refine pk (.inr ⟨L,[.Gh name],rfl,hR.round pre (.Gh name) (MM (Qt GP)++post) s1 AaR hI1 MS⟩) λv s' hG jm hq=>?_;obtain⟨rfl,hI'⟩:=hq;refine Fy S8 ?_;refine cf ?_;exact po hR ih fQ (pre:=pre++[.Gh name]) (post:=post) AaR hI' jm λyw h AU1=>hQ yw (by simpa[MM]using h) AU1
  have plain:form≠6->form≠8->¬(form=2\/form=9\/form=10)->Sx (.Hw E) Q (.yield L) (.GN s.next 0) (.GV (GP.map Gw.GG)) (.bool false) s1:=λh6 h8 h2=>by
   have hr:Li (.mk form sub name tk tl n m GP GY)=Qt GP:=by simp[Li,h6,h8,h2]
   rw[hr]at hQ hx;unfold Sx;refine cf ?_;exact po hR ih fQ (pre:=pre) (post:=post) hx hI1 MS hQ
  unfold AQE;refine zw ?_;rw[<- Kq];refine GF (λh=>?_) λh=>?_
  .have h:form=6:=by simpa using h
   refine L5 rfl (hQ _ ?_ MS);simp only[Li,h,if_true,MM,Dt,CG];exact hI1
  have h6:form≠6:=by simpa using h
  refine zw ?_;refine GF (λh=>?_) λh=>?_
  .have h8:form=8:=by simpa using h
   have Jm:GP.length=2:=Qz.2.1 (.inr (.inr (.inl h8)))
   obtain⟨a,b,rfl⟩:∃a b,GP=[a,b]:=by
    match GP,Jm with
    |[a,b],_=>exact⟨a,b,rfl⟩
   have hr:Li (.mk form sub name tk tl n m [a,b] GY)=Qt [a]:=by
    subst h8;simp[Li,Qt,rdH]
   rw[hr]at hQ hx;refine Fy (H5 (GK:=[a,b].map Gw.GG) rfl) ?_;refine Fy AEQ ?_;refine Fy (ya (GK:=[a,b].map Gw.GG) (a:=none) (c:=some 1) (r1:=[.int .i64 1]) (r2:=[]) rfl rfl rfl AD AD (by simp[Gw.GX])) ?_;refine Fy AEN ?_;exact po hR (ks:=[a]) (λk hk=>ih k (by simp at hk;simp[hk])) AD hx hI1 MS hQ
  have h8:form≠8:=by simpa using h
  refine zw ?_;refine GF (λh=>?_) λh=>?_
  .rw[h];exact named h6 h8 (.inl AE)
  have h2:form≠2:=by simpa using h
  refine zw ?_;refine GF (λh=>?_) λh=>?_
  .rw[h];exact named h6 h8 (.inr (.inl AE))
  have h9:form≠9:=by simpa using h
  refine zw ?_;by_cases h:form=10
  .rw[show(form==10)=true by simpa using h];exact named h6 h8 (.inr (.inr h))
  .rw[show(form==10)=false by simpa using h];exact plain h6 h8 AA
end
end
section
open Go.Proofs
def nP{E:VJ}{L:Nat}{I:LP->St->Prop}{e:Gw}(he:e.WF)(hR:Rnd E L (MM (Li e)) I){s:St}(hf:Gm s)(hI:I [] s){eb:Nat}(hb:s.heap eb=some (.box e.GG)):
  SW E BZ 104 [.yield L,.GN eb 0] s λ_ s'=>I (MM (Li e)) s':=by
 refine(AG2 (.Hw E) _ _ ?_).sw hf;unfold AQD;refine Fy (Hm hb e.GX) ?_;refine Rc (ASO hR he [] [] s AD hI hf) λv s' hG jm hq=>?_;exact L5 (Q:=λ_ s'=>I (MM (Li e)) s') rfl hq.2
def nO{E:VJ}{e:Gw}{s:St}(hf:Gm s):SW E BZ 78 [.agg e.GG] s λr s'=>r=.fn 104 [.GN s.next 0]/\s'=s.new (.box e.GG):=by refine(ALz (.Hw E) _ ?_).sw hf;unfold g78;refine Fy (Mh (by rw[Gw.IC];rfl) rfl) ?_;refine Fy AEM ?_;exact L5 (Q:=λr s'=>r=.fn 104 [.GN s.next 0]/\s'=s.new (.box e.GG)) rfl ⟨rfl,rfl⟩
def Xv(ch:List Sc)(k:Nat)(on:LLI)(ns:List BA):LLI:=ns.foldl (λon n=>OA on k (lR (Lb n ch))) on
def RZ{ch:List Sc}{k:Nat}:∀{l:List BA} {on:LLI} {T:Nat},JG on T->JG (Xv ch k on l) (T+l.length)
 |[],_,_,h=>h
 |x::l,on,T,h=>by
  have:=RZ (ch:=ch) (k:=k) (l:=l) ((Mq (v:=k) (xs:=lR (Lb x ch)) h).mono (Ee gH T));exact Agr
def RdI(s1:St)(g:Gr)(ch:List Sc)(k:Nat)(pre:LP)(s:St):Prop:=∃ns g',pre=MM ns/\OF s1 g s g'/\g'.os.map Bx=Xv ch k (g.os.map Bx) ns
def RdI.qC{s1 s s':St}{g:Gr}{ch:List Sc}{k:Nat}{pre:LP}(h:RdI s1 g ch k pre s)(hf:Gm s)(jm:Gm s')(hn:s.next<=s'.next)(hk:∀b,b<s.next->s'.heap b=s.heap b):RdI s1 g ch k pre s':=by obtain⟨ns,g',h1,h2,h3⟩:=h;have pJ:=h2.Iw.next;exact⟨ns,g',h1,⟨h2.gs.Hi λb hb=>hk b (h2.gs.lt hf hb),h2.gp,h2.ba,h2.IK,h2.bo,h2.len,h2.HE,λb a1 a2 a3=>(hk b AA).trans (h2.Hi b a1 a2 a3),⟨AA,λb hb hh=>(hk b AA).trans (h2.Iw.none b hb hh)⟩,jm⟩,h3⟩
def ko:∀{a b:List BA},MM a=MM b->a=b
 |[],[],_=>rfl
 |[],_::_,h=>by simp[MM]at h
 |_::_,[],h=>by simp[MM]at h
 |x::a,y::b,h=>by
  simp only[MM,DE,FE,PV.Gh.injEq]at h;rw[h.1,ko (a:=a) (b:=b) h.2]
def AAv{e:Gw}(he:e.WF){s:St}(hf:Gm s){g:Gr}(hg:GS s g){gb sb vb eb:Nat}{sv:PV}{ch:List Sc}{k:Nat}(hk:k<g.os.length)(Tn:s.heap gb=some (.box [.GN g.gp 0]))(Ur:s.heap sb=some (.box [sv]))(bP:s.heap vb=some (.box [.int .i64 k]))(heb:s.heap eb=some (.box e.GG))
  (hgi:gb∉g.H2)(hsi:sb∉g.H2)(hvi:vb∉g.H2)(hc:I9 s sv ch){T:Nat}(hT:JG (g.os.map Bx) T)(Mk:T+(Li e).length<=900000000){K:F0}
  (hK:∀s' g',OF s g s' g'->g'.os.map Bx=Xv ch k (g.os.map Bx) (Li e)->K s'):
  Jc BZ (.Hw .Jh) (.fn 104 [.GN eb 0]) (gD (.Hw .Jh) (.GN gb 0) (.GN sb 0) (.GN vb 0)) K s:=by
 have I0:∀{pre s' yw},RdI s g ch k pre s'->Gm s'->Gm yw->s'.next<=yw.next->(∀b,b<s'.next->yw.heap b=s'.heap b)->RdI s g ch k pre yw:=λh a b c d=>h.qC a b c d;unfold Jc;refine⟨λ_=>trivial,104,[.GN eb 0],RdI s g ch k,λ_ _=>True,MM (Li e),rfl,by kernel_rfl,λpre x post s1 hx hI MS=>?_,λE' L hr=>?_,λs1 hI MS hG=>?_⟩
 .obtain⟨ns,g1,rfl,h2,h3⟩:=hI
  obtain⟨n,rfl⟩:∃n,x=.Gh n:=by
   exact AgF
  have HM:ns.length<(Li e).length:=by
   exact Ag3
  have LX:k<g1.os.length:=by rw[h2.len];exact hk
  obtain⟨s2,g2,c1,c2⟩:=xx (E:=.Jh) MS h2.gs (h2.chain hf hg hc) LX n (JG.os (T:=T+ns.length) (by rw[h3];exact RZ hT) AA);rw[h2.gp]at c1;unfold gD;refine Fy pb ?_;refine Fy (GH ((h2.at hgi (Gu hf Tn)).trans Tn) rfl) ?_;refine Fy (GH ((h2.at hvi (Gu hf bP)).trans bP) rfl) ?_;refine Fy (GH ((h2.at hsi (Gu hf Ur)).trans Ur) rfl) ?_;refine Rc (c1.sw (Q:=λr s'=>s'=s2) rfl) λv s' _ _ hq=>?_;subst hq;exact⟨⟨ns++[n],g2,by simp[MM],h2.trans c2.ZR,by rw[c2.on,h3];simp[Xv]⟩,trivial⟩
 .exact nP (I:=RdI s g ch k) he ⟨I0,λpre x post s1 hx hI MS=>by
   intro m w HP a b c;obtain⟨l,h1,h2,h3⟩:=hr pre x post s1 hx hI MS m w HP a b c;refine⟨l,h1,h2,h3.mono ?_⟩;rintro en w' ⟨m',v,r,s',k1,k2,k3,k4,k5,k6,k7,k8,_⟩;exact⟨m',v,r,s',k1,k2,k3,k4,k5,k6,k7,k8⟩⟩ hf ⟨[],g,rfl,.refl hf hg,rfl⟩ heb
 .obtain⟨ns,g1,h1,h2,h3⟩:=hI;rw[<- ko h1]at h3;exact hK s1 g1 h2 h3
end
section
open Go.Proofs
def lh(ch:List Sc)(Ie:LI)(e:Gw)(on:LLI)(n:BA):LLI:=if Lb n ch<0 then on else OA (Xv ch (Lb n ch).toNat on (Li e)) (Lb n ch).toNat Ie
def nA{ch:List Sc}{Ie:LI}{e:Gw}{on:LLI}{n:BA}{T:Nat}(h:JG on T):JG (lh ch Ie e on n) (T+((Li e).length+Ie.length)):=by
 unfold lh;split
 .exact h.mono AA
 .rw[<- DY];exact Mq (RZ h)
def rz(x:Item):TF 9 x.GG 1=some (.agg x.e.GG):=by rw[Item.IC,Gw.IC];rfl
structure mA (s:St) (g:Gr) (gb sb ib:Nat) (sv:PV) (x:Item):Prop where
 gb:s.heap gb=some (.box [.GN g.gp 0])
 sb:s.heap sb=some (.box [sv])
 ib:s.heap ib=some (.box x.GG)
def P9{s:St}{g:Gr}(hg:GS s g){b:Nat}{cs:LP}(h:s.heap b=some (.box cs))(hl:cs.length≠2):b∉g.H2:=λhm=>by
 rcases hg.kind hm with⟨_,h1⟩|⟨_,h1⟩|⟨n,h1⟩<;>rw[h1]at h<;>cases h;exact hl rfl
def mA.ZR{s s':St}{g g':Gr}{gb sb ib:Nat}{sv:PV}{x:Item}(h:mA s g gb sb ib sv x)(hf:Gm s)(hg:GS s g)(k:OF s g s' g'):mA s' g' gb sb ib sv x:=⟨by rw[k.gp];exact(k.at (P9 hg h.gb AD) (Gu hf h.gb)).trans h.gb,(k.at (P9 hg h.sb AD) (Gu hf h.sb)).trans h.sb,(k.at (P9 hg h.ib (by rw[BK];simp)) (Gu hf h.ib)).trans h.ib⟩
def AEA{s:St}(hf:Gm s){g:Gr}(hg:GS s g){gb sb ib:Nat}{sv:PV}{x:Item}(hx:x.e.WF)(hB:mA s g gb sb ib sv x){ch:List Sc}(hc:I9 s sv ch){mv:PV}{Ie:LI}(lV:mv.GK=some (I7 Ie)){T:Nat}(hT:JG (g.os.map Bx) T)(Mk:T+((Li x.e).length+Ie.length)<=900000000)
  {j:Nat}{n:BA}(hj:x.GL[j]?=some n)(jq:x.GL.length<=100000)(Up:Lb n ch<g.os.length):
  ∀{Q:F1} {w7:PV->PV->PV->PV->PV->PV->F1} {W:PV->PV->PV->PV->PV->PV->PV->PV->PV->PV->F1} {iv a b c:PV},
   (∀s' g',OF s g s' g'->g'.os.map Bx=lh ch Ie x.e (g.os.map Bx) n->W mv iv (.GN gb 0) (.GN sb 0) (.GN ib 0) a b c (.GV (x.GL.map GC)) (I x.GL.length) (I (j+1:Nat)) s')->
    gC (.Hw .Jh) Q w7 W mv iv (.GN gb 0) (.GN sb 0) (.GN ib 0) a b c (.GV (x.GL.map GC)) (I x.GL.length) (I j) s:=by
 intro Q w7 W iv a b c hW;have hjn:j<x.GL.length:=(Bp.1 hj).1
 have AQZ:SP BZ .add 3 (I j) (I 1)=some (I (j+1:Nat)):=by
  show some (PVI (IntKind.i64.wrap _))=_;rw[HB AA AA];simp
 unfold gC;refine Fy AbW ?_;refine ct ?_;refine Fy Acm ?_;refine Fy (Hg rfl) ?_;refine Fy pb ?_;refine Fy (GH hB.sb rfl) ?_;refine Rc ((ft (E:=.Jh) hf hc n).sw (Q:=λr s'=>r=I (Lb n ch)/\s'=s) ⟨rfl,rfl⟩) λv s' _ _ hq=>?_;obtain⟨rfl,YM⟩:=hq;rw[YM];obtain⟨s1,Kq⟩:∃s1,s1=(s.new (.box [I 0])).set s.next (.box [I (Lb n ch)]):=⟨_,rfl⟩
 refine Fy (Lw rfl) ?_;refine Fy (KD (cs:=[I 0]) (Az rfl) rfl rfl rfl) ?_;rw[show([PVI 0].set 0 (I (Lb n ch)))=[I (Lb n ch)]from rfl,<- Kq];have LX:∀b,b<s.next->s1.heap b=s.heap b:=λb hb=>by rw[Kq,Ar AA,Av rfl AA]
 have fT:s1.next=s.next+1:=by rw[Kq];rfl
 have MS:Gm s1:=by rw[Kq];exact Hx (Hh hf) AH
 have hG1:HT s s1:=by rw[Kq];exact H9.trans (IV AH)
 have Rl:GS s1 g:=hg.Hi λb hb=>LX b (hg.lt hf hb);have hv1:s1.heap s.next=some (.box [I (Lb n ch)]):=by rw[Kq];exact A4
 have hK1:OF s g s1 g:=(OF.refl MS Rl).MW hf hg hG1 LX;refine Fy (GH hv1 rfl) ?_;by_cases AHT:Lb n ch<0
 .refine Fy (Gt (Nv AHT)) ?_;refine ct ?_;unfold jW;refine Fy (Gt AQZ) ?_;exact hW s1 g hK1 (by unfold lh;rw[Ps AHT])
 refine Fy (Gt (Nt AHT)) ?_;refine cf ?_;obtain⟨k,hk⟩:∃k:Nat,Lb n ch=k:=⟨(Lb n ch).toNat,AA⟩
 have fQ:k<g.os.length:=AA;rw[hk]at hv1;have hB1:=hB.ZR hf hg hK1;refine Fy Hj ?_;refine Fy (M7 hB1.ib (rz x)) ?_;refine Rc (nO MS) λv s2 _ _ hq=>?_;obtain⟨rfl,JY⟩:=hq;have Jm:∀b,b<s1.next->s2.heap b=s1.heap b:=λb hb=>by rw[JY,Av rfl AA]
 have M4:Gm s2:=by rw[JY];exact Hh MS
 have Tm:GS s2 g:=Rl.Hi λb hb=>Jm b (Rl.lt MS hb);have hK2:OF s1 g s2 g:=(OF.refl M4 Tm).MW MS Rl (by rw[JY];exact H9) Jm;have hB2:=hB1.ZR MS Rl hK2;have AQT:=hK1.trans hK2;have Tj:=AQT.chain hf hg hc;have hv2:s2.heap s.next=some (.box [I k]):=(Jm s.next AA).trans hv1;refine AAv hx M4 Tm fQ hB2.gb hB2.sb hv2 (by rw[JY];exact St.Kr) (P9 Tm hB2.gb AD) (P9 Tm hB2.sb AD) (P9 Tm hv2 AD) Tj hT AA λs3 g3 hK3 ARO=>?_;have Tl:=hK3.Iv;have tZ:=hK3.gs;have hB3:=hB2.ZR M4 Tm hK3;have hv3:s3.heap s.next=some (.box [I k]):=(hK3.at (P9 Tm hv2 AD) (Gu M4 hv2)).trans hv2;have gI:k<g3.os.length:=by rw[hK3.len];exact fQ
 obtain⟨p,hp⟩:∃p,g3.os[k]?=some p:=⟨_,Bc gI⟩
 obtain⟨ob,mn,lX⟩:=tZ.RD gI
 have fW:p.2.length<=T+(Li x.e).length:=by
  have:JG (g3.os.map Bx) (T+(Li x.e).length):=by rw[ARO];exact RZ hT
  exact this _ (B8.2 ⟨p,Bn hp,rfl⟩)
 obtain⟨y,s4,s5,g5,a1,a2,a3,a4,a5,a6,a7⟩:=ik Tl tZ hp (x:=mv) lV AA mn;refine GR (GH hB3.gb rfl) ?_;refine GR Kl ?_;refine GR Hj ?_;refine GR (GH tZ.box rfl) ?_;rw[mn];refine GR (GH hv3 rfl) ?_;refine GR (GH hB3.gb rfl) ?_;refine GR Kl ?_;refine GR Hj ?_;refine GR (GH tZ.box rfl) ?_;rw[mn];refine GR (GH hv3 rfl) ?_;refine GR (Jt AA (by simpa using gI)) ?_;refine GR AcY ?_;refine GR a1 ?_;refine GR (Jt AA (by simpa using gI)) ?_;refine GR a3 ?_;refine⟨?_,?_⟩
 .have To:∀d,p.1=some d->d≠g3.gp/\d≠gb/\d≠s.next:=λd hd=>by
   have:=tZ.HE p (Bn hp);unfold KQ at this;rw[hd]at this;exact⟨JQ this tZ.box AD,JQ this hB3.gb AD,JQ this hv3 AD⟩
  have YK:=Gu Tl tZ.box;have cM:=Gu Tl hB3.gb;have mg:=Gu Tl hv3;simp[Hl,IA,Iy,H2]
  exact⟨⟨⟨λh=>(To _ h).2.1 rfl,λh=>by omega⟩,λ_=>⟨λh=>(To _ h).1 rfl,λh=>by omega⟩,λ_=>⟨λh=>(To _ h).2.2 rfl,λh=>by omega⟩,Ix AF,Ix AF,Ix AF,Ix AF⟩,
   Ix AF,Ix AF,Ix AF,Ix AF,Ix AF,by kernel_rfl,Ix AF⟩
 .unfold jW;refine Fy (Gt AQZ) ?_;refine hW s5 g5 ((AQT.trans hK3).trans a4.ZR) ?_;rw[a4.on,ARO];unfold lh;rw[Ng AHT,hk];rfl
end
section
open Go.Proofs
def eg{ch:List Sc}{Ie:LI}{e:Gw}:∀{l:List BA} {on:LLI} {T:Nat},JG on T->JG (l.foldl (lh ch Ie e) on) (T+l.length*((Li e).length+Ie.length))
 |[],_,_,h=>h.mono AA
 |n::l,on,T,h=>by
  have:=eg (ch:=ch) (Ie:=Ie) (e:=e) (l:=l) (nA (ch:=ch) (Ie:=Ie) (e:=e) (n:=n) h);exact this.mono Aa7
def yU{gb sb ib:Nat}{sv:PV}{x:Item}(hx:x.e.WF){ch:List Sc}{mv:PV}{Ie:LI}(lV:mv.GK=some (I7 Ie))(jq:x.GL.length<=100000){Q:F1}{w7:PV->PV->PV->PV->PV->PV->F1}{iv a b c:PV}:∀(n j:Nat),x.GL.length-j=n->j<=x.GL.length->
  ∀{s:St} (hf:Gm s) {g:Gr} (hg:GS s g) (hB:mA s g gb sb ib sv x) (hc:I9 s sv ch) {T:Nat} (hT:JG (g.os.map Bx) T) (Mk:T+n*((Li x.e).length+Ie.length)<=900000000) (Up:∀n,Lb n ch<g.os.length)
   (hW:∀s' g',OF s g s' g'->g'.os.map Bx=(x.GL.drop j).foldl (lh ch Ie x.e) (g.os.map Bx)->dW (.Hw .Jh) Q w7 mv iv (.GN gb 0) (.GN sb 0) a b c s'),
  ZE (.Hw .Jh) Q w7 (n+1) mv iv (.GN gb 0) (.GN sb 0) (.GN ib 0) a b c (.GV (x.GL.map GC)) (I x.GL.length) (I j) s
 |0,j,hj,hj2,s,hf,g,hg,hB,hc,T,hT,Mk,Up,hW=>by
  rw[CB AA]at hW;unfold ZE gC;exact Ae2
 |n+1,j,hj,hj2,s,hf,g,hg,hB,hc,T,hT,Mk,Up,hW=>by
  have G7:j<x.GL.length:=AA;rw[Bt G7]at hW;have hT3:T+((Li x.e).length+Ie.length)+n*((Li x.e).length+Ie.length)<=900000000:=by rw[Ce]at Mk;omega
  unfold ZE;refine AEA hf hg hx hB hc lV hT AA (Bc G7) jq (Up _) λs1 g1 h1 h2=>?_;exact yU hx lV jq n (j+1) AA G7 h1.Iv h1.gs (hB.ZR hf hg h1) (h1.chain hf hg hc) (T:=T+((Li x.e).length+Ie.length)) (by rw[h2];exact nA hT) hT3 (λn=>by rw[h1.len];exact Up n) λs2 g2 k1 k2=>hW s2 g2 (h1.trans k1) (by rw[k2,h2];rfl)
def AWK(ch:List Sc)(Ie:LI)(on:LLI)(l:List Item):LLI:=l.foldl (λon x=>x.GL.foldl (lh ch Ie x.e) on) on
end
section
open Go.Proofs
def m8{n:BA}:∀{M:ML},IQ (.s n) M=none->SD (.s n) M=M
 |[],_=>rfl
 |(k,v)::r,h=>by
  unfold IQ at h;unfold SD;cases hk:BH (.s n) k with
  |true=>rw[hk]at h;cases h
  |false=>rw[hk]at h;simp only[cond_false]at h⊢;rw[m8 h]
def rq{nb gb sp mp:Nat}{M:ML}{l:List Ge}(hl:l.length<=100000)(hm:∀v,v∈l->IQ (.s v.name) M=none){Q:F1}:∀(n i:Nat),l.length-i=n->i<=l.length->
  ∀{s:St} (hf:Gm s) {pv:PV} (hsp:s.heap sp=some (.box [.map mp,pv])) (hmp:s.heap mp=some (.map M)) (ha:M.all (λp=>(BW default).NM p.1)=true)
   (hW:∀s',(∀b,b<s.next->s'.heap b=s.heap b)->HT s s'->Gm s'->ov (.Hw .Jh) Q (.GN nb 0) (.GN gb 0) (.GN sp 0) s'),
  dU (.Hw .Jh) Q (n+1) (.GN nb 0) (.GN gb 0) (.GN sp 0) (.GV (l.map Am)) (I l.length) (I i) s
 |0,i,hi,Ml,s,hf,pv,hsp,hmp,ha,hW=>by
  unfold dU ox;refine Fy AbX ?_;refine cf ?_;exact hW s (λ_ _=>rfl) (HT.refl s) hf
 |n+1,i,hi,Ml,s,hf,pv,hsp,hmp,ha,hW=>by
  have G7:i<l.length:=AA;obtain⟨v,ZO⟩:∃v,v=l[i]:=⟨_,rfl⟩
  have hvi:l[i]?=some v:=by rw[ZO];exact Bc G7
  have hvm:v∈l:=Bn hvi;have AVx:=Gu hf hsp;have AVU:=Gu hf hmp;obtain⟨s2,JY⟩:∃s2,s2=(s.new (.box [(.Gh ⟨#[]⟩),(I 0),(I 0),.nil,(I 0)])).set s.next (.box v.GG):=⟨_,rfl⟩
  have Jm:∀b,b<s.next->s2.heap b=s.heap b:=λb hb=>by rw[JY,Ar AA,Av rfl AA]
  have gJ:s2.next=s.next+1:=by rw[JY];rfl
  have M4:Gm s2:=by rw[JY];exact Hx (Hh hf) AH
  have L0:s2.heap s.next=some (.box v.GG):=by rw[JY];exact A4
  have xq:HT s s2:=by rw[JY];exact H9.trans (IV AH)
  have ARg:=(Jm sp AVx).trans hsp;have vH:=(Jm mp AVU).trans hmp
  have bO:∀b,(s2.set mp (.map M)).heap b=s2.heap b:=λb=>by
   by_cases h:b=mp
   .subst h;rw[A4,vH]
   .rw[Ar h]
  unfold dU ox;refine Fy AbW ?_;refine ct ?_;refine Fy Aci ?_;refine zw ?_;rw[<- JY];refine GR (AJ8 rfl (j9 v.name) vH (j5 ha)) ?_;rw[m8 (hm v hvm)];refine⟨?_,?_⟩
  .have Kk:sp≠mp:=JQ hsp hmp AD;simp[Hl,IA,Iy,H2];exact⟨Ix AF,Ix AF⟩
  apply Fy
  .exact Adl
  have hGs:HT s2 (s2.set mp (.map M)):=IV (by rw[vH];simp);exact rq hl hm n (i+1) AA G7 (Hx M4 (by rw[vH];simp)) ((bO sp).trans ARg) ((bO mp).trans vH) ha λs' h1 h2 h3=>hW s' (λb hb=>(h1 b (by show b<s2.next;omega)).trans ((bO b).trans (Jm b hb))) ((xq.trans hGs).trans h2) h3
end
section
open Go.Proofs
def kT:∀{a b:List Ge} {M:ML} {k:Nat},Le M k (a++b)=Le (Le M k a) (k+a.length) b
 |[],b,M,k=>rfl
 |v::a,b,M,k=>by
  simp only[List.cons_append,Le,CE];rw[kT];congr 1;omega
def br:∀{l:List Ge} {M:ML} {k:Nat} {n:BA} {i:Int},IQ (.s n) (Le M k l)=some i->IQ (.s n) M=some i\/((k:Int)<=i/\i<k+l.length)
 |[],M,k,n,i,h=> .inl h
 |v::l,M,k,n,i,h=>by
  rw[Le]at h;rcases br h with h1|h1
  .rw[NC]at h1;split at h1
   .simp only[Bh]at h1;exact .inr AB
   .exact AgC
  .exact .inr AB
def im{ch:List Sc}{M:ML}:∀{l:List Ge} {on:LLI},(∀v,v∈l->v.Ga=[])->TE ch M on l=on
 |[],_,_=>rfl
 |v::l,on,h=>by
  simp only[TE,List.foldl_cons,h v AD,iq,List.foldl_nil];exact im λu hu=>h u AbL
structure Made (s:St) (n:GO) (r:PV) (s':St) (g:Gr) (sp mp:Nat):Prop where
 res:r=.GN g.gp 0
 gs:GS s' g
 IK:g.IK=(n.Hz++n.GA).map Ge.GY
 on:g.os.map Bx=AWK [(sp,mp,Le [] 0 (n.Hz++n.GA))] [] (TE [(sp,mp,Le [] 0 (n.Hz++n.GA))] (Le [] 0 (n.Hz++n.GA)) ((n.Hz++n.GA).map λ_=>[]) n.GA) n.GQ
 Hi:∀b,b<s.next->s'.heap b=s.heap b
 new:∀b,b∈g.H2->s.next<=b
end
end Go.Vi
