/- Part of the proof of CauseOrders (own work, made small). -/
import Derived.Test.YtlonlfiaclacdaaGreatD1
import Derived.Test.YtlonlfiaclacdaaGreatE1
import Derived.Test.YtlonlfiaclacdaaGreatF1
set_option linter.all false
set_option maxRecDepth 100000
open Bool renaming and_eq_true->Bk
open Go renaming FuncId->CE,TypeId->Bm
open Go.ByteArray renaming toList_eq->FZ
open Go.Proofs.Tryz renaming prog->BW
open Go.Vi.Edge renaming Gy->A9
open Go.Vi.HM renaming Gy->Ao
open Go.Vi.Item renaming Gy->Aq,HJ->BI
open Go.Vi.KC renaming run->Aw
open Go.Vi.KD renaming is->BF,s->BU
open Go.Vi.Obj renaming box->BD
open Go.Vi.PV renaming bool->BG,int->Az
open Go.Vi.St renaming JW->A3,Hn->Av,LW->BN,HY->Ar,IB->Ay
open List renaming all_cons->Cl,all_eq_true->CV,append_assoc->CN,append_nil->CL,drop_eq_getElem_cons->Bx,drop_of_length_le->CT,drop_zero->Cv,getD_eq_getElem?_getD->Bq,getElem?_eq_getElem->BZ,getElem?_eq_none->CA,getElem?_eq_some_iff->Bn,getElem?_map->CH,getElem?_set->DQ,getElem_mem->Bl,length_append->Bf,length_cons->CG,length_map->BX,length_singleton->CZ,map_append->Br,map_cons->GQ,map_nil->Fz,map_set->E6,mem_append->Bg,mem_cons->Bz,mem_cons_of_mem->Co,mem_cons_self->C8,mem_filterMap->B6,mem_iff_getElem?->Dm,mem_map->B8,mem_of_getElem?->Bt,mem_or_eq_of_mem_set->Ee,nil_append->CX,nodup_append->B3,nodup_cons->CY,not_mem_nil->DY,replicate->C2,take_length->DG
open List.cons renaming injEq->GC
open Nat renaming add_assoc->Dw,add_le_add_left->Fa,add_mul->CW,beq->Bo,beq_refl->Fb,le_refl->Bd,le_succ->Gm,le_trans->CD,lt_of_lt_of_le->Cw,testBit->Ep,zero_add->CR
open Ne renaming symm->ER
open Option renaming mem_toList->Dr
open Option.some renaming injEq->Ba
open Prod renaming fst->CO,snd->Bp
namespace Go.Vi
abbrev PVI(n:Int):PV:=.int .i64 n
section
section
variable{P:Program} {s s':St} {v x y:PV} {b o n m off size bytes:Nat} {cs NL Gy l z:LP} {G1 xs:LLP} {i j:Int} {kk:IntKind}
def zm(h0:0<=i)(hf:Go.Ab.JE i.toNat bytes=true)(h:s.next=n):I0 (KB size bytes z (.int kk i) (.int kk i)) s (.LQ n i.toNat) (s.new (.LM size (C2 i.toNat z).flatten)) [] []:=by subst h;refine⟨.LM size (C2 i.toNat z).flatten λb=> .LQ b i.toNat,?_,rfl,rfl,rfl⟩;simp only[KB,M0,Ps h0,hf,Fb,Bool.and_self,cond_true]
def AUk(h0:0<=i)(h:i.toNat<n):I0 (Jq size (.LQ b n) (.int kk i)) s (.G5 b (i.toNat*size)) s [] []:=⟨.val _,by simp only[Jq,M0,Ps h0,Ps h],rfl,rfl,rfl⟩
def LA(h0:0<=i)(h:i.toNat<n):I0 (Jq 1 (.LQ b n) (.int kk i)) s (.G5 b i.toNat) s [] []:=by have:=AUk (kk:=kk) (size:=1) (b:=b) (s:=s) h0 h;rwa [Nat.mul_one]at this
def Lw{e:Nat}(h:s.heap b=some (.LM e cs))(h2:cs[o]?=some v):I0 (G3 (.G5 b o)) s v s [b] []:=⟨_,rfl,by simp only[Aw,h,h2],rfl,rfl⟩
def SN{e:Nat}(h:s.heap b=some (.LM e cs))(hx:x.Iu=true)(ho:o<cs.length):I0 (HQ 1 x (.G5 b o)) s .undef (s.set b (.LM e (cs.set o x))) [] [b]:=by
 have hc:x.cells=[x]:=by cases x<;>first|rfl|cases hx
 refine⟨.store b λcs=>NR cs o x.cells,?_,?_,rfl,rfl⟩
 .exact AiH
 .simp only[Aw,h,hc];rw[ACH ho]
def iU:I0 (Hg (.LQ b n)) s (I n) s [] []:=⟨.val _,rfl,rfl,rfl,rfl⟩
def AG9:I0 (Hg .nil) s (I 0) s [] []:=⟨.val _,rfl,rfl,rfl,rfl⟩
def AUn(h0:0<=i)(h:i.toNat<=n):I0 (Ie size false true (.LQ b n) [.int kk i]) s (.LQ b i.toNat) s [] []:=⟨.val _,by simp only[Ie,SV,M0,Ps h0,AHi,true_and,Option.getD_some,Ps h],rfl,rfl,rfl⟩
def AG8(hx:x.G1=some xs)(ha:xs.all (λr=>Bo r.length size)=true)(hf:Go.Ab.JE (n+xs.length) bytes=true)(hb:s.heap b=some (.LM size cs))(hc:n*size<=cs.length)(h:s.next=m):
  I0 (Jk size bytes (.LQ b n) x) s (.LQ m (n+xs.length)) ((s.set b .NY).new (.LM size (cs.take (n*size)++xs.flatten))) [] [b]:=by
 subst h;refine⟨.ey b size (λcs=>if n*size<=cs.length then some (cs.take (n*size)++xs.flatten)else none) λb'=> .LQ b' (n+xs.length),?_,?_,rfl,rfl⟩
 .simp only[Jk,hx,ha,hf,cond_true]
 .simp only[Aw,hb,Fb,cond_true,Ps hc]
def AK4(hx:x.G1=some (Gy::xs))(ha:(Gy::xs).all (λr=>Bo r.length size)=true)(hf:Go.Ab.JE (Gy::xs).length bytes=true)(h:s.next=m):
  I0 (Jk size bytes .nil x) s (.LQ m (Gy::xs).length) (s.new (.LM size (Gy::xs).flatten)) [] []:=by
 subst h;refine⟨.LM size (Gy::xs).flatten λb=> .LQ b (Gy::xs).length,?_,rfl,rfl,rfl⟩;simp only[Jk,hx,ha,hf,cond_true]
def zk(h:ACB size l=some G1):I0 (Jx size l) s (.HC G1) s [] []:=⟨.val _,by simp only[Jx,h],rfl,rfl,rfl⟩
def AMt(h:s.next=n):I0 (some (.map [] λb=> .map b)) s (.map n) (s.new (.map [])) [] []:=by subst h;exact⟨_,rfl,rfl,rfl,rfl⟩
def nN{t:Bm}{k:PV}{mk:KD}{M:ML}{ok:Bool}(hk:Nr k=some mk)(ht:iP P t mk=true)(hb:s.heap b=some (.map M))(ha:M.all (λp=>mk.QV p.1)=true)
  (hv:(match Ko mk M with
   |some v=>(bif ok then .tuple [.int .i64 v,.bool true]else .int .i64 v)
   |none=>(bif ok then .tuple [.int .i64 0,.bool false]else .int .i64 0))=v):I0 (IP P t (.map b) k ok) s v s [b] []:=by
 refine⟨_,by simp only[IP,hk,ht,cond_true];rfl,?_,rfl,rfl⟩;simp only[Aw,hb,ha,cond_true];subst hv;cases Ko mk M<;>rfl
def AMx{t:Bm}{k:PV}{mk:KD}{M:ML}(hk:Nr k=some mk)(ht:iP P t mk=true)(hb:s.heap b=some (.map M))(ha:M.all (λp=>mk.QV p.1)=true):
  I0 (IU P t (.map b) k (I i)) s .undef (s.set b (.map (Qz mk i M))) [] [b]:=by
 refine⟨_,by simp only[IU,hk,ht,cond_true];rfl,?_,rfl,rfl⟩;simp only[Aw,hb,ha,cond_true]
def AUj{t:Bm}{k:PV}{mk:KD}{M:ML}(hk:Nr k=some mk)(ht:iP P t mk=true)(hb:s.heap b=some (.map M))(ha:M.all (λp=>mk.QV p.1)=true):
  I0 (IZ P t (.map b) k) s .undef (s.set b (.map (iR mk M))) [] [b]:=by
 refine⟨_,by simp only[IZ,hk,ht,cond_true];rfl,?_,rfl,rfl⟩;simp only[Aw,hb,ha,cond_true]
def AMu:I0 (MS (.int kk i) (.int kk j)) s (.int kk (if j<i then j else i)) s [] []:=⟨.val _,by simp only[MS,AKr,if_true],rfl,rfl,rfl⟩
def zl{t:Bm}(h:x.Iu=true):I0 (Sn t x) s (.iface t x) s [] []:=⟨.val _,by simp only[Sn,h,cond_true],rfl,rfl,rfl⟩
def AQC{t:Bm}:I0 (SZ t (.iface t x)) s x s [] []:=⟨.val _,by simp only[SZ,if_true],rfl,rfl,rfl⟩
def tI:I0 (IJ (.LQ b n)) s (.LQ b n) s [] []:=Ns
def AG4:I0 (IJ (.map b)) s (.map b) s [] []:=Ns
def AG3{f:CE}:I0 (IJ (.fn f l)) s (.fn f l) s [] []:=Ns
def AQI:I0 (IJ (.yield n)) s (.yield n) s [] []:=Ns
def AQG:I0 (IJ .RC) s .RC s [] []:=Ns
def tJ(hx:x.Iu=true)(h:s.next=n):I0 (Ij x) s (.G5 n 0) (s.new (.box [x])) [] []:=by
 subst h;have hc:x.cells=[x]:=by cases x<;>first|rfl|cases hx
 refine⟨.box [x] λb=> .G5 b 0,?_,rfl,rfl,rfl⟩;show(bif x.cells.all PV.Iu then _ else _)=_;rw[hc];simp[hx]
end
section
variable{P:Program} {X:Mode} {E:Xg} {f:FuncId} {vs args:LP} {s s':St} {k:F1} {kl:KL} {v:PV}
def wY{IC Hs:LLP}{r:PV}{bs:LN}(h:PC P f args IC r Hs)(h1:Js vs 0=some (args,bs))(h2:Mq bs=true)(h3:HZ s bs=some IC)(h4:Hs.length=bs.length)
  (hk:k (JV r (IF s bs Hs)).1 (JV r (IF s bs Hs)).2):pC P X f vs s k:=
 (Pc P X).2 (.inl ⟨_,_,bs,⟨args,IC,r,Hs,h1,h2,h3,h4,h,rfl⟩,hk⟩)
def tN{IC Hs:LLP}{r:PV}{bs:LN}(h:PC P f args IC r Hs)(h1:Js vs 0=some (args,bs))(h2:Mq bs=true)(h3:HZ s bs=some IC)(h4:Hs.length=bs.length)
  (hk:kl (JV r (IF s bs Hs)).1 (JV r (IF s bs Hs)).2 [] bs):Rs P X f vs s kl:=
 (Pc P X).2 (.inl ⟨_,_,bs,⟨args,IC,r,Hs,h1,h2,h3,h4,h,rfl⟩,hk⟩)
def UT{Q:F1}(h:SW E P f vs s Q)(hk:∀v s',IL s s'->Ha s'->Q v s'->k v s'):pC P (.Im E) f vs s k:=(Pc P _).2 (.inr ⟨Q,h,hk⟩)
def AYh(h:SC E P f vs s v s')(hk:k v s'):pC P (.lZ E) f vs s k:=(Pc P _).2 (.inr ⟨v,s',h.sw ⟨rfl,rfl⟩,hk⟩)
def AHL{s0:St}(fp:LN)(hX:X≠ .old)(hE:∀S m,X.Lj.holds m->X.Lj.holds (jR S m))(hw:WkL vs args)(hr:Lc (λb=>fp.contains b) args=true)(h:SC X.Lj P f args (IY s fp) v s0)(Xr:uF s fp)
  (hk:kl v (PR s fp s0) [] fp):Rs P X f vs s kl:=by
 refine(Pc P X).2 (.inr ?_);cases X with
 |old=>exact Zq rfl hX
 |lZ E=>exact⟨v,_,fp,⟨args,s0,hE,hw,hr,h,Xr,rfl⟩,hk⟩
 |Im E=>exact⟨v,_,fp,⟨args,s0,hE,hw,hr,h,Xr,rfl⟩,hk⟩
def AQT{Q:F1}(h:AIZ E P vs s Q)(hk:∀v s',IL s s'->Ha s'->Q v s'->k v s'):MW P (.Im E) vs s k:=⟨Q,h,hk⟩
def ZR{name:String}{Q:F1}(h:qn E P name vs s Q)(hk:∀v s',IL s s'->Ha s'->Q v s'->k v s'):MX P (.Im E) name vs s k:=⟨Q,h,hk⟩
def Ls{l:Option (LP)}{l':LP}{Q:F1}(h0:l=some l')(hk:Q (NF l') s):H2 l λl=>Q (NF l) s:=by subst h0;exact hk
end
def zp{p:Prop}(h:p:=by first|exact zo|exact iU|exact AG9|exact tI|exact AG4|exact AG3|exact AQI|exact AQG|exact AMt zn|exact tJ rfl zn|exact zl rfl|exact AQC|exact AMu|exact zk (by dsimp only[ACB,U5,PV.cells,PV.data,PV.pJ]<;>rfl)|exact Lw zh (by assumption)):p:=h
def zw{A B:Prop}(h:B)(k:ZH B->A:=by intro zq;(repeat(first|(apply Gu;· exact zp)|refine ct ?_|refine cf ?_|(apply HA;· exact zp)|refine sN ?_|refine iC ?_|refine ASu ?_|refine mS ?_|refine sM ?_|(apply OJ;· exact zp)|(apply Mh;· exact zp)|refine AJ0 ?_|refine AOh ?_));exact zq.out):A:=k ⟨h⟩
def JO{s:St}{b:Nat}{o:Obj}(h:s.heap b≠none):IL s (s.set b o):=⟨Bd _,λx _ hn=>by
 by_cases c:x=b
 .subst c;exact Zq hn h
 .rw[Ar c];exact hn⟩
def I9{s:St}{o:Obj}:IL s (s.new o):=⟨Gm _,λx hx hn=>by rw[Av rfl (Nat.ne_of_lt hx)];exact hn⟩
def JH{s:St}{b:Nat}{o:Obj}(hf:Ha s)(h:s.heap b≠none):Ha (s.set b o):=λx hx=>by
 have c:x≠b:=by rintro rfl;exact h (hf x hx)
 rw[Ar c];exact hf x hx
def IW{s:St}{o:Obj}(hf:Ha s):Ha (s.new o):=λx hx=>by
 have hx:s.next+1<=x:=hx;rw[Av rfl AA];exact hf x AA
def HT{s:St}(hf:Ha s){b:Nat}{o:Obj}(h:s.heap b=some o):b<s.next:=Nat.lt_of_not_le λhc=>by rw[hf b hc]at h;cases h
end
attribute [local irreducible] Iq IJ Hf Ij HS Ik G3 G4 HQ IA H7 KV Hx Ig Ie Iz LH LS Jq Kp LG Hw Hg IT pQ Jy JZ Hb HP He H2 IN I0 Int.instDecidableEq Int.decEq instBEqOfDecidableEq KB Jk Jx MS Sn SZ IP IU IZ pC Rs SY MW MX MH
section
open Go.Proofs
abbrev Sc:=Nat×Nat×ML
inductive LJ (s:St):PV->List Sc->Prop
 |nil:LJ s .RC []
 |cons (sp mp:Nat) (M:ML) (v:PV) (r:List Sc):s.heap sp=some (.box [.map mp,v])->s.heap mp=some (.map M)->M.all (λp=>(BU default).QV p.1)=true->LJ s v r->LJ s (.G5 sp 0) ((sp,mp,M)::r)
def Rq(n:BA):List Sc->Int
 |[]=> -1
 |(_,_,M)::r=>match Ko (.s n) M with
  |some i=>i
  |none=>Rq n r
def MI:List Sc->LN
 |[]=>[]
 |(sp,mp,_)::r=>sp::mp::MI r
def m7{n n':BA}{M:ML}(h:M.all (λp=>(BU n).QV p.1)=true):M.all (λp=>(BU n').QV p.1)=true:=by
 rw[CV]at h⊢;intro p hp;have:=h p hp;cases hk:p.1 with
 |i _=>rw[hk]at this;cases this
 |s _=>rfl
def nC(n:BA):iP BW 68 (.s n)=true:=by kernel_rfl
def pP{X:Mode}{Q:F1}{s:St}{n:BA}:∀{v:PV} {l:List Sc},LJ s v l->Q (I (Rq n l)) s->∃m,mR X Q m v (.HK n) s
 |_,_,.nil,hQ=>by
  refine⟨1,?_⟩;unfold mR sL;refine zw ?_;unfold AFn;exact Ls rfl hQ
 |_,_,.cons sp mp M v r h1 h2 h3 h4,hQ=>by
  cases hf:Ko (.s n) M with
  |some i=>
   refine⟨1,?_⟩;unfold mR sL;refine zw ?_;refine Gu Ael ?_;refine zw ?_;refine Ls rfl ?_;simp only[Rq,hf]at hQ;exact hQ
  |none=>
   simp only[Rq,hf]at hQ;obtain⟨m,hm⟩:=pP h4 hQ;refine⟨m+1,?_⟩;unfold mR sL;refine zw ?_;refine Gu Ael ?_;refine zw ?_;cases h4 with
   |nil=>refine zw ?_;exact hm
   |cons _ _ _ _ _ _ _ _ _=>refine zw ?_;exact hm
def AA8{E:Xg}{s:St}(hf:Ha s){v:PV}{l:List Sc}(hc:LJ s v l)(n:BA):SC E BW 79 [v,.HK n] s (I (Rq n l)) s:=by
 have:g79 (.lZ E) (λr s'=>r=I (Rq n l)/\s'=s) v (.HK n) s:=by
  unfold g79;exact pP hc ⟨rfl,rfl⟩
 obtain⟨r,s',h1,rfl,rfl⟩:=(AOf _ _ _ this).sc hf (by rintro r s' ⟨_,rfl⟩;exact⟨IL.refl _,hf⟩);exact h1
end
section
open Go.Proofs
def Ku(l:LI):LLP:=l.map λi=>[I i]
def IV(p:OLI):PV:=match p.1 with
 |none=> .nil
 |some c=> .H6 c (Ku p.2)
def LK(s:St)(p:OLI):Prop:=match p.1 with
 |none=>p.2=[]
 |some c=>s.heap c=some (.Hm p.2.length 1)
def LK.Ir{s s':St}{p:OLI}(h:LK s p)(hk:∀c,p.1=some c->s'.heap c=s.heap c):LK s' p:=by unfold LK at*;exact Ahv
def MY{l:LI}:(Ku l).length=l.length:=by simp[Ku]
def Vx{l:LI}:(Ku l).all (λr=>Bo r.length 1)=true:=by rw[CV];intro r hr;obtain⟨i,_,rfl⟩:=B8.1 hr;rfl
def AHa{a b:LI}:Ku (a++b)=Ku a++Ku b:=by simp[Ku]
def M6{p:OLI}:(IV p).Iu=true:=by unfold IV;split<;>rfl
def Wk{s:St}{p:OLI}(h:LK s p):(IV p).G1=some (Ku p.2):=by
 unfold LK at h;unfold IV;split
 .rename_i he;rw[he]at h;rw[h];rfl
 .rfl
def Jd{n b:Nat}(h:n<=1000000000)(hb:b<=100):Go.Ab.JE n b=true:=by unfold Go.Ab.JE;have:n*b<=1000000000*100:=Nat.mul_le_mul h hb;simp;omega
def Zj{s:St}(hf:Ha s){o:ON}{l xs:LI}(ho:LK s (o,l)){x:PV}(hx:x.G1=some (Ku xs))(hn:l.length+xs.length<=1000000000):
  ∃o' s',I0 (IT 1 8 (IV (o,l)) x) s (IV (some o',l++xs)) s' [] o.toList/\s'.heap o'=some (.Hm (l++xs).length 1)/\(∀b,b≠o'->s'.heap b=s.heap b)/\((o=some o'/\s'.next=s.next)\/(o=none/\o'=s.next/\s'.next=s.next+1))/\Ha s'/\IL s s':=by
 cases o with
 |none=>
  have hl:l=[]:=ho;subst hl;refine⟨s.next,s.new (.Hm xs.length 1),?_,by rw[BN];simp,λb hb=>Av rfl hb,.inr ⟨rfl,rfl,rfl⟩,IW hf,I9⟩;have h:=Nd (bytes:=8) (size:=1) (s:=s) hx Vx (by rw[MY];exact Jd Ab1 AS) rfl;rw[MY]at h;exact h
 |some c=>
  have hc:s.heap c=some (.Hm l.length 1):=ho;refine⟨c,s.set c (.Hm (l++xs).length 1),?_,Ay,λb hb=>Ar hb,.inl ⟨rfl,rfl⟩,JH hf Ab3,JO Ab3⟩;have h:=KG (bytes:=8) (size:=1) (s:=s) (b:=c) (G1:=Ku l) (e':=1) hx Vx (by rw[MY,MY];exact Jd hn AS) Vx (by rw[MY];exact hc) (.inr rfl);rw[MY,MY]at h;show I0 (IT 1 8 (.H6 c (Ku l)) x) s (.H6 c (Ku (l++xs))) _ _ _;rw[AHa,Bf];exact h
structure Gr where
 gp:Nat
 ba:Option Nat
 KO:List Int
 bo:Option Nat
 os:List (Option Nat×List Int)
def oM(bo:ON)(n:Nat):PV:=match bo with
 |none=> .nil
 |some b=> .LQ b n
def Ti(s:St)(bo:ON)(os:List (OLI)):Prop:=match bo with
 |none=>os=[]
 |some b=>s.heap b=some (.LM 1 (os.map IV))
structure GS (s:St) (g:Gr):Prop where
 box:s.heap g.gp=some (.box [IV (g.ba,g.KO),oM g.bo g.os.length])
 KO:LK s (g.ba,g.KO)
 on:Ti s g.bo g.os
 Hm:∀p,p∈g.os->LK s p
 nd:(g.ba.toList++g.os.filterMap CO).Nodup
def Gr.It(g:Gr):LN:=g.gp::(g.bo.toList++(g.ba.toList++g.os.filterMap CO))
def Ti.Ir{s s':St}{bo:ON}{os:List (OLI)}(h:Ti s bo os)(hk:∀c,bo=some c->s'.heap c=s.heap c):Ti s' bo os:=by
 unfold Ti at*;split
 .exact h
 .rename_i c;exact(hk c rfl).trans h
def GS.Ir{s s':St}{g:Gr}(h:GS s g)(hk:∀b,b∈g.It->s'.heap b=s.heap b):GS s' g:=
 ⟨(hk _ (by simp[Gr.It])).trans h.box,h.KO.Ir λc hc=>hk c Ab5,h.on.Ir λc hc=>hk c (by simp[Gr.It,hc]),
  λp hp=>(h.Hm p hp).Ir λc hc=>hk c Am,h.nd⟩
def Ip{s:St}{a b:Nat}{o o':Obj}(h:s.heap a=some o)(h':s.heap b=some o')(MT:o≠o'):a≠b:=by rintro rfl;rw[h]at h';cases h';exact MT rfl
def GS.kind{s:St}{g:Gr}(h:GS s g){b:Nat}(hb:b∈g.It):(b=g.gp/\s.heap b=some (.box [IV (g.ba,g.KO),oM g.bo g.os.length]))\/(g.bo=some b/\s.heap b=some (.LM 1 (g.os.map IV)))\/∃n,s.heap b=some (.Hm n 1):=by
 simp only[Gr.It,Bz,Bg,Dr,B6]at hb;rcases hb with rfl|hb|hb|⟨p,hp,hb⟩
 .exact .inl ⟨rfl,h.box⟩
 .exact Ais
 .have:=h.KO;unfold LK at this;exact Ah4
 .exact Aia
def Vv{S:Nat->Bool}:∀{l:LP},(∀v,v∈l->Kh S v=true)->Lc S l=true
 |[],_=>by unfold Lc;rfl
 |a::l,h=>by unfold Lc;rw[h a AD,Vv λv hv=>h v Ak];rfl
def Wj{S:Nat->Bool}{p:OLI}(h:∀c,p.1=some c->S c=true):Kh S (IV p)=true:=by unfold IV;exact AjG
def wU{S:Nat->Bool}{bo:ON}{n:Nat}(h:∀c,bo=some c->S c=true):Kh S (oM bo n)=true:=by
 unfold oM;split
 .unfold Kh;rfl
 .rename_i c;unfold Kh;exact h c rfl
def GS.fp{s:St}(hf:Ha s){g:Gr}(h:GS s g){fp:LN}(hs:∀b,b∈g.It->b∈fp){b:Nat}(hb:b∈g.It):b<s.next/\∃o,s.heap b=some o/\o.ZF=false/\o.Kh (λb=>fp.contains b)=true:=by
 have T9:∀c,c∈g.It->fp.contains c=true:=λc hc=>by simpa using hs c hc
 rcases h.kind hb with⟨_,hh⟩|⟨_,hh⟩|⟨n,hh⟩
 .refine⟨HT hf hh,_,hh,rfl,Vv λv hv=>?_⟩;simp only[Bz,DY,or_false]at hv;rcases hv with rfl|rfl
  .exact Wj λc hc=>T9 c Ab5
  .exact wU λc hc=>T9 c (by simp[Gr.It,hc])
 .refine⟨HT hf hh,_,hh,rfl,Vv λv hv=>?_⟩;obtain⟨p,hp,rfl⟩:=B8.1 hv;exact Wj λc hc=>T9 c Am
 .exact⟨HT hf hh,_,hh,rfl,rfl⟩
def GS.lt{s:St}(hf:Ha s){g:Gr}(h:GS s g){b:Nat}(hb:b∈g.It):b<s.next:=(h.fp hf (λ_ h=>h) hb).1
end
section
open Go.Proofs
def AHt{l:LP}{n:Nat}(h:l.length=n):l.take (n*1)=l:=by rw[Nat.mul_one,<- h];exact DG
def AEw{s:St}(hf:Ha s){bo:ON}{os:List (OLI)}(ho:Ti s bo os)(hn:os.length<=100000):
  ∃s',I0 (Jk 1 24 (oM bo os.length) (.HC [[.nil]])) s (.LQ s.next (os.length+1)) s' [] bo.toList/\s'.heap s.next=some (.LM 1 ((os++[(none,[])]).map IV))/\(∀b,b≠s.next->bo≠some b->s'.heap b=s.heap b)/\s'.next=s.next+1/\Ha s'/\IL s s':=by
 cases bo with
 |none=>
  have xX:os=[]:=ho;subst xX;refine⟨s.new (.LM 1 [.nil]),?_,BN,λb hb _=>Av rfl hb,rfl,IW hf,I9⟩;exact AK4 (x:=.HC [[.nil]]) (Gy:=[.nil]) (xs:=[]) rfl rfl (Jd AD AS) rfl
 |some c=>
  have hc:s.heap c=some (.LM 1 (os.map IV)):=ho;have H5:=HT hf hc;refine⟨(s.set c .NY).new (.LM 1 ((os.map IV).take (os.length*1)++[[PV.nil]].flatten)),?_,?_,λb hb MK=>?_,rfl,IW (JH hf Ab3),(JO Ab3).trans I9⟩
  .exact AG8 (n:=os.length) (x:=.HC [[.nil]]) (xs:=[[.nil]]) rfl rfl (Jd AB AS) hc AD rfl
  .rw[AHt AD];have:(s.set c .NY).next=s.next:=rfl;rw[<- this,BN];simp[IV]
  .have:c≠b:=λh=>MK (by rw[h]);exact(Av (s:=s.set c .NY) (n:=s.next) rfl hb).trans (Ar (ER this))
def ARQ(s:St)(g:Gr)(at_:Int)(s':St)(g':Gr):Prop:=GS s' g'/\g'.gp=g.gp/\g'.KO=g.KO++[at_]/\g'.os=g.os++[(none,[])]/\g'.bo≠none/\(∀b,b∈g'.It->b∈g.It\/s.next<=b)/\(∀b,b∉g.It->b<s.next->s'.heap b=s.heap b)/\IL s s'/\Ha s'
def ANL{E:Xg}{s:St}(hf:Ha s){g:Gr}(hg:GS s g)(hn:g.os.length<=100000)(ha:g.KO.length=g.os.length)(at_:Int):
  ∃s' g',SC E BW 76 [.G5 g.gp 0,I at_] s (I g.os.length) s'/\ARQ s g at_ s' g':=by
 obtain⟨c,s1,a1,a2,a3,a4,a5,a6⟩:=Zj hf hg.KO (x:=.HC [[I at_]]) (xs:=[at_]) rfl AB
 have Yv:g.gp≠c:=by
  rcases a4 with⟨h,_⟩|⟨_,h,_⟩
  .have:=hg.KO;unfold LK at this;simp only[h]at this;exact Ip hg.box this AD
  .have:=HT hf hg.box;omega
 have MR:s1.heap g.gp=some (.box [IV (g.ba,g.KO),oM g.bo g.os.length]):=(a3 _ Yv).trans hg.box;obtain⟨s2,K9⟩:∃s2,s2=s1.set g.gp (.box [IV (some c,g.KO++[at_]),oM g.bo g.os.length]):=⟨_,rfl⟩
 have OK:Ha s2:=by rw[K9];exact JH a5 AP
 have fE:s2.next=s1.next:=by rw[K9];rfl
 have ADG:Ti s2 g.bo g.os:=hg.on.Ir λb hb=>by
  have h0:=hg.on;unfold Ti at h0;rw[hb]at h0;rw[K9,Ar (Ip h0 hg.box AD)];refine a3 b ?_;rcases a4 with⟨h,_⟩|⟨_,h,_⟩
  .have:=hg.KO;unfold LK at this;simp only[h]at this;exact Ip h0 this AD
  .have:=HT hf h0;omega
 obtain⟨s3,b1,b2,b3,b4,b5,b6⟩:=AEw OK ADG hn
 have AO6:s3.heap g.gp=some (.box [IV (some c,g.KO++[at_]),oM g.bo g.os.length]):=by
  rw[b3 g.gp (by have:=HT OK (b:=g.gp) (by rw[K9];exact Ay);omega) (λh=>by
   have h0:=ADG;unfold Ti at h0;rw[h]at h0;simp only at h0;rw[K9,Ay]at h0;cases h0),K9]
  exact Ay
 let g':Gr:={gp:=g.gp,ba:=some c,KO:=g.KO++[at_],bo:=some s2.next,os:=g.os++[(none,[])]}
 obtain⟨s4,bQ⟩:∃s4,s4=s3.set g.gp (.box [IV (some c,g.KO++[at_]),.LQ s2.next (g.os.length+1)]):=⟨_,rfl⟩
 have hf4:Ha s4:=by rw[bQ];exact JH b5 (by rw[AO6];simp)
 have sP:IL s s2:=by rw[K9];exact a6.trans (JO AP)
 have hG4:IL s s4:=by rw[bQ];exact(sP.trans b6).trans (JO (by rw[AO6];simp))
 have hc4:s4.heap c=some (.Hm (g.KO++[at_]).length 1):=by
  have Ro:s2.heap c=some (.Hm (g.KO++[at_]).length 1):=by rw[K9,Ar Yv.symm];exact a2
  rw[bQ,Ar Yv.symm,b3 c (by have:=HT OK Ro;omega) (λh=>by
   have h0:=ADG;unfold Ti at h0;rw[h]at h0;simp only at h0;rw[Ro]at h0;cases h0)]
  exact Ro
 have pZ:∀b,b≠g.gp->b≠c->g.bo≠some b->b<s.next->s4.heap b=s.heap b:=by
  intro b h1 h2 h3 h4;have:s.next<=s1.next:=a6.next;rw[bQ,Ar h1,b3 b AA h3,K9,Ar h1,a3 b h2]
 have Lr:∀p,p∈g.os->∀d,p.1=some d->d≠g.gp/\d≠c/\g.bo≠some d/\d<s.next:=by
  intro p hp d hd;have h0:=hg.Hm p hp;unfold LK at h0;rw[hd]at h0;simp only at h0;refine⟨Ip h0 hg.box AD,?_,λh=>?_,HT hf h0⟩
  .rcases a4 with⟨h,_⟩|⟨_,h,_⟩
   .intro aN;have L6:=hg.nd;rw[h]at L6;simp only[Option.toList,List.singleton_append,CY]at L6;exact L6.1 (B6.2 ⟨p,hp,by rw[hd,aN]⟩)
   .have:=HT hf h0;omega
  .have h2:=hg.on;unfold Ti at h2;rw[h]at h2;simp only at h2;rw[h2]at h0;cases h0
 have hGS:GS s4 g':=by
  refine⟨?_,hc4,?_,λp hp=>?_,?_⟩
  .rw[bQ,Ay];simp[g',oM]
  .show s4.heap s2.next=_;rw[bQ,Ar (by have:=HT hf hg.box;have:=a6.next;omega)];exact b2
  .rcases Bg.1 hp with hp|hp
   .exact(hg.Hm p hp).Ir λd hd=>by
     obtain⟨h1,h2,h3,h4⟩:=Lr p hp d hd;exact pZ d h1 h2 h3 h4
   .simp at hp;subst hp;rfl
  .show([c]++(g.os++[(none,[])]).filterMap CO).Nodup;have:(g.os++[((none:ON),([]:LI))]).filterMap CO=g.os.filterMap CO:=AD;rw[this];refine CY.2 ⟨λh=>?_,(B3.1 hg.nd).2.1⟩;obtain⟨p,hp,hd⟩:=B6.1 h;exact(Lr p hp c hd).2.1 rfl
 have:g76 (.lZ E) (λr s'=>r=I g.os.length/\s'=s4) (.G5 g.gp 0) (I at_) s:=by
  unfold g76;refine zw ?_;refine Gu Ad1 ?_;refine zw ?_;refine Gu a1 ?_;refine Gu Kg ?_;refine Gu JD ?_;refine Gu (Nf MR M6 rfl rfl) ?_;rw[show([IV (g.ba,g.KO),oM g.bo g.os.length].set 0 (IV (some c,g.KO++[at_])))=[IV (some c,g.KO++[at_]),oM g.bo g.os.length]from rfl,<- K9];refine zw ?_;refine Gu (G2 (by rw[K9];exact Ay) rfl) ?_;refine zw ?_;refine Gu b1 ?_;refine Gu Kg ?_;refine Gu JD ?_;refine Gu (Nf AO6 rfl rfl rfl) ?_;rw[show([IV (some c,g.KO++[at_]),oM g.bo g.os.length].set (0+1) (.LQ s2.next (g.os.length+1)))=[IV (some c,g.KO++[at_]),.LQ s2.next (g.os.length+1)]from rfl,<- bQ];refine zw ?_;refine Gu (G2 (by rw[bQ];exact Ay) rfl) ?_;refine Gu (Iy (G1:=Ku (g.KO++[at_])) rfl) ?_;refine zw ?_;refine Ls (Q:=λr s'=>r=I g.os.length/\s'=s4) rfl ⟨?_,rfl⟩;show PVI (IntKind.i64.wrap _)=_;rw[MY,Hr (by simp<;>omega) (by simp<;>omega)];simp[ha]
 obtain⟨r,s',h1,rfl,rfl⟩:=(AOc _ _ _ this).sc hf (by rintro r s' ⟨_,rfl⟩;exact⟨hG4,hf4⟩);refine⟨_,g',h1,hGS,rfl,rfl,rfl,by simp[g'],λb hb=>?_,λb hb H5=>?_,hG4,hf4⟩
 .simp only[Gr.It,g',Bz,Bg,Dr,Ba,B6,DY,or_false]at hb⊢;rcases hb with rfl|rfl|rfl|⟨p,hp,hd⟩
  .exact .inl (.inl rfl)
  .exact .inr (by rw[fE];exact a6.next)
  .rcases a4 with⟨h,_⟩|⟨_,h,_⟩
   .exact .inl (.inr (.inr (.inl h)))
   .exact AiM
  .rcases hp with hp|rfl
   .exact .inl (.inr (.inr (.inr ⟨p,hp,hd⟩)))
   .cases hd
 .simp only[Gr.It,Bz,Bg,Dr,not_or]at hb;refine pZ b hb.1 ?_ hb.2.1 H5;rcases a4 with⟨h,_⟩|⟨_,h,_⟩
  .rintro rfl;exact hb.2.2.1 h
  .omega
end
section
open Go.Proofs
def Gr.Hm(g:Gr):LN:=g.os.filterMap CO
def NT(on:LLI)(v:Nat)(xs:LI):LLI:=on.set v (on.getD v []++xs)
structure fo (s:St) (g:Gr) (v:Nat) (xs:List Int) (s':St) (g':Gr):Prop where
 gs:GS s' g'
 gp:g'.gp=g.gp
 ba:g'.ba=g.ba
 KO:g'.KO=g.KO
 bo:g'.bo=g.bo
 on:g'.os.map Bp=NT (g.os.map Bp) v xs
 Hm:∀b,b∈g'.Hm->b∈g.Hm\/s.next<=b
 Ir:∀b,g.bo≠some b->b∉g.Hm->b<s.next->s'.heap b=s.heap b
 Ki:IL s s'
 Lq:Ha s'
def GS.WJ{s:St}{g:Gr}(h:GS s g){v:Nat}(hv:v<g.os.length):∃b,g.bo=some b/\s.heap b=some (.LM 1 (g.os.map IV)):=AhL
def Rk{os:List (OLI)}{v:Nat}{p:OLI}{b:Nat}(h:b∈(os.set v p).filterMap CO):b∈os.filterMap CO\/p.1=some b:=by
 obtain⟨q,hq,hb⟩:=B6.1 h;rcases Ee hq with h1|rfl
 .exact .inl (B6.2 ⟨q,h1,hb⟩)
 .exact .inr hb
def qA{os:List (OLI)}:∀{v:Nat} {o:ON} {l l':LI} {c:Nat},os[v]?=some (o,l)->(os.filterMap CO).Nodup->(o=some c\/(o=none/\c∉os.filterMap CO))->((os.set v (some c,l')).filterMap CO).Nodup:=by
 induction os with
 |nil=>intro v o l l' c h;simp at h
 |cons q os ih=>
  intro v o l l' c h L6 hc;cases v with
  |zero=>
   simp at h;subst h;rw[List.set_cons_zero];rcases hc with rfl|⟨rfl,hc⟩
   .simpa[List.filterMap_cons]using L6
   .simp only[List.filterMap_cons]at L6 hc⊢;exact CY.2 ⟨hc,L6⟩
  |succ v=>
   simp at h;rw[List.set_cons_succ];cases hq:q.1 with
   |none=>
    simp only[List.filterMap_cons,hq]at L6 hc⊢;exact ih h L6 hc
   |some d=>
    simp only[List.filterMap_cons,hq,CY]at L6 hc⊢
    refine⟨λhm=>?_,ih h L6.2 (by
     rcases hc with h1|⟨h1,h2⟩
     .exact AiL
     .exact .inr ⟨h1,λhx=>h2 (Co _ hx)⟩)⟩
    rcases Rk hm with h1|h1
    .exact L6.1 h1
    .simp only[Ba]at h1;subst h1;rcases hc with rfl|⟨_,h2⟩
     .exact L6.1 (B6.2 ⟨_,Bt h,rfl⟩)
     .exact h2 C8
def ui{s:St}(hf:Ha s){g:Gr}(hg:GS s g){v:Nat}{p:OLI}(hv:g.os[v]?=some p){x:PV}{xs:LI}(hx:x.G1=some (Ku xs))(hn:p.2.length+xs.length<=1000000000){b:Nat}(hb:g.bo=some b):
  ∃y s1 s2 g',I0 (IT 1 8 (IV p) x) s y s1 [] p.1.toList/\y.Iu=true/\I0 (HQ 1 y (.G5 b v)) s1 .undef s2 [] [b]/\fo s g v xs s2 g'/\(∀d,s.heap d≠none->p.1≠some d->s1.heap d=s.heap d)/\s.next<=s1.next/\s2.next=s1.next:=by
 obtain⟨o,l⟩:=p;have hvl:=(Bn.1 hv).1;have mg:(o,l)∈g.os:=Bt hv;obtain⟨c,s1,a1,a2,a3,a4,a5,a6⟩:=Zj hf (hg.Hm _ mg) hx hn
 have dX:s.heap b=some (.LM 1 (g.os.map IV)):=by
  have:=hg.on;unfold Ti at this;rw[hb]at this;exact this
 have ZC:∀{p:OLI} {d:Nat},p∈g.os->p.1=some d->s.heap d=some (.Hm p.2.length 1):=λ{p d} hp hd=>by
  have:=hg.Hm p hp;unfold LK at this;rw[hd]at this;exact this
 have hbc:b≠c:=by
  exact AiI
 have MR:s1.heap b=some (.LM 1 (g.os.map IV)):=(a3 b hbc).trans dX
 have hgc:g.gp≠c:=by
  rcases a4 with⟨h,_⟩|⟨_,h,_⟩
  .exact Ip hg.box (ZC mg h) AD
  .have:=HT hf hg.box;omega
 have oK:g.gp≠b:=Ip hg.box dX AD;have ml:(g.os.map IV).set v (IV (some c,l++xs))=(g.os.set v (some c,l++xs)).map IV:=by rw[E6]
 let g':Gr:={g with os:=g.os.set v (some c,l++xs)}
 have NM:∀d,d≠b->d≠c->(s1.set b (.LM 1 ((g.os.map IV).set v (IV (some c,l++xs))))).heap d=s.heap d:=λd h1 h2=>by rw[Ar h1,a3 d h2]
 refine⟨_,s1,s1.set b (.LM 1 ((g.os.map IV).set v (IV (some c,l++xs)))),g',a1,M6,SN MR M6 (by simpa using hvl),⟨⟨?_,?_,?_,λp hp=>?_,?_⟩,rfl,rfl,rfl,rfl,?_,λd hd=>?_,λd h1 h2 h3=>?_,a6.trans (JO AP),JH a5 AP⟩,λd hd hd2=>?_,a6.next,rfl⟩
 .show _=some (BD [IV (g.ba,g.KO),oM g.bo (g.os.set v (some c,l++xs)).length]);rw[List.length_set,NM _ oK hgc];exact hg.box
 .refine hg.KO.Ir λd hd=>?_;have hd:g.ba=some d:=hd
  have Wz:s.heap d=some (.Hm g.KO.length 1):=by
   have:=hg.KO;unfold LK at this;simp only[hd]at this;exact this
  refine NM d (Ip Wz dX AD) ?_;rintro rfl;rcases a4 with⟨h,_⟩|⟨_,h,_⟩
  .have L6:=hg.nd;rw[hd]at L6;simp only[Option.toList,List.singleton_append,CY]at L6;exact L6.1 (B6.2 ⟨_,mg,h⟩)
  .have:=HT hf Wz;omega
 .show Ti _ g.bo (g.os.set v (some c,l++xs));rw[hb];show(s1.set b _).heap b=some (.LM 1 ((g.os.set v (some c,l++xs)).map IV));rw[Ay,ml]
 .obtain⟨i,hi⟩:∃i,(g.os.set v (some c,l++xs))[i]?=some p:=Dm.1 hp;rw[DQ]at hi;split at hi
  .exact AjI
  .rename_i MT;have hpo:p∈g.os:=Bt hi;refine(hg.Hm p hpo).Ir λd hd=>?_;have hdo:=ZC hpo hd;refine NM d (Ip hdo dX AD) ?_;rintro rfl;rcases a4 with⟨h,_⟩|⟨_,h,_⟩
   .have L6:=(B3.1 hg.nd).2.1;have h1:g.os[v]?=some (o,l):=hv
    have key:∀(os:List (OLI)) (i v:Nat) (p q:OLI),os[i]?=some p->os[v]?=some q->p.1=some d->q.1=some d->(os.filterMap CO).Nodup->i=v:=by
     intro os
     induction os with
     |nil=>intro i v p q h;simp at h
     |cons z os ih=>
      intro i v p q hi hv hp hq L6
      have ADE:(os.filterMap CO).Nodup:=by
       cases hz:z.1 with
       |none=>simpa only[List.filterMap_cons,hz]using L6
       |some e=>simp only[List.filterMap_cons,hz,CY]at L6;exact L6.2
      cases i with
      |zero=>
       cases v with
       |zero=>rfl
       |succ v=>
        exact AhW
      |succ i=>
       cases v with
       |zero=>
        exact AhX
       |succ v=>simp at hi hv;rw[ih i v p q hi hv hp hq ADE]
    exact MT (key g.os i v p (o,l) hi h1 hd h L6).symm
   .have:=HT hf hdo;omega
 .show(g.ba.toList++(g.os.set v (some c,l++xs)).filterMap CO).Nodup;obtain⟨n1,n2,n3⟩:=B3.1 hg.nd;refine B3.2 ⟨n1,qA hv n2 ?_,λa ha d hd=>?_⟩
  .exact Agp
  .rcases Rk hd with h1|h1
   .exact n3 a ha d h1
   .simp only[Ba]at h1;subst h1;rintro rfl;rcases a4 with⟨h,_⟩|⟨_,h,_⟩
    .exact n3 a ha a (B6.2 ⟨_,mg,h⟩) rfl
    .have ha:g.ba=some a:=by simpa using ha
     have Wz:s.heap a=some (.Hm g.KO.length 1):=by
      have:=hg.KO;unfold LK at this;simp only[ha]at this;exact this
     have:=HT hf Wz;omega
 .show(g.os.set v (some c,l++xs)).map Bp=_;unfold NT;rw[E6,Bq,CH,hv];rfl
 .exact Agb
 .refine NM d AdM ?_;exact AiX
 .exact Aht
end
section
open Go.Proofs
def pX(i:Int):LI:=if 0<=i then[i]else[]
def fw{on:LLI}{v:Nat}:NT on v []=on:=by
 unfold NT;rw[CL];by_cases h:v<on.length
 .rw[Bq,BZ h];simp
 .rw[List.set_eq_of_length_le AA]
def fo.refl{s:St}{g:Gr}(hf:Ha s)(hg:GS s g)(v:Nat):fo s g v [] s g:=⟨hg,rfl,rfl,rfl,rfl,fw.symm,λb hb=> .inl hb,λ_ _ _ _=>rfl,IL.refl s,hf⟩
def SK{i j:Int}(h:i<j):al BW .lss 3 (I i) (I j)=some (.bool true):=by show some (BG (decide (i<j)))=_;rw[decide_eq_true h]
def QW{i j:Int}(h:¬i<j):al BW .lss 3 (I i) (I j)=some (.bool false):=by show some (BG (decide (i<j)))=_;rw[decide_eq_false h]
def AOr{X:Mode}{s:St}(hf:Ha s){g:Gr}(hg:GS s g){l:List Sc}{sv:PV}{k:Nat}(hk:k<g.os.length)(n:BA)(hn:∀p,p∈g.os->p.2.length<=900000000)
  (vT:∀kk:F1,kk (I (Rq n l)) s->pC BW X 79 [sv,.HK n] s kk):
  ∃s' g',fo s g k (pX (Rq n l)) s' g'/\∀Q:F1,Q (.tuple []) s'->g77 X Q (.G5 g.gp 0) (I k) sv (.HK n) s:=by
 by_cases hi:0<=Rq n l
 .obtain⟨p,hp⟩:∃p,g.os[k]?=some p:=⟨_,BZ hk⟩
  obtain⟨b,hb,dX⟩:=hg.WJ hk;obtain⟨y,s1,s2,g',a1,a2,a3,a4,a5,a6,a7⟩:=ui hf hg hp (x:=.HC [[I (Rq n l)]]) (xs:=[Rq n l]) rfl (by have:=hn p (Bt hp);simp;omega) hb;refine⟨s2,g',?_,λQ hQ=>?_⟩
  .rw[show pX (Rq n l)=[Rq n l]from Ps hi];exact a4
  .unfold g77;refine vT _ ?_;refine zw ?_;refine cI AcZ ?_;refine zw ?_;refine HA Ad1 ?_;refine zw ?_;refine HA Ad1 ?_;rw[hb];refine HA (LA AA Ag) ?_;refine HA Ad8 ?_;refine zw ?_;refine HA a1 ?_;refine HA (LA AA Ag) ?_;refine HA a3 ?_;refine⟨?_,Ls rfl hQ⟩
   have Yv:∀d,p.1=some d->d≠g.gp:=λd hd=>by
    have:=hg.Hm p (Bt hp);unfold LK at this;rw[hd]at this;exact Ip this hg.box AD
   have hgpn:g.gp<s.next:=HT hf hg.box;simp[Ih,I6,Jv,It];have no:∀{A:Prop} {m j:Nat},Ep m j=true->Ep m j=false->A:=λh h'=>by rw[h]at h';cases h'
   exact⟨⟨λ_=>⟨λh=>Yv _ h rfl,λh=>by omega⟩,no AF,no AF⟩,no AF,no AF,by kernel_rfl,no AF⟩
 .refine⟨s,g,?_,λQ hQ=>?_⟩
  .rw[show pX (Rq n l)=[]from Ng hi];exact fo.refl hf hg k
  .unfold g77;refine vT _ ?_;refine zw ?_;refine cH AcZ ?_;refine zw ?_;exact Ls rfl hQ
def ABQ{E:Xg}{s:St}(hf:Ha s){g:Gr}(hg:GS s g){l:List Sc}{sv:PV}(hc:LJ s sv l){k:Nat}(hk:k<g.os.length)(n:BA)(hn:∀p,p∈g.os->p.2.length<=900000000):
  ∃s' g',SC E BW 77 [.G5 g.gp 0,I k,sv,.HK n] s (.tuple []) s'/\fo s g k (pX (Rq n l)) s' g':=by
 obtain⟨s',g',h1,h2⟩:=AOr (X:=.lZ E) hf hg hk n hn (l:=l) (sv:=sv) λkk h=>AYh (AA8 hf hc n) h;obtain⟨r,s'',h3,rfl,rfl⟩:=(AOd _ _ _ _ _ (h2 (λr s''=>r=.tuple []/\s''=s') ⟨rfl,rfl⟩)).sc hf Ab4;exact⟨_,g',h3,h1⟩
end
section
open Go.Proofs
section
variable{s s0:St} {fp:LN}
def GS.PR{g':Gr}(h:GS s0 g')(hf:Ha s0)(hi:∀b,b∈g'.It->b∈fp\/s.next<=b):GS (PR s fp s0) g':=
 h.Ir λb hb=>RU (by
  rcases hi b hb with h1|h1
  .exact AiL
  .exact .inr ⟨h1,h.lt hf hb⟩)
def cy{b:Nat}(h:b∉fp)(hl:b<s.next):(PR s fp s0).heap b=s.heap b:=NB h λhc=>by omega
def cw(hf:Ha s)(h0:Ha s0)(hn:s.next<=s0.next)(Xr:∀b,b∈fp->b<s.next):Ha (PR s fp s0):=λb hb=>by
 have hb:s0.next<=b:=hb;rw[NB (λh=>by have:=Xr b h;omega) AA];exact hf b AA
def ZL(Xr:∀b,b∈fp->s.heap b≠none)(hn:s.next<=s0.next):IL s (PR s fp s0):=⟨hn,λb hb hh=>by
 rw[NB (λh=>Xr b h hh) AA];exact hh⟩
end
def GS.IY{s:St}{g:Gr}(h:GS s g){fp:LN}(Xr:∀b,b∈g.It->b∈fp):GS (IY s fp) g:=h.Ir λb hb=>Pj (Xr b hb)
def LJ.Ir{s s':St}{v:PV}{l:List Sc}(h:LJ s v l)(hk:∀b,b∈MI l->s'.heap b=s.heap b):LJ s' v l:=by
 induction h with
 |nil=>exact .nil
 |cons sp mp M v r h1 h2 h3 h4 ih=>
  exact .cons sp mp M v r ((hk sp Ach).trans h1) ((hk mp Ach).trans h2) h3 (ih λb hb=>hk b (by simp[MI,hb]))
def LJ.kind{s:St}{v:PV}{l:List Sc}(h:LJ s v l){b:Nat}(hb:b∈MI l):(∃mp v,s.heap b=some (.box [.map mp,v]))\/∃M,s.heap b=some (.map M):=by
 induction h with
 |nil=>simp[MI]at hb
 |cons sp mp M v r h1 h2 h3 h4 ih=>
  simp only[MI,Bz]at hb;rcases hb with rfl|rfl|hb
  .exact .inl ⟨_,_,h1⟩
  .exact .inr ⟨_,h2⟩
  .exact ih hb
def LJ.lt{s:St}(hf:Ha s){v:PV}{l:List Sc}(h:LJ s v l){b:Nat}(hb:b∈MI l):b<s.next:=by rcases h.kind hb with⟨_,_,h⟩|⟨_,h⟩<;>exact HT hf h
def LJ.QF{s:St}{v:PV}{l:List Sc}(h:LJ s v l){g:Gr}(hg:GS s g){b:Nat}(hb:b∈MI l):b∉g.It:=by
 intro hm;rcases hg.kind hm with⟨_,hh⟩|⟨_,hh⟩|⟨n,hh⟩<;>rcases h.kind hb with⟨_,_,h2⟩|⟨_,h2⟩<;>rw[hh]at h2<;>try(cases h2;done)
 simp only[Ba,Obj.box.injEq,GC,and_true]at h2;have:=h2.1;unfold IV at this;split at this<;>cases this
def KU{A:Prop}{m j:Nat}(h:Ep m j=true):Ep m j=false->A:=λh'=>by rw[h]at h';cases h'
def Q6(M:ML)(k:Nat):List HM->ML
 |[]=>M
 |v::r=>Q6 (Qz (.s v.name) k M) (k+1) r
def wI{n:BA}{i:Int}:∀{M:ML},M.all (λp=>(BU default).QV p.1)=true->(Qz (.s n) i M).all (λp=>(BU default).QV p.1)=true
 |[],_=>rfl
 |(k,v)::r,h=>by
  simp only[Cl,Bk]at h;unfold Qz;cases BF (.s n) k with
  |true=>simp only[cond_true,Cl,h.2,Bool.and_true];rfl
  |false=>simp only[cond_false,Cl,h.1,wI h.2,Bool.and_true]
def z8{s:St}(hf:Ha s){g:Gr}(hg:GS s g)(hn:g.os.length<=100000)(ha:g.KO.length=g.os.length){sp mp:Nat}{M:ML}{r:List Sc}(hc:LJ s (.G5 sp 0) ((sp,mp,M)::r))(L6:(MI ((sp,mp,M)::r)).Nodup){l:List HM}{i:Nat}{v:HM}(hv:l[i]?=some v)(hl:l.length<=100000):
  ∃s' g',GS s' g'/\g'.gp=g.gp/\g'.KO=g.KO++[v.HI]/\g'.os=g.os++[(none,[])]/\LJ s' (.G5 sp 0) ((sp,mp,Qz (.s v.name) g.os.length M)::r)/\IL s s'/\Ha s'/\(∀b,b∈g'.It->b∈g.It\/s.next<=b)/\(∀b,b∉g.It->b≠mp->b<s.next->s'.heap b=s.heap b)/\
   ∀{Q:F1} {W:PV->PV->PV->PV->PV->F1},W (.G5 g.gp 0) (.G5 sp 0) (.HC (l.map Ao)) (.HC (l.map Ao)) (I l.length) (I (i+1:Nat)) s'->ep (.Im .Lp) Q W (.G5 g.gp 0) (.G5 sp 0) (.HC (l.map Ao)) (.HC (l.map Ao)) (I l.length) (I i) s:=by
 have SX:i<l.length:=(Bn.1 hv).1;cases hc with
 |cons _ _ _ pv _ h1 h2 h3 h4=>
 have vk:=HT hf h1;have hmp:=HT hf h2;have AX3:sp≠mp:=Ip h1 h2 AD;have jF:LJ s (.G5 sp 0) ((sp,mp,M)::r):=.cons sp mp M pv r h1 h2 h3 h4;obtain⟨s2,K9⟩:∃s2,s2=(s.new (.box [(.HK ⟨#[]⟩),(I 0),(I 0),.nil,(I 0)])).set s.next (.box v.Gy):=⟨_,rfl⟩
 have Jr:∀b,b<s.next->s2.heap b=s.heap b:=λb hb=>by rw[K9,Ar AA,Av rfl AA]
 have fE:s2.next=s.next+1:=by rw[K9];rfl
 have OK:Ha s2:=by rw[K9];exact JH (IW hf) AI
 have MK:s2.heap s.next=some (.box v.Gy):=by rw[K9];exact Ay
 have T7:GS s2 g:=hg.Ir λb hb=>Jr b (hg.lt hf hb);have sP:IL s s2:=by rw[K9];exact I9.trans (JO AI)
 obtain⟨s0,g',c1,c2,c3,c4,c5,c6,c7,c8,c9,c10⟩:=ANL (E:=.Lp) (s:=IY s2 g.It) OK.IY (T7.IY λ_ h=>h) hn ha v.HI;have Xr:uF s2 g.It:=λb hb=>T7.fp OK (λ_ h=>h) hb;have xW:s2.next<=s0.next:=c9.next;obtain⟨s3,UA⟩:∃s3,s3=PR s2 g.It s0:=⟨_,rfl⟩
 have hn3:s3.next=s0.next:=by rw[UA];rfl
 have aO:Ha s3:=by rw[UA];exact cw OK c10 xW λb hb=>(Xr b hb).1
 have hG3:IL s2 s3:=by rw[UA];exact ZL (λb hb=>by obtain⟨_,o,h,_⟩:=Xr b hb;rw[h];simp) xW
 have xV:GS s3 g':=by rw[UA];exact c2.PR c10 c7
 have bP:∀b,b∉g.It->b<s2.next->s3.heap b=s2.heap b:=λb h1 h2=>by rw[UA];exact cy h1 h2
 have hmi:=jF.QF hg (b:=mp) Ach;have hsi:=jF.QF hg (b:=sp) Ach;have cV:s3.heap mp=some (.map M):=by rw[bP mp hmi AA,Jr mp hmp];exact h2
 have tv:s.next∉g.It:=λh=>by have:=hg.lt hf h;omega
 obtain⟨s4,bQ⟩:∃s4,s4=s3.set mp (.map (Qz (.s v.name) g.os.length M)):=⟨_,rfl⟩
 have hm4:mp∉g'.It:=λh=>by
  rcases c7 mp h with h|h
  .exact hmi h
  .have:(IY s2 g.It).next=s2.next:=rfl;omega
 have pZ:∀b,b∉g.It->b≠mp->b<s.next->s4.heap b=s.heap b:=λb h1 h2 h3=>by rw[bQ,Ar h2,bP b h1 AA,Jr b h3]
 refine⟨s4,g',?_,c3,c4,c5,?_,?_,?_,λb hb=>?_,pZ,?_⟩
 .exact xV.Ir λb hb=>by rw[bQ,Ar (by rintro rfl;exact hm4 hb)]
 .refine .cons sp mp _ pv r ((pZ sp hsi AX3 vk).trans h1) (by rw[bQ];exact Ay) (wI h3) (h4.Ir λb hb=>?_);have Py:b∈MI ((sp,mp,M)::r):=by simp[MI,hb]
  refine pZ b (jF.QF hg Py) ?_ (jF.lt hf Py);rintro rfl;simp[MI,hb]at L6
 .rw[bQ];exact(sP.trans hG3).trans (JO (by rw[cV];simp))
 .rw[bQ];exact JH aO (by rw[cV];simp)
 .rcases c7 b hb with h|h
  .exact .inl h
  .have:(IY s2 g.It).next=s2.next:=rfl;exact AiM
 .intro Q W hW;unfold ep;refine zw ?_;refine cI Ah ?_;refine Gu Adm ?_;refine zw ?_;rw[<- K9];refine AHL g.It AD (λ_ _ _=>trivial) (WkL.refl _) (by simp[Lc,Kh,Gr.It]) c1 Xr ?_;rw[<- UA];refine HA (AMx rfl (nC v.name) cV (m7 h3)) ?_;rw[<- bQ];refine⟨?_,?_⟩
  .simp[Ih,I6,Jv,It];exact⟨⟨λ_=>⟨hsi,λh=>by omega⟩,λ_=>⟨tv,λh=>by omega⟩,KU AF⟩,KU AF,KU AF,KU AF,KU AF⟩
  .apply Gu
   .exact AfX
   exact hW
end
section
open Go.Proofs
def LJ.fp{s:St}(hf:Ha s){fp:LN}:∀{v:PV} {l:List Sc},LJ s v l->(∀b,b∈MI l->b∈fp)->(Kh (λb=>fp.contains b) v=true)/\∀{b},b∈MI l->b<s.next/\∃o,s.heap b=some o/\o.ZF=false/\o.Kh (λb=>fp.contains b)=true
 |_,_,.nil,_=>⟨by unfold Kh;rfl,λh=>by simp[MI]at h⟩
 |_,_,.cons sp mp M v r h1 h2 h3 h4,hs=>by
  obtain⟨k1,k2⟩:=LJ.fp hf h4 λb hb=>hs b (by simp[MI,hb]);refine⟨by unfold Kh;simpa using hs sp Ach,λ{b} hb=>?_⟩;simp only[MI,Bz]at hb;rcases hb with rfl|rfl|hb
  .refine⟨HT hf h1,_,h1,rfl,Vv λx hx=>?_⟩;simp only[Bz,DY,or_false]at hx;rcases hx with rfl|rfl
   .unfold Kh;simpa using hs mp Ach
   .exact k1
  .exact⟨HT hf h2,_,h2,rfl,rfl⟩
  .exact k2 hb
def LJ.IY{s:St}{v:PV}{l:List Sc}(h:LJ s v l){fp:LN}(Xr:∀b,b∈MI l->b∈fp):LJ (IY s fp) v l:=h.Ir λb hb=>Pj (Xr b hb)
def Gr.ALB{g:Gr}{b:Nat}(h:b∈g.Hm):b∈g.It:=by simp only[Gr.It,Bz,Bg];exact AkS
def fo.It{s s':St}{g g':Gr}{v:Nat}{xs:LI}(h:fo s g v xs s' g'){b:Nat}(hb:b∈g'.It):b∈g.It\/s.next<=b:=Afk
def fo.len{s s':St}{g g':Gr}{v:Nat}{xs:LI}(h:fo s g v xs s' g'):g'.os.length=g.os.length:=by have:=congrArg List.length h.on;simpa[NT]using this
def AC6{X:Mode}(hX:X=.Im .Lp\/X=.lZ .Lp){s:St}(hf:Ha s){g:Gr}(hg:GS s g){l:List Sc}{sv:PV}(hc:LJ s sv l){k:Nat}(hk:k<g.os.length)(n:BA)(hn:∀p,p∈g.os->p.2.length<=900000000):
  ∃s' g',fo s g k (pX (Rq n l)) s' g'/\∀kl:KL,kl (.tuple []) s' [] (g.It++MI l)->Rs BW X 77 [.G5 g.gp 0,I k,sv,.HK n] s kl:=by
 have Xr:uF s (g.It++MI l):=λb hb=>by
  rcases Bg.1 hb with h|h
  .exact hg.fp hf (λb hb=>by simp[hb]) h
  .exact(hc.fp hf (fp:=g.It++MI l) (λb hb=>by simp[hb])).2 h
 obtain⟨s0,g',c1,c2⟩:=ABQ (E:=.Lp) (s:=IY s (g.It++MI l)) hf.IY (hg.IY λb hb=>by simp[hb]) (hc.IY λb hb=>by simp[hb]) hk n hn;have xW:s.next<=s0.next:=c2.Ki.next;refine⟨PR s (g.It++MI l) s0,g',⟨c2.gs.PR c2.Lq λb hb=>?_,c2.gp,c2.ba,c2.KO,c2.bo,c2.on,c2.Hm,λb h1 h2 h3=>?_,ZL (λb hb=>by obtain⟨_,o,h,_⟩:=Xr b hb;rw[h];simp) xW,cw hf c2.Lq xW λb hb=>(Xr b hb).1⟩,λkl fk=>?_⟩
 .rcases c2.It hb with h|h
  .exact .inl Al
  .exact .inr h
 .by_cases hm:b∈g.It++MI l
  .rw[RU (.inl hm),c2.Ir b h1 h2 h3,Pj hm]
  .exact cy hm h3
 .refine AHL _ Ack Abu (WkL.refl _) ?_ AcQ Xr fk;unfold Lc Lc Lc Lc Lc;rw[(hc.fp hf (fp:=g.It++MI l) (λb hb=>by simp[hb])).1];simp[Kh,Gr.It]
def toList_inj{a b:BA}(h:a.toList=b.toList):a=b:=by have:=congrArg List.toArray h;cases a;cases b;simp_all [FZ]
def kC{n:BA}:BF (.s n) (.s n)=true:=by simp[BF]
def AMl{n n':BA}(h:n'≠n):BF (.s n') (.s n)=false:=by simp only[BF,beq_eq_false_iff_ne,ne_eq];intro hh;exact h (toList_inj hh)
def ABa{n:BA}{k:KD}(h:BF (.s n) k=true):k=.s n:=by
 cases k with
 |i _=>cases h
 |s m=>simp only[BF,beq_iff_eq]at h;rw[toList_inj h]
def Vp{n n':BA}{i:Int}:∀{M:ML},Ko (.s n') (Qz (.s n) i M)=if n'=n then some i else Ko (.s n') M
 |[]=>by
  by_cases h:n'=n
  .subst h;simp[Qz,Ko,kC]
  .simp[Qz,Ko,AMl h,h]
 |(k,v)::r=>by
  unfold Qz;cases hk:BF (.s n) k with
  |true=>
   have:=ABa hk;subst this;by_cases h:n'=n
   .subst h;simp[Ko,kC]
   .simp[Ko,AMl h,h]
  |false=>
   simp only[cond_false,Ko];cases Ta:BF (.s n') k with
   |true=>
    have:=ABa Ta;subst this;have h:n'≠n:=by rintro rfl;rw[kC]at hk;cases hk
    simp[h]
   |false=>simp only[cond_false];exact Vp
def XJ{n:BA}:∀{l:List HM} {M:ML} {k:Nat},(∀v,v∈l->v.name≠n)->Ko (.s n) (Q6 M k l)=Ko (.s n) M
 |[],_,_,_=>rfl
 |v::r,M,k,h=>by
  rw[Q6,XJ λv hv=>h v Ak,Vp,Ng λe=>h v AD e.symm]
def fT:∀{l:List HM} {M:ML} {k:Nat} {v:HM},v∈l->∃j:Nat,k<=j/\j<k+l.length/\Ko (.s v.name) (Q6 M k l)=some (j:Int)
 |[],_,_,v,h=>by simp at h
 |w::r,M,k,v,h=>by
  by_cases hr:∃u,u∈r/\u.name=v.name
  .obtain⟨u,hu,he⟩:=hr;obtain⟨j,h1,h2,h3⟩:=fT (M:=Qz (.s w.name) k M) (k:=k+1) hu;exact⟨j,AA,by simp;omega,by rw[Q6,<- he];exact h3⟩
  .have hvw:v=w:=by
    rcases Bz.1 h with h|h
    .exact h
    .exact Zq ⟨v,h,rfl⟩ hr
   subst hvw;refine⟨k,Bd _,AD,?_⟩;rw[Q6,XJ λu hu he=>hr ⟨u,hu,he⟩,Vp,Ps rfl]
end
section
open Go.Proofs
structure OU (s:St) (g:Gr) (s':St) (g':Gr):Prop where
 gs:GS s' g'
 gp:g'.gp=g.gp
 ba:g'.ba=g.ba
 KO:g'.KO=g.KO
 bo:g'.bo=g.bo
 len:g'.os.length=g.os.length
 Hm:∀b,b∈g'.Hm->b∈g.Hm\/s.next<=b
 Ir:∀b,g.bo≠some b->b∉g.Hm->b<s.next->s'.heap b=s.heap b
 Ki:IL s s'
 Lq:Ha s'
def fo.ZI{s s':St}{g g':Gr}{v:Nat}{xs:LI}(h:fo s g v xs s' g'):OU s g s' g':=⟨h.gs,h.gp,h.ba,h.KO,h.bo,h.len,h.Hm,h.Ir,h.Ki,h.Lq⟩
def OU.refl{s:St}{g:Gr}(hf:Ha s)(hg:GS s g):OU s g s g:=⟨hg,rfl,rfl,rfl,rfl,rfl,λ_ h=> .inl h,λ_ _ _ _=>rfl,IL.refl s,hf⟩
def OU.trans{s1 s2 s3:St}{g1 g2 g3:Gr}(h:OU s1 g1 s2 g2)(k:OU s2 g2 s3 g3):OU s1 g1 s3 g3:=
 have hn:=h.Ki.next
 ⟨k.gs,k.gp.trans h.gp,k.ba.trans h.ba,k.KO.trans h.KO,k.bo.trans h.bo,k.len.trans h.len,λb hb=>by
  rcases k.Hm b hb with h1|h1
  .exact h.Hm b h1
  .exact .inr (CD hn h1),λb h1 h2 h3=>by
   rw[k.Ir b (by rw[h.bo];exact h1) (λhm=>by
    rcases h.Hm b hm with h4|h4
    .exact h2 h4
    .omega) (Cw h3 hn)]
   exact h.Ir b h1 h2 h3,h.Ki.trans k.Ki,k.Lq⟩
def OU.at{s s':St}{g g':Gr}(h:OU s g s' g'){b:Nat}(h1:b∉g.It)(h2:b<s.next):s'.heap b=s.heap b:=h.Ir b (λe=>h1 (by simp[Gr.It,e])) (λe=>h1 (Gr.ALB e)) h2
def OU.It{s s':St}{g g':Gr}(h:OU s g s' g'){b:Nat}(hb:b∈g'.It):b∈g.It\/s.next<=b:=Afk
def OU.chain{s s':St}{g g':Gr}(h:OU s g s' g')(hf:Ha s)(hg:GS s g){v:PV}{l:List Sc}(hc:LJ s v l):LJ s' v l:=hc.Ir λb hb=>h.at (hc.QF hg hb) (hc.lt hf hb)
def OU.MZ{s s1 s':St}{g g':Gr}(h:OU s1 g s' g')(hf:Ha s)(hg:GS s g)(hG:IL s s1)(hk:∀b,b<s.next->s1.heap b=s.heap b):OU s g s' g':=
 ⟨h.gs,h.gp,h.ba,h.KO,h.bo,h.len,λb hb=>by
  rcases h.Hm b hb with h1|h1
  .exact AiL
  .exact .inr (CD hG.next h1),λb h1 h2 h3=>(h.Ir b h1 h2 (Cw h3 hG.next)).trans (hk b h3),hG.trans h.Ki,h.Lq⟩
def Lg(on:LLI)(T:Nat):Prop:=∀l,l∈on->l.length<=T
def Pv{on:LLI}{v T:Nat}{xs:LI}(h:Lg on T):Lg (NT on v xs) (T+xs.length):=λl hl=>by
 rcases Ee hl with h1|rfl
 .have:=h l h1;omega
 .rw[Bf];by_cases hv:v<on.length
  .rw[Bq,BZ hv];have:=h _ (Bl hv);exact Afx
  .rw[Bq,CA AA];simp
def sR{i:Int}:(pX i).length<=1:=by unfold pX;split<;>simp
def Lg.mono{on:LLI}{T T':Nat}(h:Lg on T)(hT:T<=T'):Lg on T':=λl hl=>CD (h l hl) hT
def Lg.os{g:Gr}{T:Nat}(h:Lg (g.os.map Bp) T)(hT:T<=900000000):∀p,p∈g.os->p.2.length<=900000000:=λp hp=>CD (h _ (B8.2 ⟨p,hp,rfl⟩)) hT
def z9{s:St}(hf:Ha s){g:Gr}(hg:GS s g){sp mp:Nat}{M:ML}{r:List Sc}(hc:LJ s (.G5 sp 0) ((sp,mp,M)::r)){v:HM}{bv:Nat}(hbv:s.heap bv=some (.box v.Gy))(tv:bv∉g.It){k:Nat}(hm:Ko (.s v.name) M=some (k:Int))(hk:k<g.os.length)
  {i:Nat}{x:Edge}(hx:v.HH[i]?=some x)(hl:v.HH.length<=17){T:Nat}(hT:Lg (g.os.map Bp) T)(RP:T<=900000000):
  ∃s' g',OU s g s' g'/\g'.os.map Bp=NT (g.os.map Bp) k (pX (Rq x.name ((sp,mp,M)::r)))/\
   ∀{Q:F1} {w8:PV->PV->PV->PV->F1} {W:PV->PV->PV->PV->PV->PV->PV->PV->F1} {a b c:PV},W (.G5 g.gp 0) (.G5 sp 0) (.G5 bv 0) a b c (.HC (v.HH.map A9)) (I v.HH.length) (I (i+1:Nat)) s'->
    jx (.Im .Lp) Q w8 W (.G5 g.gp 0) (.G5 sp 0) (.G5 bv 0) a b c (.HC (v.HH.map A9)) (I v.HH.length) (I i) s:=by
 have SX:i<v.HH.length:=(Bn.1 hx).1;have jF:=hc;cases hc with
 |cons _ _ _ pv _ h1 h2 h3 h4=>
 have vk:=HT hf h1;have hmp:=HT hf h2;have hbl:=HT hf hbv;obtain⟨s2,K9⟩:∃s2,s2=(s.new (.box [(.HK ⟨#[]⟩),(.bool false)])).set s.next (.box x.Gy):=⟨_,rfl⟩
 have Jr:∀b,b<s.next->s2.heap b=s.heap b:=λb hb=>by rw[K9,Ar AA,Av rfl AA]
 have fE:s2.next=s.next+1:=by rw[K9];rfl
 have OK:Ha s2:=by rw[K9];exact JH (IW hf) AI
 have MK:s2.heap s.next=some (.box x.Gy):=by rw[K9];exact Ay
 have T7:GS s2 g:=hg.Ir λb hb=>Jr b (hg.lt hf hb);have sP:IL s s2:=by rw[K9];exact I9.trans (JO AI)
 have Ro:LJ s2 (.G5 sp 0) ((sp,mp,M)::r):=jF.Ir λb hb=>Jr b (jF.lt hf hb);have AUH:s2.heap sp=some (.box [.map mp,pv]):=(Jr sp vk).trans h1;have y9:s2.heap mp=some (.map M):=(Jr mp hmp).trans h2;have hbv2:s2.heap bv=some (.box v.Gy):=(Jr bv hbl).trans hbv;obtain⟨s3,g',c1,c2⟩:=AC6 (.inl rfl) OK T7 Ro hk x.name (hT.os RP);refine⟨s3,g',c1.ZI.MZ hf hg sP Jr,c1.on,λ{Q w8 W a b c} hW=>?_⟩;unfold jx;refine zw ?_;refine cI Ah ?_;refine Gu (HU AA (Gy:=x.Gy) (by simp[hx]) rfl) ?_;refine zw ?_;rw[<- K9];refine HA (nN rfl (nC v.name) y9 (m7 h3) (by rw[hm])) ?_;refine zw ?_;refine c2 _ ?_;refine⟨?_,?_⟩
 .simp[Ih,I6,Jv,It];exact⟨KU AF,KU AF,KU AF,KU AF⟩
 .apply Gu
  .exact AfX
  exact hW
def iy(ch:List Sc)(k:Nat)(on:LLI)(l:List Edge):LLI:=l.foldl (λon x=>NT on k (pX (Rq x.name ch))) on
def cG{ch:List Sc}{k:Nat}:∀{l:List Edge} {on:LLI} {T:Nat},Lg on T->Lg (iy ch k on l) (T+l.length)
 |[],_,_,h=>h
 |x::l,on,T,h=>by
  have:=cG (ch:=ch) (k:=k) (l:=l) ((Pv (v:=k) (xs:=pX (Rq x.name ch)) h).mono (Fa sR T));exact Ajb
def nT{sp mp:Nat}{M:ML}{r:List Sc}{v:HM}{bv:Nat}{k:Nat}(hm:Ko (.s v.name) M=some (k:Int))(hl:v.HH.length<=17):∀(n i:Nat),v.HH.length-i=n->i<=v.HH.length->
  ∀{s:St} (hf:Ha s) {g:Gr} (hg:GS s g) (hc:LJ s (.G5 sp 0) ((sp,mp,M)::r)) (hbv:s.heap bv=some (.box v.Gy)) (tv:bv∉g.It) (hk:k<g.os.length) {T:Nat} (hT:Lg (g.os.map Bp) T) (RP:T+n<=900000000),
  ∃s' g',OU s g s' g'/\g'.os.map Bp=iy ((sp,mp,M)::r) k (g.os.map Bp) (v.HH.drop i)/\
   ∀{Q:F1} {w8:PV->PV->PV->PV->F1} {a b c:PV},sC (.Im .Lp) Q w8 (.G5 g.gp 0) (.G5 sp 0) a b c s'->
    ∃m,mL (.Im .Lp) Q w8 m (.G5 g.gp 0) (.G5 sp 0) (.G5 bv 0) a b c (.HC (v.HH.map A9)) (I v.HH.length) (I i) s
 |0,i,hi,O4,s,hf,g,hg,hc,hbv,tv,hk,T,hT,RP=>by
  refine⟨s,g,.refl hf hg,by rw[CT AA];rfl,λ{Q w8 a b c} h=>⟨1,?_⟩⟩;unfold mL jx;refine zw ?_;refine cH AB ?_;exact h
 |n+1,i,hi,O4,s,hf,g,hg,hc,hbv,tv,hk,T,hT,RP=>by
  have H5:i<v.HH.length:=AA;obtain⟨s1,g1,c1,c2,c3⟩:=z9 hf hg hc hbv tv hm hk (BZ H5) hl hT AA;have hbl:=HT hf hbv
  obtain⟨s2,g2,d1,d2,d3⟩:=nT hm hl n (i+1) AA H5 c1.Lq c1.gs (c1.chain hf hg hc) ((c1.at tv hbl).trans hbv) (λh=>by
   rcases c1.It h with h1|h1
   .exact tv h1
   .omega) (by rw[c1.len];exact hk) (T:=T+1) (by rw[c2];exact(Pv hT).mono (Fa sR T)) AA
  refine⟨s2,g2,c1.trans d1,?_,λ{Q w8 a b c} h=>?_⟩
  .rw[d2,c2,Bx H5];rfl
  .rw[c1.gp]at d3;obtain⟨m,y8⟩:=d3 h;exact⟨m+1,c3 y8⟩
end
section
open Go.Proofs
def vq(M:ML)(n:BA):Nat:=((Ko (.s n) M).getD 0).toNat
def Sh(ch:List Sc)(M:ML)(on:LLI)(l:List HM):LLI:=l.foldl (λon v=>iy ch (vq M v.name) on v.HH) on
def Yi{ch:List Sc}{M:ML}:∀{l:List HM} {on:LLI} {T:Nat},(∀v,v∈l->v.HH.length<=17)->Lg on T->Lg (Sh ch M on l) (T+17*l.length)
 |[],_,_,_,h=>h
 |v::l,on,T,hv,h=>by
  have:=Yi (ch:=ch) (M:=M) (l:=l) (λu hu=>hv u AdT) (cG (ch:=ch) (k:=vq M v.name) (l:=v.HH) h);have hc:=hv v AD;exact Ajb
def qM{sp mp:Nat}{M:ML}{r:List Sc}{l:List HM}(hl:l.length<=100000)(hv:∀v,v∈l->v.HH.length<=17):∀(n i:Nat),l.length-i=n->i<=l.length->
  ∀{s:St} (hf:Ha s) {g:Gr} (hg:GS s g) (hc:LJ s (.G5 sp 0) ((sp,mp,M)::r)) (hm:∀v,v∈l->∃k:Nat,Ko (.s v.name) M=some (k:Int)/\k<g.os.length) {T:Nat} (hT:Lg (g.os.map Bp) T) (RP:T+17*n<=900000000),
  ∃s' g',OU s g s' g'/\g'.os.map Bp=Sh ((sp,mp,M)::r) M (g.os.map Bp) (l.drop i)/\
   ∀{Q:F1},Q (.tuple []) s'->∃m,jA (.Im .Lp) Q m (.G5 g.gp 0) (.G5 sp 0) (.HC (l.map Ao)) (I l.length) (I i) s
 |0,i,hi,O4,s,hf,g,hg,hc,hm,T,hT,RP=>by
  refine⟨s,g,.refl hf hg,by rw[CT AA];rfl,λ{Q} h=>⟨1,?_⟩⟩;unfold jA yg;refine zw ?_;refine cH AB ?_;exact Ls rfl h
 |n+1,i,hi,O4,s,hf,g,hg,hc,hm,T,hT,RP=>by
  have H5:i<l.length:=AA;obtain⟨v,cZ⟩:∃v,v=l[i]:=⟨_,rfl⟩
  have hvi:l[i]?=some v:=by rw[cZ];exact BZ H5
  have hvm:v∈l:=Bt hvi;obtain⟨k,Mv,Jr⟩:=hm v hvm;obtain⟨s2,K9⟩:∃s2,s2=(s.new (.box [(.HK ⟨#[]⟩),(I 0),(I 0),.nil,(I 0)])).set s.next (.box v.Gy):=⟨_,rfl⟩
  have hkk:∀b,b<s.next->s2.heap b=s.heap b:=λb hb=>by rw[K9,Ar AA,Av rfl AA]
  have fE:s2.next=s.next+1:=by rw[K9];rfl
  have OK:Ha s2:=by rw[K9];exact JH (IW hf) AI
  have MK:s2.heap s.next=some (.box v.Gy):=by rw[K9];exact Ay
  have T7:GS s2 g:=hg.Ir λb hb=>hkk b (hg.lt hf hb);have sP:IL s s2:=by rw[K9];exact I9.trans (JO AI)
  have Ro:LJ s2 (.G5 sp 0) ((sp,mp,M)::r):=hc.Ir λb hb=>hkk b (hc.lt hf hb);have RF:=hv v hvm;obtain⟨s3,g3,c1,c2,c3⟩:=nT Mv RF v.HH.length 0 AA AA OK T7 Ro MK (λh=>by have:=hg.lt hf h;omega) Jr hT AA;have c1':OU s g s3 g3:=c1.MZ hf hg sP hkk;obtain⟨s4,g4,d1,d2,d3⟩:=qM hl hv n (i+1) AA H5 c1.Lq c1.gs (c1'.chain hf hg hc) (λu hu=>by rw[c1.len];exact hm u hu) (T:=T+17) (by rw[c2];exact(cG hT).mono AB) AA;refine⟨s4,g4,c1'.trans d1,?_,λ{Q} h=>?_⟩
  .rw[d2,c2,Bx H5,<- cZ];simp only[Sh,List.foldl_cons,Cv];rw[show vq M v.name=k by simp[vq,Mv]]
  .rw[c1.gp]at d3;obtain⟨m,y8⟩:=d3 h;refine⟨m+1,?_⟩;unfold jA yg;refine zw ?_;refine cI AdJ ?_;refine Gu Aeo ?_;refine zw ?_;rw[<- K9,BX];refine c3 (Q:=Q) ?_;unfold sC;apply Gu
   .exact AfX
   exact y8
def qL{sp mp:Nat}{r:List Sc}{l:List HM}(hl:l.length<=100000):∀(n i:Nat),l.length-i=n->i<=l.length->
  ∀{s:St} (hf:Ha s) {g:Gr} (hg:GS s g) (hn:g.os.length+n<=100000) (ha:g.KO.length=g.os.length) {M:ML} (hc:LJ s (.G5 sp 0) ((sp,mp,M)::r)) (L6:(MI ((sp,mp,M)::r)).Nodup),
  ∃s' g',GS s' g'/\g'.gp=g.gp/\g'.KO=g.KO++(l.drop i).map HM.HI/\g'.os=g.os++(l.drop i).map (λ_=>(none,[]))/\LJ s' (.G5 sp 0) ((sp,mp,Q6 M g.os.length (l.drop i))::r)/\IL s s'/\Ha s'/\(∀b,b∈g'.It->b∈g.It\/s.next<=b)/\(∀b,b∉g.It->b≠mp->b<s.next->s'.heap b=s.heap b)/\
   ∀{Q:F1},ABB (.Im .Lp) Q (.G5 g.gp 0) (.G5 sp 0) (.HC (l.map Ao)) s'->∃m,ek (.Im .Lp) Q m (.G5 g.gp 0) (.G5 sp 0) (.HC (l.map Ao)) (.HC (l.map Ao)) (I l.length) (I i) s
 |0,i,hi,O4,s,hf,g,hg,hn,ha,M,hc,L6=>by
  rw[CT AA];refine⟨s,g,hg,rfl,AD,AD,hc,IL.refl s,hf,λb h=> .inl h,λ_ _ _ _=>rfl,λ{Q} h=>⟨1,?_⟩⟩;unfold ek ep;refine zw ?_;refine cH AB ?_;exact h
 |n+1,i,hi,O4,s,hf,g,hg,hn,ha,M,hc,L6=>by
  have H5:i<l.length:=AA;obtain⟨s1,g1,c1,c2,c3,c4,c5,c6,c7,c8,c9,c10⟩:=z8 hf hg AA ha hc L6 (BZ H5) hl;have hgl:g1.os.length=g.os.length+1:=by rw[c4];simp
  obtain⟨s2,g2,d1,d2,d3,d4,d5,d6,d7,d8,d9,d10⟩:=qL hl n (i+1) AA H5 c7 c1 AA (by rw[c3,hgl];simp[ha]) c5 L6;rw[Bx H5];have hnx:=c6.next;refine⟨s2,g2,d1,d2.trans c2,by rw[d3,c3,GQ,CN];rfl,by rw[d4,c4,GQ,CN];rfl,?_,c6.trans d6,d7,λb hb=>?_,λb h1 h2 h3=>?_,λ{Q} h=>?_⟩
  .rw[Q6,<- hgl];exact d5
  .rcases d8 b hb with h|h
   .exact c8 b h
   .exact AiM
  .rw[d9 b (λh=>by
    rcases c8 b h with h|h
    .exact h1 h
    .omega) h2 AA]
   exact c9 b h1 h2 h3
  .rw[c2]at d10;obtain⟨m,hm⟩:=d10 h;exact⟨m+1,c10 hm⟩
structure Put (s:St) (g:Gr) (sp mp:Nat) (M:ML) (r:List Sc) (l:List HM) (s':St) (g':Gr):Prop where
 gs:GS s' g'
 gp:g'.gp=g.gp
 KO:g'.KO=g.KO++l.map HM.HI
 on:g'.os.map Bp=Sh ((sp,mp,Q6 M g.os.length l)::r) (Q6 M g.os.length l) (g.os.map Bp++l.map λ_=>[]) l
 len:g'.os.length=g.os.length+l.length
 chain:LJ s' (.G5 sp 0) ((sp,mp,Q6 M g.os.length l)::r)
 Ki:IL s s'
 Lq:Ha s'
 It:∀b,b∈g'.It->b∈g.It\/s.next<=b
 Ir:∀b,b∉g.It->b≠mp->b<s.next->s'.heap b=s.heap b
def AHR{sp mp:Nat}{r:List Sc}{l:List HM}(hl:fu.WF l){s:St}(hf:Ha s){g:Gr}(hg:GS s g)(hn:g.os.length+l.length<=100000)(ha:g.KO.length=g.os.length){M:ML}(hc:LJ s (.G5 sp 0) ((sp,mp,M)::r))(L6:(MI ((sp,mp,M)::r)).Nodup){T:Nat}(hT:Lg (g.os.map Bp) T)(RP:T+17*l.length<=900000000):
  SW .Lp BW 44 [.G5 g.gp 0,.G5 sp 0,.HC (l.map Ao)] s λx s'=>x=.tuple []/\∃g',Put s g sp mp M r l s' g':=by
 obtain⟨s1,g1,c1,c2,c3,c4,c5,c6,c7,c8,c9,c10⟩:=qL hl.len l.length 0 AA AA hf hg hn ha hc L6;rw[Cv]at c3 c4 c5;have hgl:g1.os.length=g.os.length+l.length:=by rw[c4];simp
 have va:g1.os.map Bp=g.os.map Bp++l.map λ_=>[]:=by rw[c4];simp
 obtain⟨s2,g2,d1,d2,d3⟩:=qM hl.len (λv hv=>(hl.all v hv).HH) l.length 0 AA AA c7 c1 c5 (λv hv=>by
  obtain⟨j,h1,h2,h3⟩:=fT (M:=M) (k:=g.os.length) hv
  exact⟨j,h3,AA⟩) (T:=T) (by
   rw[va];intro x hx;rcases Bg.1 hx with h|h
   .exact hT x h
   .obtain⟨_,_,rfl⟩:=B8.1 h;simp) AA
 rw[Cv,va]at d2;have hnx:=c6.next
 have hP:Put s g sp mp M r l s2 g2:=⟨d1.gs,d1.gp.trans c2,d1.KO.trans c3,d2,by rw[d1.len,hgl],d1.chain c7 c1 c5,c6.trans d1.Ki,d1.Lq,λb hb=>by
  rcases d1.It hb with h|h
  .exact c8 b h
  .exact .inr AA,λb h1 h2 h3=>by
   rw[d1.at (λh=>by
    rcases c8 b h with h|h
    .exact h1 h
    .omega) AA]
   exact c9 b h1 h2 h3⟩
 refine(AOV (.Im .Lp) _ _ _ ?_).sw hf;unfold g44;refine Gu Ad4 ?_;rw[BX];refine c10 ?_;unfold ABB;refine Gu Ad4 ?_;rw[BX,<- c2];exact d3 ⟨rfl,g2,hP⟩
end
section
open Go.Proofs
mutual
def O9:Hh->List ByteArray
 | .mk form _ name _ _ _ _ G9 _=>if form=6 then[]else(if form=2\/form=9\/form=10 then[name]else[])++(if form=8 then rdH G9 else UG G9)
def UG:List Hh->List ByteArray
 |[]=>[]
 |k::r=>O9 k++UG r
def rdH:List Hh->List ByteArray
 |[]=>[]
 |k::_=>O9 k
end
def PD(l:List BA):LP:=l.map PV.HK
structure Rnd (E:Xg) (L:Nat) (xs:List PV) (I:List PV->St->Prop):Prop where
 td:∀{Jp s s'},I Jp s->Ha s->Ha s'->s.next<=s'.next->(∀b,b<s.next->s'.heap b=s.heap b)->I Jp s'
 round:∀Jp x post s,xs=Jp++x::post->I Jp s->Ha s->YW E BW L [x] s λr s'=>r=.bool true/\I (Jp++[x]) s'
def ANI(E:Xg)(L:Nat)(xs:LP)(I:LP->St->Prop)(e:Hh):Prop:=∀Jp post s,xs=Jp++(PD (O9 e)++post)->I Jp s->Ha s->SW E BW 105 [.agg e.Gy,.yield L] s λr s'=>r=.bool true/\I (Jp++PD (O9 e)) s'
section
variable{E:Xg} {L:Nat} {xs:LP} {I:LP->St->Prop}
def AB5(hR:Rnd E L xs I){ks:List Hh}(hk:∀k,k∈ks->ANI E L xs I k)(hl:ks.length<=100000){Q:F1}{fin:LP}(hQ:∀s,I fin s->Ha s->Q (.bool true) s):∀(n i:Nat),ks.length-i=n->i<=ks.length->∀(Jp post:LP) (s:St),xs=Jp++(PD (UG (ks.drop i))++post)->Jp++PD (UG (ks.drop i))=fin->I Jp s->Ha s->
  aE (.Im E) Q (n+1) (.yield L) (.HC (ks.map Hh.Gy)) (.int .i64 ks.length) (.int .i64 i) s
 |0,i,hi,O4,Jp,post,s,hx,oW,hI,hf=>by
  rw[CT AA]at oW;simp only[UG,PD,Fz,CL]at oW;subst oW;unfold aE mC;refine zw ?_;refine cH AB ?_;unfold rm;exact Ls rfl (hQ s hI hf)
 |n+1,i,hi,O4,Jp,post,s,hx,oW,hI,hf=>by
  have H5:i<ks.length:=AA;have hki:ks[i]?=some ks[i]:=BZ H5;rw[Bx H5]at hx oW;simp only[UG,PD,Br]at hx oW;unfold aE mC;refine zw ?_;refine cI AdJ ?_;refine Gu (HU AA (Gy:=ks[i].Gy) (by rw[CH];simp[hki]) ks[i].HJ) ?_;refine Gu (Jo ks[i].HJ) ?_;refine zw ?_;refine Gu (LY zh ks[i].HJ (by rw[Hh.JP];rfl) rfl) ?_;refine Gu (Ii zh ks[i].HJ) ?_;have OK:Ha ((s.new (.box [(.int .i64 0),(.int .i64 0),(.HK ⟨#[]⟩),(.int .i64 0),(.int .i64 0),(.int .i64 0),(.int .i64 0),.nil,(.int .i64 0)])).set s.next (.box ks[i].Gy)):=JH (IW hf) AI;have hI2:I Jp ((s.new (.box [(.int .i64 0),(.int .i64 0),(.HK ⟨#[]⟩),(.int .i64 0),(.int .i64 0),(.int .i64 0),(.int .i64 0),.nil,(.int .i64 0)])).set s.next (.box ks[i].Gy)):=hR.td hI hf OK (Gm _) λb hb=>by rw[Ar AA,Av rfl AA]
  refine UT (hk ks[i] (Bl H5) Jp (PD (UG (ks.drop (i+1)))++post) _ AcR hI2 OK) λv s' hG dY hq=>?_;obtain⟨rfl,hI'⟩:=hq;refine Gu bX ?_;refine cf ?_;apply Gu
  .exact Ho (v:=.int .i64 (i+1:Nat)) (by
    show some (Az .i64 (IntKind.i64.wrap _))=_;rw[Hr AA AA];simp)
  exact AB5 hR hk hl hQ n (i+1) AA H5 (Jp++PD (O9 ks[i])) post s' AcR (by rw[<- oW];simp[PD]) hI' dY
def tP(hR:Rnd E L xs I){ks:List Hh}(hk:∀k,k∈ks->ANI E L xs I k)(hl:ks.length<=100000){Q:F1}{Jp post:LP}{s:St}(hx:xs=Jp++(PD (UG ks)++post))(hI:I Jp s)(hf:Ha s)(hQ:∀s',I (Jp++PD (UG ks)) s'->Ha s'->Q (.bool true) s'):
  gr (.Im E) Q (.yield L) (.HC (ks.map Hh.Gy)) s:=by
 unfold gr;refine Gu (Iy (G1:=ks.map Hh.Gy) rfl) ?_;rw[BX];exact⟨_,AB5 hR hk hl hQ ks.length 0 AA AA Jp post s (by simpa using hx) AD hI hf⟩
def AUu(hR:Rnd E L xs I){e:Hh}(he:e.WF):ANI E L xs I e:=by
 induction he with
 |mk form sub name tk tl n m G9 HI Sr hf0 hs vj ht hk ih=>
  intro Jp post s hx hI hf;have HV:(Hh.mk form sub name tk tl n m G9 HI).Gy=[.int .i64 form,.int .i64 sub,.HK name,.int .i64 tk,.int .i64 tl,.int .i64 n,.int .i64 m,.HC (G9.map Hh.Gy),.int .i64 HI]:=Hh.JP _;rw[HV];refine(AJv (.Im E) _ _ ?_).sw hf;obtain⟨s1,L9⟩:∃s1,s1=s.new (.box [.int .i64 form,.int .i64 sub,.HK name,.int .i64 tk,.int .i64 tl,.int .i64 n,.int .i64 m,.HC (G9.map Hh.Gy),.int .i64 HI]):=⟨_,rfl⟩
  have Nm:Ha s1:=by rw[L9];exact IW hf
  have hI1:I Jp s1:=by rw[L9];exact hR.td hI hf (IW hf) (Gm _) λb hb=>Av rfl AA
  have MR:s1.heap s.next=some (.box [.int .i64 form,.int .i64 sub,.HK name,.int .i64 tk,.int .i64 tl,.int .i64 n,.int .i64 m,.HC (G9.map Hh.Gy),.int .i64 HI]):=by rw[L9];exact BN
  have fk:G9.length<=100000:=Sr.2.2.2.2;have hQ:∀s',I (Jp++PD (O9 (.mk form sub name tk tl n m G9 HI))) s'->Ha s'->(λ(r:PV) (s':St)=>r=.bool true/\I (Jp++PD (O9 (.mk form sub name tk tl n m G9 HI))) s') (.bool true) s':=λs' h _=>⟨rfl,h⟩
  generalize(λ(r:PV) (s':St)=>r=.bool true/\I (Jp++PD (O9 (.mk form sub name tk tl n m G9 HI))) s')=Q at hQ
  have named:form≠6->form≠8->(form=2\/form=9\/form=10)->Uo (.Im E) Q (.yield L) (.G5 s.next 0) (.HC (G9.map Hh.Gy)) (.bool true) s1:=λh6 h8 h2=>by
   have hr:O9 (.mk form sub name tk tl n m G9 HI)=[name]++UG G9:=by simp[O9,h6,h8,h2]
   rw[hr]at hQ hx;unfold Uo;refine zw ?_;refine AQT (.inr ⟨L,[.HK name],rfl,hR.round Jp (.HK name) (PD (UG G9)++post) s1 AcR hI1 Nm⟩) λv s' hG dY hq=>?_;obtain⟨rfl,hI'⟩:=hq;refine Gu bX ?_;refine cf ?_;exact tP hR ih fk (Jp:=Jp++[.HK name]) (post:=post) AcR hI' dY λs'' h AW5=>hQ s'' (by simpa[PD]using h) AW5
  have plain:form≠6->form≠8->¬(form=2\/form=9\/form=10)->Uo (.Im E) Q (.yield L) (.G5 s.next 0) (.HC (G9.map Hh.Gy)) (.bool false) s1:=λh6 h8 h2=>by
   have hr:O9 (.mk form sub name tk tl n m G9 HI)=UG G9:=by simp[O9,h6,h8,h2]
   rw[hr]at hQ hx;unfold Uo;refine cf ?_;exact tP hR ih fk (Jp:=Jp) (post:=post) hx hI1 Nm hQ
  unfold ASp;refine zw ?_;rw[<- L9];refine Gw (λh=>?_) λh=>?_
  .have h:form=6:=by simpa using h
   refine Ls rfl (hQ _ ?_ Nm);simp only[O9,h,if_true,PD,Fz,CL];exact hI1
  have h6:form≠6:=by simpa using h
  refine zw ?_;refine Gw (λh=>?_) λh=>?_
  .have h8:form=8:=by simpa using h
   have Jr:G9.length=2:=Sr.2.1 (.inr (.inr (.inl h8)))
   obtain⟨a,b,rfl⟩:∃a b,G9=[a,b]:=by
    match G9,Jr with
    |[a,b],_=>exact⟨a,b,rfl⟩
   have hr:O9 (.mk form sub name tk tl n m [a,b] HI)=UG [a]:=by
    subst h8;simp[O9,UG,rdH]
   rw[hr]at hQ hx;refine Gu (Iy (G1:=[a,b].map Hh.Gy) rfl) ?_;refine Gu AMu ?_;refine Gu (ABu (G1:=[a,b].map Hh.Gy) (a:=none) (c:=some 1) (r1:=[.int .i64 1]) (r2:=[]) rfl rfl rfl AD AD (by simp[Hh.HJ])) ?_;refine Gu tH ?_;exact tP hR (ks:=[a]) (λk hk=>ih k (by simp at hk;simp[hk])) AD hx hI1 Nm hQ
  have h8:form≠8:=by simpa using h
  refine zw ?_;refine Gw (λh=>?_) λh=>?_
  .rw[h];exact named h6 h8 (.inl AE)
  have h2:form≠2:=by simpa using h
  refine zw ?_;refine Gw (λh=>?_) λh=>?_
  .rw[h];exact named h6 h8 (.inr (.inl AE))
  have h9:form≠9:=by simpa using h
  refine zw ?_;by_cases h:form=10
  .rw[show(form==10)=true by simpa using h];exact named h6 h8 (.inr (.inr h))
  .rw[show(form==10)=false by simpa using h];exact plain h6 h8 AA
end
end
section
open Go.Proofs
def ADw{E:Xg}{L:Nat}{I:LP->St->Prop}{e:Hh}(he:e.WF)(hR:Rnd E L (PD (O9 e)) I){s:St}(hf:Ha s)(hI:I [] s){eb:Nat}(hb:s.heap eb=some (.box e.Gy)):
  SW E BW 104 [.yield L,.G5 eb 0] s λ_ s'=>I (PD (O9 e)) s':=by
 refine(AJu (.Im E) _ _ ?_).sw hf;unfold ASo;refine Gu (Ii hb e.HJ) ?_;refine UT (AUu hR he [] [] s AD hI hf) λv s' hG dY hq=>?_;exact Ls (Q:=λ_ s'=>I (PD (O9 e)) s') rfl hq.2
def ADv{E:Xg}{e:Hh}{s:St}(hf:Ha s):SW E BW 78 [.agg e.Gy] s λr s'=>r=.fn 104 [.G5 s.next 0]/\s'=s.new (.box e.Gy):=by refine(AOe (.Im E) _ ?_).sw hf;unfold g78;refine Gu (Ny (by rw[Hh.JP];rfl) rfl) ?_;refine Gu AG3 ?_;exact Ls (Q:=λr s'=>r=.fn 104 [.G5 s.next 0]/\s'=s.new (.box e.Gy)) rfl ⟨rfl,rfl⟩
def Wv(ch:List Sc)(k:Nat)(on:LLI)(ns:List BA):LLI:=ns.foldl (λon n=>NT on k (pX (Rq n ch))) on
def TK{ch:List Sc}{k:Nat}:∀{l:List BA} {on:LLI} {T:Nat},Lg on T->Lg (Wv ch k on l) (T+l.length)
 |[],_,_,h=>h
 |x::l,on,T,h=>by
  have:=TK (ch:=ch) (k:=k) (l:=l) ((Pv (v:=k) (xs:=pX (Rq x ch)) h).mono (Fa sR T));exact Ajb
def RdI(s1:St)(g:Gr)(ch:List Sc)(k:Nat)(Jp:LP)(s:St):Prop:=∃ns g',Jp=PD ns/\OU s1 g s g'/\g'.os.map Bp=Wv ch k (g.os.map Bp) ns
def RdI.td{s1 s s':St}{g:Gr}{ch:List Sc}{k:Nat}{Jp:LP}(h:RdI s1 g ch k Jp s)(hf:Ha s)(dY:Ha s')(hn:s.next<=s'.next)(hk:∀b,b<s.next->s'.heap b=s.heap b):RdI s1 g ch k Jp s':=by obtain⟨ns,g',h1,h2,h3⟩:=h;have hnx:=h2.Ki.next;exact⟨ns,g',h1,⟨h2.gs.Ir λb hb=>hk b (h2.gs.lt hf hb),h2.gp,h2.ba,h2.KO,h2.bo,h2.len,h2.Hm,λb a1 a2 a3=>(hk b AA).trans (h2.Ir b a1 a2 a3),⟨AA,λb hb hh=>(hk b AA).trans (h2.Ki.none b hb hh)⟩,dY⟩,h3⟩
def xF:∀{a b:List BA},PD a=PD b->a=b
 |[],[],_=>rfl
 |[],_::_,h=>by simp[PD]at h
 |_::_,[],h=>by simp[PD]at h
 |x::a,y::b,h=>by
  simp only[PD,GQ,GC,PV.HK.injEq]at h;rw[h.1,xF (a:=a) (b:=b) h.2]
def ADz{e:Hh}(he:e.WF){s:St}(hf:Ha s){g:Gr}(hg:GS s g){gb sb vb eb:Nat}{sv:PV}{ch:List Sc}{k:Nat}(hk:k<g.os.length)(oK:s.heap gb=some (.box [.G5 g.gp 0]))(mj:s.heap sb=some (.box [sv]))(cY:s.heap vb=some (.box [.int .i64 k]))(heb:s.heap eb=some (.box e.Gy))
  (hgi:gb∉g.It)(hsi:sb∉g.It)(hvi:vb∉g.It)(hc:LJ s sv ch){T:Nat}(hT:Lg (g.os.map Bp) T)(RP:T+(O9 e).length<=900000000){K:F0}
  (hK:∀s' g',OU s g s' g'->g'.os.map Bp=Wv ch k (g.os.map Bp) (O9 e)->K s'):
  MH BW (.Im .Lp) (.fn 104 [.G5 eb 0]) (j0 (.Im .Lp) (.G5 gb 0) (.G5 sb 0) (.G5 vb 0)) K s:=by
 have KH:∀{Jp s' s''},RdI s g ch k Jp s'->Ha s'->Ha s''->s'.next<=s''.next->(∀b,b<s'.next->s''.heap b=s'.heap b)->RdI s g ch k Jp s'':=λh a b c d=>h.td a b c d;unfold MH;refine⟨λ_=>trivial,104,[.G5 eb 0],RdI s g ch k,λ_ _=>True,PD (O9 e),rfl,by kernel_rfl,λJp x post s1 hx hI Nm=>?_,λE' L hr=>?_,λs1 hI Nm hG=>?_⟩
 .obtain⟨ns,g1,rfl,h2,h3⟩:=hI
  obtain⟨n,rfl⟩:∃n,x=.HK n:=by
   have:x∈PD (O9 e):=by rw[hx];simp
   obtain⟨n,_,rfl⟩:=B8.1 this;exact⟨n,rfl⟩
  have II:ns.length<(O9 e).length:=by
   have:=congrArg List.length hx;simp[PD]at this;omega
  have Mv:k<g1.os.length:=by rw[h2.len];exact hk
  obtain⟨s2,g2,c1,c2⟩:=ABQ (E:=.Lp) Nm h2.gs (h2.chain hf hg hc) Mv n (Lg.os (T:=T+ns.length) (by rw[h3];exact TK hT) AA);rw[h2.gp]at c1;unfold j0;refine Gu zj ?_;refine Gu (G2 ((h2.at hgi (HT hf oK)).trans oK) rfl) ?_;refine Gu (G2 ((h2.at hvi (HT hf cY)).trans cY) rfl) ?_;refine Gu (G2 ((h2.at hsi (HT hf mj)).trans mj) rfl) ?_;refine UT (c1.sw (Q:=λr s'=>s'=s2) rfl) λv s' _ _ hq=>?_;subst hq;exact⟨⟨ns++[n],g2,by simp[PD],h2.trans c2.ZI,by rw[c2.on,h3];simp[Wv]⟩,trivial⟩
 .exact ADw (I:=RdI s g ch k) he ⟨KH,λJp x post s1 hx hI Nm=>by
   intro m w HW a b c;obtain⟨l,h1,h2,h3⟩:=hr Jp x post s1 hx hI Nm m w HW a b c;refine⟨l,h1,h2,h3.mono ?_⟩;rintro en w' ⟨m',v,r,s',k1,k2,k3,k4,k5,k6,k7,k8,_⟩;exact⟨m',v,r,s',k1,k2,k3,k4,k5,k6,k7,k8⟩⟩ hf ⟨[],g,rfl,.refl hf hg,rfl⟩ heb
 .obtain⟨ns,g1,h1,h2,h3⟩:=hI;rw[<- xF h1]at h3;exact hK s1 g1 h2 h3
end
section
open Go.Proofs
def XL(ch:List Sc)(JC:LI)(e:Hh)(on:LLI)(n:BA):LLI:=if Rq n ch<0 then on else NT (Wv ch (Rq n ch).toNat on (O9 e)) (Rq n ch).toNat JC
def p8{ch:List Sc}{JC:LI}{e:Hh}{on:LLI}{n:BA}{T:Nat}(h:Lg on T):Lg (XL ch JC e on n) (T+((O9 e).length+JC.length)):=by
 unfold XL;split
 .exact h.mono AA
 .rw[<- Dw];exact Pv (TK h)
def wD(x:Item):Yk 9 x.Gy 1=some (.agg x.e.Gy):=by rw[Item.JP,Hh.JP];rfl
structure ou (s:St) (g:Gr) (gb sb ib:Nat) (sv:PV) (x:Item):Prop where
 gb:s.heap gb=some (.box [.G5 g.gp 0])
 sb:s.heap sb=some (.box [sv])
 ib:s.heap ib=some (.box x.Gy)
def RI{s:St}{g:Gr}(hg:GS s g){b:Nat}{cs:LP}(h:s.heap b=some (.box cs))(hl:cs.length≠2):b∉g.It:=λhm=>by
 rcases hg.kind hm with⟨_,h1⟩|⟨_,h1⟩|⟨n,h1⟩<;>rw[h1]at h<;>cases h;exact hl rfl
def ou.ZI{s s':St}{g g':Gr}{gb sb ib:Nat}{sv:PV}{x:Item}(h:ou s g gb sb ib sv x)(hf:Ha s)(hg:GS s g)(k:OU s g s' g'):ou s' g' gb sb ib sv x:=⟨by rw[k.gp];exact(k.at (RI hg h.gb AD) (HT hf h.gb)).trans h.gb,(k.at (RI hg h.sb AD) (HT hf h.sb)).trans h.sb,(k.at (RI hg h.ib (by rw[BI];simp)) (HT hf h.ib)).trans h.ib⟩
def AGv{s:St}(hf:Ha s){g:Gr}(hg:GS s g){gb sb ib:Nat}{sv:PV}{x:Item}(hx:x.e.WF)(hB:ou s g gb sb ib sv x){ch:List Sc}(hc:LJ s sv ch){mv:PV}{JC:LI}(me:mv.G1=some (Ku JC)){T:Nat}(hT:Lg (g.os.map Bp) T)(RP:T+((O9 x.e).length+JC.length)<=900000000)
  {j:Nat}{n:BA}(hj:x.G6[j]?=some n)(WB:x.G6.length<=100000)(hlk:Rq n ch<g.os.length):
  ∀{Q:F1} {w7:PV->PV->PV->PV->PV->PV->F1} {W:PV->PV->PV->PV->PV->PV->PV->PV->PV->PV->F1} {iv a b c:PV},
   (∀s' g',OU s g s' g'->g'.os.map Bp=XL ch JC x.e (g.os.map Bp) n->W mv iv (.G5 gb 0) (.G5 sb 0) (.G5 ib 0) a b c (.HC (x.G6.map Gv)) (I x.G6.length) (I (j+1:Nat)) s')->
    jz (.Im .Lp) Q w7 W mv iv (.G5 gb 0) (.G5 sb 0) (.G5 ib 0) a b c (.HC (x.G6.map Gv)) (I x.G6.length) (I j) s:=by
 intro Q w7 W iv a b c hW;have hjn:j<x.G6.length:=(Bn.1 hj).1
 have yq:al BW .add 3 (I j) (I 1)=some (I (j+1:Nat)):=by
  show some (PVI (IntKind.i64.wrap _))=_;rw[Hr AA AA];simp
 unfold jz;refine Gu Adf ?_;refine ct ?_;refine Gu Aer ?_;refine Gu (IM rfl) ?_;refine Gu zj ?_;refine Gu (G2 hB.sb rfl) ?_;refine UT ((AA8 (E:=.Lp) hf hc n).sw (Q:=λr s'=>r=I (Rq n ch)/\s'=s) ⟨rfl,rfl⟩) λv s' _ _ hq=>?_;obtain⟨rfl,UQ⟩:=hq;rw[UQ];obtain⟨s1,L9⟩:∃s1,s1=(s.new (.box [I 0])).set s.next (.box [I (Rq n ch)]):=⟨_,rfl⟩
 refine Gu (bW rfl) ?_;refine Gu (Nf (cs:=[I 0]) (A3 rfl) rfl rfl rfl) ?_;rw[show([PVI 0].set 0 (I (Rq n ch)))=[I (Rq n ch)]from rfl,<- L9];have Mv:∀b,b<s.next->s1.heap b=s.heap b:=λb hb=>by rw[L9,Ar AA,Av rfl AA]
 have Yz:s1.next=s.next+1:=by rw[L9];rfl
 have Nm:Ha s1:=by rw[L9];exact JH (IW hf) AI
 have hG1:IL s s1:=by rw[L9];exact I9.trans (JO AI)
 have TM:GS s1 g:=hg.Ir λb hb=>Mv b (hg.lt hf hb);have hv1:s1.heap s.next=some (.box [I (Rq n ch)]):=by rw[L9];exact Ay
 have hK1:OU s g s1 g:=(OU.refl Nm TM).MZ hf hg hG1 Mv;refine Gu (G2 hv1 rfl) ?_;by_cases AKM:Rq n ch<0
 .refine Gu (Ho (SK AKM)) ?_;refine ct ?_;unfold mO;refine Gu (Ho yq) ?_;exact hW s1 g hK1 (by unfold XL;rw[Ps AKM])
 refine Gu (Ho (QW AKM)) ?_;refine cf ?_;obtain⟨k,hk⟩:∃k:Nat,Rq n ch=k:=⟨(Rq n ch).toNat,AA⟩
 have fk:k<g.os.length:=AA;rw[hk]at hv1;have hB1:=hB.ZI hf hg hK1;refine Gu JD ?_;refine Gu (Ph hB1.ib (wD x)) ?_;refine UT (ADv Nm) λv s2 _ _ hq=>?_;obtain⟨rfl,K9⟩:=hq;have Jr:∀b,b<s1.next->s2.heap b=s1.heap b:=λb hb=>by rw[K9,Av rfl AA]
 have OK:Ha s2:=by rw[K9];exact IW Nm
 have T7:GS s2 g:=TM.Ir λb hb=>Jr b (TM.lt Nm hb);have hK2:OU s1 g s2 g:=(OU.refl OK T7).MZ Nm TM (by rw[K9];exact I9) Jr;have hB2:=hB1.ZI Nm TM hK2;have AS5:=hK1.trans hK2;have Ro:=AS5.chain hf hg hc;have hv2:s2.heap s.next=some (.box [I k]):=(Jr s.next AA).trans hv1;refine ADz hx OK T7 fk hB2.gb hB2.sb hv2 (by rw[K9];exact BN) (RI T7 hB2.gb AD) (RI T7 hB2.sb AD) (RI T7 hv2 AD) Ro hT AA λs3 g3 hK3 AT2=>?_;have aO:=hK3.Lq;have xV:=hK3.gs;have hB3:=hB2.ZI OK T7 hK3;have hv3:s3.heap s.next=some (.box [I k]):=(hK3.at (RI T7 hv2 AD) (HT OK hv2)).trans hv2;have bP:k<g3.os.length:=by rw[hK3.len];exact fk
 obtain⟨p,hp⟩:∃p,g3.os[k]?=some p:=⟨_,BZ bP⟩
 obtain⟨ob,hob,AXg⟩:=xV.WJ bP
 have au:p.2.length<=T+(O9 x.e).length:=by
  have:Lg (g3.os.map Bp) (T+(O9 x.e).length):=by rw[AT2];exact TK hT
  exact this _ (B8.2 ⟨p,Bt hp,rfl⟩)
 obtain⟨y,s4,s5,g5,a1,a2,a3,a4,a5,a6,a7⟩:=ui aO xV hp (x:=mv) me AA hob;refine HA (G2 hB3.gb rfl) ?_;refine HA Kg ?_;refine HA JD ?_;refine HA (G2 xV.box rfl) ?_;rw[hob];refine HA (G2 hv3 rfl) ?_;refine HA (G2 hB3.gb rfl) ?_;refine HA Kg ?_;refine HA JD ?_;refine HA (G2 xV.box rfl) ?_;rw[hob];refine HA (G2 hv3 rfl) ?_;refine HA (LA AA (by simpa using bP)) ?_;refine HA (Lw AXg (v:=IV p) Abp) ?_;refine HA a1 ?_;refine HA (LA AA (by simpa using bP)) ?_;refine HA a3 ?_;refine⟨?_,?_⟩
 .have Yv:∀d,p.1=some d->d≠g3.gp/\d≠gb/\d≠s.next:=λd hd=>by
   have:=xV.Hm p (Bt hp);unfold LK at this;rw[hd]at this;exact⟨Ip this xV.box AD,Ip this hB3.gb AD,Ip this hv3 AD⟩
  have sT:=HT aO xV.box;have jI:=HT aO hB3.gb;have sU:=HT aO hv3;simp[Ih,I6,Jv,It]
  exact⟨⟨⟨λh=>(Yv _ h).2.1 rfl,λh=>by omega⟩,λ_=>⟨λh=>(Yv _ h).1 rfl,λh=>by omega⟩,λ_=>⟨λh=>(Yv _ h).2.2 rfl,λh=>by omega⟩,KU AF,KU AF,KU AF,KU AF⟩,
   KU AF,KU AF,KU AF,KU AF,KU AF,by kernel_rfl,KU AF⟩
 .unfold mO;refine Gu (Ho yq) ?_;refine hW s5 g5 ((AS5.trans hK3).trans a4.ZI) ?_;rw[a4.on,AT2];unfold XL;rw[Ng AKM,hk];rfl
end
section
open Go.Proofs
def Yn{ch:List Sc}{JC:LI}{e:Hh}:∀{l:List BA} {on:LLI} {T:Nat},Lg on T->Lg (l.foldl (XL ch JC e) on) (T+l.length*((O9 e).length+JC.length))
 |[],_,_,h=>h.mono AA
 |n::l,on,T,h=>by
  have:=Yn (ch:=ch) (JC:=JC) (e:=e) (l:=l) (p8 (ch:=ch) (JC:=JC) (e:=e) (n:=n) h);exact this.mono (by simp[CW];omega)
def ABo{gb sb ib:Nat}{sv:PV}{x:Item}(hx:x.e.WF){ch:List Sc}{mv:PV}{JC:LI}(me:mv.G1=some (Ku JC))(WB:x.G6.length<=100000){Q:F1}{w7:PV->PV->PV->PV->PV->PV->F1}{iv a b c:PV}:∀(n j:Nat),x.G6.length-j=n->j<=x.G6.length->
  ∀{s:St} (hf:Ha s) {g:Gr} (hg:GS s g) (hB:ou s g gb sb ib sv x) (hc:LJ s sv ch) {T:Nat} (hT:Lg (g.os.map Bp) T) (RP:T+n*((O9 x.e).length+JC.length)<=900000000) (hlk:∀n,Rq n ch<g.os.length)
   (hW:∀s' g',OU s g s' g'->g'.os.map Bp=(x.G6.drop j).foldl (XL ch JC x.e) (g.os.map Bp)->mM (.Im .Lp) Q w7 mv iv (.G5 gb 0) (.G5 sb 0) a b c s'),
  cQ (.Im .Lp) Q w7 (n+1) mv iv (.G5 gb 0) (.G5 sb 0) (.G5 ib 0) a b c (.HC (x.G6.map Gv)) (I x.G6.length) (I j) s
 |0,j,hj,pY,s,hf,g,hg,hB,hc,T,hT,RP,hlk,hW=>by
  rw[CT AA]at hW;unfold cQ jz;refine Gu Ade ?_;exact AiO
 |n+1,j,hj,pY,s,hf,g,hg,hB,hc,T,hT,RP,hlk,hW=>by
  have H5:j<x.G6.length:=AA;rw[Bx H5]at hW;have hT3:T+((O9 x.e).length+JC.length)+n*((O9 x.e).length+JC.length)<=900000000:=by rw[CW]at RP;omega
  unfold cQ;refine AGv hf hg hx hB hc me hT AA (BZ H5) WB (hlk _) λs1 g1 h1 h2=>?_;exact ABo hx me WB n (j+1) AA H5 h1.Lq h1.gs (hB.ZI hf hg h1) (h1.chain hf hg hc) (T:=T+((O9 x.e).length+JC.length)) (by rw[h2];exact p8 hT) hT3 (λn=>by rw[h1.len];exact hlk n) λs2 g2 k1 k2=>hW s2 g2 (h1.trans k1) (by rw[k2,h2];rfl)
def zO(ch:List Sc)(JC:LI)(on:LLI)(l:List Item):LLI:=l.foldl (λon x=>x.G6.foldl (XL ch JC x.e) on) on
def oe(JC:LI):List Item->Nat
 |[]=>0
 |x::r=>x.G6.length*((O9 x.e).length+JC.length)+oe JC r
def ABb{gb sb:Nat}{sv:PV}{ch:List Sc}{mv:PV}{JC:LI}(me:mv.G1=some (Ku JC))(hml:JC.length<=1000000){l:List Item}(hl:l.length<=100000)(hw:∀x,x∈l->x.WF)(WA:∀x,x∈l->x.G0=[]){Q:F1}{iv:PV}:∀(n i:Nat),l.length-i=n->i<=l.length->
  ∀{s:St} (hf:Ha s) {g:Gr} (hg:GS s g) (oK:s.heap gb=some (.box [.G5 g.gp 0])) (mj:s.heap sb=some (.box [sv])) (hc:LJ s sv ch) {T:Nat} (hT:Lg (g.os.map Bp) T) (RP:T+oe JC (l.drop i)<=900000000) (hlk:∀n,Rq n ch<g.os.length)
   (hW:∀s' g',OU s g s' g'->g'.os.map Bp=zO ch JC (g.os.map Bp) (l.drop i)->Q (.tuple []) s'),
  Np (.Im .Lp) Q (n+1) mv iv (.G5 gb 0) (.G5 sb 0) (.HC (l.map Aq)) (I l.length) (I i) s
 |0,i,hi,O4,s,hf,g,hg,oK,mj,hc,T,hT,RP,hlk,hW=>by
  rw[CT AA]at hW;unfold Np yj;exact Agq
 |n+1,i,hi,O4,s,hf,g,hg,oK,mj,hc,T,hT,RP,hlk,hW=>by
  have H5:i<l.length:=AA;rw[Bx H5]at hW RP;obtain⟨x,uA⟩:∃x,x=l[i]:=⟨_,rfl⟩
  rw[<- uA]at hW RP;have iG:l[i]?=some x:=by rw[uA];exact BZ H5
  have hxm:=Bt iG;have KH:=WA x hxm;have hxr:x.Gy=[.HC (x.G6.map Gv)]++x.e.Gy++[.HC [],I x.HI]:=by rw[Item.JP,KH];rfl
  have hwx:=hw x hxm;have hwe:x.e.WF/\x.G6.length<=100000:=by cases hwx with|mk _ _ _ _ h1 h2 _ _=>exact⟨h2,h1⟩
  simp only[oe]at RP;have h0:x.Gy[0]?=some (.HC (x.G6.map Gv)):=by rw[hxr];rfl
  have jD:x.Gy[10]?=some (.HC []):=by rw[hxr,Hh.JP];rfl
  obtain⟨s1,L9⟩:∃s1,s1=(s.new (.box [.nil,(I 0),(I 0),(.HK ⟨#[]⟩),(I 0),(I 0),(I 0),(I 0),.nil,(I 0),.nil,(I 0)])).set s.next (.box x.Gy):=⟨_,rfl⟩
  have Mv:∀b,b<s.next->s1.heap b=s.heap b:=λb hb=>by rw[L9,Ar AA,Av rfl AA]
  have Yz:s1.next=s.next+1:=by rw[L9];rfl
  have Nm:Ha s1:=by rw[L9];exact JH (IW hf) AI
  have hG1:IL s s1:=by rw[L9];exact I9.trans (JO AI)
  have hi1:s1.heap s.next=some (.box x.Gy):=by rw[L9];exact Ay
  obtain⟨s2,K9⟩:∃s2,s2=s1.new (.box [.nil]):=⟨_,rfl⟩
  have OK:Ha s2:=by rw[K9];exact IW Nm
  have Jr:∀b,b<s1.next->s2.heap b=s1.heap b:=λb hb=>by rw[K9,Av rfl AA]
  have fE:s2.next=s1.next+1:=by rw[K9];rfl
  have Ro:s2.heap s1.next=some (.box [.nil]):=by rw[K9];exact BN
  obtain⟨o',s3,a1,a2,a3,a4,a5,a6⟩:=Zj OK (o:=none) (l:=[]) (by rfl) me AB
  have Xb:o'=s2.next/\s3.next=s2.next+1:=by
   rcases a4 with⟨h,_⟩|⟨_,h1,h2⟩
   .cases h
   .exact⟨h1,h2⟩
  have hc3:s3.heap s1.next=some (.box [.nil]):=by rw[a3 _ AA];exact Ro
  obtain⟨s4,bQ⟩:∃s4,s4=s3.set s1.next (.box [IV (some o',[]++JC)]):=⟨_,rfl⟩
  have hf4:Ha s4:=by rw[bQ];exact JH a5 (by rw[hc3];simp)
  have hk4:∀b,b<s1.next->s4.heap b=s1.heap b:=λb hb=>by rw[bQ,Ar AA,a3 _ AA,Jr b hb]
  have hG4:IL s s4:=by
   rw[bQ];exact((hG1.trans (by rw[K9];exact I9)).trans a6).trans (JO (by rw[hc3];simp))
  have AKF:∀b,b<s.next->s4.heap b=s.heap b:=λb hb=>(hk4 b AA).trans (Mv b hb);have hg4:GS s4 g:=hg.Ir λb hb=>AKF b (hg.lt hf hb);have hK4:OU s g s4 g:=(OU.refl hf4 hg4).MZ hf hg hG4 AKF;have hi4:s4.heap s.next=some (.box x.Gy):=(hk4 s.next AA).trans hi1;have hB4:ou s4 g gb sb s.next sv x:=⟨(AKF gb (HT hf oK)).trans oK,(AKF sb (HT hf mj)).trans mj,hi4⟩
  unfold Np yj;refine Gu Adf ?_;refine ct ?_;refine Gu AeJ ?_;refine Gu (Jo x.HJ) ?_;refine Gu (bW rfl) ?_;refine Gu (LY (A3 rfl) x.HJ (by rw[hxr,Hh.JP];rfl) rfl) ?_;rw[<- L9];refine Gu (bW rfl) ?_;rw[<- K9];refine Gu JD ?_;refine Gu (G2 ((Jr s.next AA).trans hi1) jD) ?_;refine Gu AeU ?_;refine⟨1,?_⟩;unfold aL vJ;refine Gu (Ho (QW AD)) ?_;refine cf ?_;unfold yh;refine Gu (G2 Ro rfl) ?_;refine Gu a1 ?_;refine Gu (Nf (cs:=[.nil]) hc3 M6 rfl rfl) ?_;rw[show([PV.nil].set 0 (IV (some o',[]++JC)))=[IV (some o',[]++JC)]from rfl,<- bQ];refine Gu JD ?_;refine Gu (G2 hi4 jD) ?_;refine Gu AeU ?_;refine⟨1,?_⟩;unfold Uq vI;refine Gu (Ho (QW AD)) ?_;refine cf ?_;unfold yi;refine Gu JD ?_;refine Gu (G2 hi4 jD) ?_;refine Gu AeU ?_;refine Gu Aep ?_;refine cf ?_;refine Gu JD ?_;refine Gu (G2 hi4 h0) ?_;refine Gu Aem ?_;rw[BX];refine⟨_,ABo hwe.1 me hwe.2 x.G6.length 0 AA AA hf4 hg4 hB4 (hK4.chain hf hg hc) hT AA hlk λs5 g5 k1 k2=>?_⟩;rw[Cv]at k2;have hK5:=hK4.trans k1;have hB5:=hB4.ZI hf4 hg4 k1;unfold mM;apply Gu
  .exact AfX
  exact ABb me hml hl hw WA n (i+1) AA H5 k1.Lq k1.gs hB5.gb hB5.sb (hK5.chain hf hg hc) (T:=T+x.G6.length*((O9 x.e).length+JC.length)) (by rw[k2];exact Yn hT) AA (λn=>by rw[hK5.len];exact hlk n) λs6 g6 m1 m2=>hW s6 g6 (hK5.trans m1) (by rw[m2,k2];rfl)
end
section
open Go.Proofs
def AGX{sv:PV}{ch:List Sc}{mv:PV}{JC:LI}(me:mv.G1=some (Ku JC))(hml:JC.length<=1000000){l:List Item}(hl:l.length<=100000)(hw:∀x,x∈l->x.WF)(WA:∀x,x∈l->x.G0=[]){iv:PV}{s:St}(hf:Ha s){g:Gr}(hg:GS s g)(hc:LJ s sv ch)(hsv:sv.Iu=true){T:Nat}(hT:Lg (g.os.map Bp) T)(RP:T+oe JC l<=900000000)(hlk:∀n,Rq n ch<g.os.length):
  SW .Lp BW 45 [.G5 g.gp 0,.HC (l.map Aq),sv,mv,iv] s λr s'=>r=.tuple []/\∃g',OU s g s' g'/\g'.os.map Bp=zO ch JC (g.os.map Bp) l:=by
 refine(AOW (.Im .Lp) _ _ _ _ _ ?_).sw hf;have hG:IL s ((s.new (.box [.G5 g.gp 0])).new (.box [sv])):=I9.trans I9;have OK:Ha ((s.new (.box [.G5 g.gp 0])).new (.box [sv])):=IW (IW hf)
 have hk:∀b,b<s.next->((s.new (.box [.G5 g.gp 0])).new (.box [sv])).heap b=s.heap b:=λb hb=>by
  rw[Av (n:=s.next+1) rfl AA,Av rfl AA]
 have T7:GS ((s.new (.box [.G5 g.gp 0])).new (.box [sv])) g:=hg.Ir λb hb=>hk b (hg.lt hf hb);have hK:OU s g ((s.new (.box [.G5 g.gp 0])).new (.box [sv])) g:=(OU.refl OK T7).MZ hf hg hG hk;unfold g45;refine Gu (tJ rfl rfl) ?_;refine Gu (tJ hsv rfl) ?_;refine Gu Aeu ?_;rw[BX];refine⟨_,ABb me hml hl hw WA l.length 0 AA AA OK T7 ?_ ?_ (hK.chain hf hg hc) hT RP hlk λs' g' h1 h2=>⟨rfl,g',hK.trans h1,by rw[h2,Cv]⟩⟩
 .show((s.new (.box [.G5 g.gp 0])).new (.box [sv])).heap s.next=_;rw[Av (n:=s.next+1) rfl AA];exact BN
 .exact BN
def p7{n:BA}:∀{M:ML},Ko (.s n) M=none->iR (.s n) M=M
 |[],_=>rfl
 |(k,v)::r,h=>by
  unfold Ko at h;unfold iR;cases hk:BF (.s n) k with
  |true=>rw[hk]at h;cases h
  |false=>rw[hk]at h;simp only[cond_false]at h⊢;rw[p7 h]
def vx{nb gb sp mp:Nat}{M:ML}{l:List HM}(hl:l.length<=100000)(hm:∀v,v∈l->Ko (.s v.name) M=none){Q:F1}:∀(n i:Nat),l.length-i=n->i<=l.length->
  ∀{s:St} (hf:Ha s) {pv:PV} (vk:s.heap sp=some (.box [.map mp,pv])) (hmp:s.heap mp=some (.map M)) (ha:M.all (λp=>(BU default).QV p.1)=true)
   (hW:∀s',(∀b,b<s.next->s'.heap b=s.heap b)->IL s s'->Ha s'->r6 (.Im .Lp) Q (.G5 nb 0) (.G5 gb 0) (.G5 sp 0) s'),
  gx (.Im .Lp) Q (n+1) (.G5 nb 0) (.G5 gb 0) (.G5 sp 0) (.HC (l.map Ao)) (I l.length) (I i) s
 |0,i,hi,O4,s,hf,pv,vk,hmp,ha,hW=>by
  unfold gx r7;refine Gu Ade ?_;refine cf ?_;exact hW s (λ_ _=>rfl) (IL.refl s) hf
 |n+1,i,hi,O4,s,hf,pv,vk,hmp,ha,hW=>by
  have H5:i<l.length:=AA;obtain⟨v,cZ⟩:∃v,v=l[i]:=⟨_,rfl⟩
  have hvi:l[i]?=some v:=by rw[cZ];exact BZ H5
  have hvm:v∈l:=Bt hvi;have AX2:=HT hf vk;have AXW:=HT hf hmp;obtain⟨s2,K9⟩:∃s2,s2=(s.new (.box [(.HK ⟨#[]⟩),(I 0),(I 0),.nil,(I 0)])).set s.next (.box v.Gy):=⟨_,rfl⟩
  have Jr:∀b,b<s.next->s2.heap b=s.heap b:=λb hb=>by rw[K9,Ar AA,Av rfl AA]
  have fE:s2.next=s.next+1:=by rw[K9];rfl
  have OK:Ha s2:=by rw[K9];exact JH (IW hf) AI
  have MK:s2.heap s.next=some (.box v.Gy):=by rw[K9];exact Ay
  have sP:IL s s2:=by rw[K9];exact I9.trans (JO AI)
  have AUH:=(Jr sp AX2).trans vk;have y9:=(Jr mp AXW).trans hmp
  have fJ:∀b,(s2.set mp (.map M)).heap b=s2.heap b:=λb=>by
   by_cases h:b=mp
   .subst h;rw[Ay,y9]
   .rw[Ar h]
  unfold gx r7;refine Gu Adf ?_;refine ct ?_;refine Gu Aeo ?_;refine zw ?_;rw[<- K9];refine HA (AUj rfl (nC v.name) y9 (m7 ha)) ?_;rw[p7 (hm v hvm)];refine⟨?_,?_⟩
  .have MT:sp≠mp:=Ip vk hmp AD;simp[Ih,I6,Jv,It];exact⟨KU AF,KU AF⟩
  apply Gu
  .exact AfX
  have hGs:IL s2 (s2.set mp (.map M)):=JO (by rw[y9];simp);exact vx hl hm n (i+1) AA H5 (JH OK (by rw[y9];simp)) ((fJ sp).trans AUH) ((fJ mp).trans y9) ha λs' h1 h2 h3=>hW s' (λb hb=>(h1 b (by show b<s2.next;omega)).trans ((fJ b).trans (Jr b hb))) ((sP.trans hGs).trans h2) h3
end
section
open Go.Proofs
def wg:∀{a b:List HM} {M:ML} {k:Nat},Q6 M k (a++b)=Q6 (Q6 M k a) (k+a.length) b
 |[],b,M,k=>rfl
 |v::a,b,M,k=>by
  simp only[List.cons_append,Q6,CG];rw[wg];congr 1;omega
def wh:∀{l:List HM} {M:ML} {k:Nat} {n:BA} {i:Int},Ko (.s n) (Q6 M k l)=some i->Ko (.s n) M=some i\/((k:Int)<=i/\i<k+l.length)
 |[],M,k,n,i,h=> .inl h
 |v::l,M,k,n,i,h=>by
  rw[Q6]at h;rcases wh h with h1|h1
  .rw[Vp]at h1;split at h1
   .simp only[Ba]at h1;exact .inr AB
   .exact AiL
  .exact .inr AB
def AGd{sp mp:Nat}{l:List HM}(n:BA)(hl:0<l.length\/True):Rq n [(sp,mp,Q6 [] 0 l)]<(l.length:Int)\/Rq n [(sp,mp,Q6 [] 0 l)]= -1:=by
 simp only[Rq];split
 .rename_i i h;rcases wh h with h1|h1
  .cases h1
  .exact .inl AA
 .exact .inr rfl
def lQ{ch:List Sc}{M:ML}:∀{l:List HM} {on:LLI},(∀v,v∈l->v.HH=[])->Sh ch M on l=on
 |[],_,_=>rfl
 |v::l,on,h=>by
  simp only[Sh,List.foldl_cons,h v AD,iy,List.foldl_nil];exact lQ λu hu=>h u AdT
structure Made (s:St) (n:G8) (r:PV) (s':St) (g:Gr) (sp mp:Nat):Prop where
 res:r=.G5 g.gp 0
 gs:GS s' g
 KO:g.KO=(n.Ic++n.Gx).map HM.HI
 on:g.os.map Bp=zO [(sp,mp,Q6 [] 0 (n.Ic++n.Gx))] [] (Sh [(sp,mp,Q6 [] 0 (n.Ic++n.Gx))] (Q6 [] 0 (n.Ic++n.Gx)) ((n.Ic++n.Gx).map λ_=>[]) n.Gx) n.HE
 Ir:∀b,b<s.next->s'.heap b=s.heap b
 new:∀b,b∈g.It->s.next<=b
def AKl{n:G8}(hn:n.WF)(hd:∀v,v∈n.Je->∀u,u∈n.Ic++n.Gx->u.name≠v.name)(WA:∀x,x∈n.HE->x.G0=[])(II:n.Ic.length+n.Gx.length<=20000)(hw:oe [] n.HE<=400000000){s:St}(hf:Ha s):
  SW .Lp BW 28 [.agg n.Gy] s λr s'=>∃g sp mp,Made s n r s' g sp mp:=by
 refine(AOS (.Im .Lp) _ ?_).sw hf;have HV:n.Gy=[.HK n.name,.HC (n.Je.map Ao),.HC (n.Ic.map Ao),.HC (n.Gx.map Ao),.HC (n.HE.map Aq),I n.HI]:=n.ZV;rw[HV];obtain⟨N,hN⟩:∃N,s.next=N:=⟨_,rfl⟩
 obtain⟨s6,hs6⟩:∃s6,s6=((((((s.new (.box [.HK n.name,.HC (n.Je.map Ao),.HC (n.Ic.map Ao),.HC (n.Gx.map Ao),.HC (n.HE.map Aq),I n.HI])).new (.box [.nil,.nil])).new (.box [.RC])).set (N+2) (.box [.G5 (N+1) 0])).new (.map [])).new (.box [.map (N+3),.RC])):=⟨_,rfl⟩
 have e0:s6.next=N+5:=by rw[hs6];show s.next+1+1+1+1+1=_;omega
 have hh:∀b,b<N->s6.heap b=s.heap b:=λb hb=>by
  rw[hs6,Av (n:=N+4) AL AA,Av (n:=N+3) AQ AA,Ar AA,Av (n:=N+2) Abl AA,Av (n:=N+1) Abv AA,Av hN AA]
 have hnb:s6.heap N=some (.box [.HK n.name,.HC (n.Je.map Ao),.HC (n.Ic.map Ao),.HC (n.Gx.map Ao),.HC (n.HE.map Aq),I n.HI]):=by
  rw[hs6,Av (n:=N+4) AL AA,Av (n:=N+3) AQ AA,Ar AA,Av (n:=N+2) Abl AA,Av (n:=N+1) Abv AA];exact A3 hN
 have hgp:s6.heap (N+1)=some (.box [.nil,.nil]):=by
  rw[hs6,Av (n:=N+4) AL AA,Av (n:=N+3) AQ AA,Ar AA,Av (n:=N+2) Abl AA];exact A3 Abv
 have oK:s6.heap (N+2)=some (.box [.G5 (N+1) 0]):=by
  rw[hs6,Av (n:=N+4) AL AA,Av (n:=N+3) AQ AA];exact Ay
 have hmp:s6.heap (N+3)=some (.map []):=by
  rw[hs6,Av (n:=N+4) AL AA];exact A3 AQ
 have vk:s6.heap (N+4)=some (.box [.map (N+3),.RC]):=by
  rw[hs6];exact A3 AL
 have hf6:Ha s6:=λb hb=>by
  rw[hs6,Av (n:=N+4) AL AA,Av (n:=N+3) AQ AA,Ar AA,Av (n:=N+2) Abl AA,Av (n:=N+1) Abv AA,Av hN AA];exact hf b AA
 have hg6:GS s6 {gp:=N+1,ba:=none,KO:=[],bo:=none,os:=[]}:=⟨hgp,rfl,rfl,λp hp=>by simp at hp,AD⟩
 have hc6:LJ s6 (.G5 (N+4) 0) [(N+4,N+3,[])]:=.cons _ _ _ _ _ vk hmp rfl .nil;have L6:(MI [(N+4,N+3,([]:ML))]).Nodup:=by simp[MI]
 unfold g28;refine zw ?_;simp only[hN,List.take_zero,CX,CZ,CG,List.length_nil,CR,List.drop_succ_cons,Cv,List.cons_append,Dw,Nat.reduceAdd];rw[<- hs6];refine UT (AHR hn.Ic hf6 hg6 AB rfl hc6 L6 (T:=0) (by intro l hl;simp at hl) AA) λv s7 _ _ hq=>?_;obtain⟨rfl,g7,P7⟩:=hq;have AT3:g7.os.map Bp=n.Ic.map λ_=>[]:=by rw[P7.on,lQ hn.ASX];rfl
 have hl7:g7.os.length=n.Ic.length:=by rw[P7.len];simp
 have hi7:∀b,b∈g7.It->b=N+1\/N+5<=b:=λb hb=>by
  rcases P7.It b hb with h|h
  .simp[Gr.It]at h;exact .inl h
  .exact AiM
 have ATh:g7.gp=N+1:=P7.gp;have hk7:∀b,b≠N+1->b≠N+3->b<N+5->s7.heap b=s6.heap b:=λb h1 h2 h3=>P7.Ir b (by simp[Gr.It];exact h1) h2 AA;have AXX:=(hk7 N AA AA AA).trans hnb;have AXA:=(hk7 (N+2) AA AA AA).trans oK;have hnx7:=P7.Ki.next;refine Gu (G2 AXA rfl) ?_;refine Gu JD ?_;refine Gu (G2 AXX rfl) ?_;rw[<- ATh];refine UT (AHR hn.Gx P7.Lq P7.gs AA (by rw[P7.KO,hl7];simp) P7.chain L6 (T:=0) (by rw[AT3];intro l hl;obtain⟨_,_,rfl⟩:=B8.1 hl;simp) AA) λv s8 _ _ hq=>?_;obtain⟨rfl,g8,P8⟩:=hq;have hM:Q6 (Q6 [] 0 n.Ic) g7.os.length n.Gx=Q6 [] 0 (n.Ic++n.Gx):=by rw[wg,hl7,CR]
 have AFw:=P8.chain;have AF8:=P8.on;simp only[List.length_nil]at AFw AF8;rw[hM]at AFw AF8;have hl8:g8.os.length=n.Ic.length+n.Gx.length:=by rw[P8.len,hl7]
 have ATi:g8.gp=N+1:=P8.gp.trans ATh
 have hi8:∀b,b∈g8.It->b=N+1\/N+5<=b:=λb hb=>by
  rcases P8.It b hb with h|h
  .exact hi7 b h
  .exact AiM
 have hk8:∀b,b≠N+1->b≠N+3->b<N+5->s8.heap b=s6.heap b:=λb h1 h2 h3=>by
  rw[P8.Ir b (λh=>by rcases hi7 b h with h|h<;>omega) h2 AA];exact hk7 b h1 h2 h3
 have ATx:=(hk8 N AA AA AA).trans hnb;have AXB:=(hk8 (N+2) AA AA AA).trans oK;have hnx8:=P8.Ki.next;have ATK:=AFw;cases ATK with
 |cons _ _ _ pv _ c1 c2 c3 c4=>
 refine Gu JD ?_;refine Gu (G2 ATx rfl) ?_;refine Gu Adw ?_;rw[BX];refine⟨_,vx hn.Je.len (λv hv=>?_) n.Je.length 0 AA AA P8.Lq c1 c2 c3 λs9 k1 k2 k3=>?_⟩
 .rw[XJ λu hu he=>hd v hv u hu he];rfl
 have hg9:GS s9 g8:=P8.gs.Ir λb hb=>k1 b (P8.gs.lt P8.Lq hb);have AWz:=AFw.Ir λb hb=>k1 b (AFw.lt P8.Lq hb);have ATe:=(k1 (N+2) AA).trans AXB;have AXY:=(k1 N AA).trans ATx;have API:(n.Ic++n.Gx).map (λ_=>([]:LI))=(n.Ic.map λ_=>[])++n.Gx.map λ_=>[]:=Br;rw[AT3,<- API]at AF8;unfold r6;refine Gu (G2 ATe rfl) ?_;refine Gu JD ?_;refine Gu (G2 AXY rfl) ?_;rw[<- ATi]
 have hT8:Lg (g8.os.map Bp) (0+17*n.Gx.length):=by
  rw[AF8];exact Yi (λv hv=>(hn.Gx.all v hv).HH) (by intro l hl;obtain⟨_,_,rfl⟩:=B8.1 hl;simp)
 refine UT (AGX (mv:=.nil) (JC:=[]) rfl AD hn.len hn.HE WA k3 hg9 AWz rfl hT8 AA λnm=>?_) λv s10 _ _ hq=>?_
 .rw[hl8];rcases AGd (sp:=N+4) (mp:=N+3) (l:=n.Ic++n.Gx) nm (.inr trivial)with h|h
  .simpa using h
  .rw[h];omega
 obtain⟨rfl,g10,K10,AYc⟩:=hq
 have ATd:s10.heap (N+2)=some (.box [.G5 (N+1) 0]):=by
  rw[K10.at (λh=>by rcases hi8 _ h with h|h<;>omega) (by have:=k2.next;omega)];exact ATe
 refine Gu (G2 ATd rfl) ?_;refine Gu iT ?_;refine Ls (Q:=λr s'=>∃g sp mp,Made s n r s' g sp mp) rfl ⟨g10,N+4,N+3,?_,K10.gs,?_,?_,λb hb=>?_,λb hb=>?_⟩
 .rw[K10.gp,ATi];rfl
 .rw[K10.KO,P8.KO,P7.KO];simp
 .rw[AYc,AF8]
 .have hb:b<N:=AA;rw[K10.at (λh=>by rcases hi8 _ h with h|h<;>omega) (by have:=k2.next;omega),k1 b AA,hk8 b AA AA AA];exact hh b hb
 .rcases K10.It hb with h|h
  .rcases hi8 b h with h|h<;>omega
  .have:=k2.next;omega
end
end Go.Vi
