/- Part of the proof of CauseChecks (own work, made small). -/
import Derived.Test.YtlonlfiaclacdaaGreatC1
import Derived.Test.YtlonlfiaclacdaaGreatL3
import Derived.Test.YtlonlfiaclacdaaGreatF3
import Derived.Test.YtlonlfiaclacdaaGreatG2
import Derived.Test.YtlonlfiaclacdaaGreatU2
set_option linter.all false
set_option maxRecDepth 100000
open Go renaming FuncId->B9,Program->Cf
open Go.ByteArray renaming toList_eq->C8
open Go.Proofs.Tryz renaming prog->BZ
open Go.Vi.Edge renaming GG->A9
open Go.Vi.GD renaming O3->BM,GG->A8,wt->BG,HS->Ax
open Go.Vi.GO renaming GG->Ay,HS->BC
open Go.Vi.Ge renaming GG->Am
open Go.Vi.Gj renaming GG->Aw
open Go.Vi.I1 renaming is->BH
open Go.Vi.Item renaming O3->BL,GG->Aq,wt->BF,HS->As
open Go.Vi.St renaming H3->Az,HJ->A4
open List renaming append_nil->CG,getElem?_eq_getElem->Bc,getElem_mem->Bl,length_cons->CE,mem_cons->Bm,mem_of_getElem?->Bn,mem_singleton->By,nil_append->CC,not_mem_nil->Cn,set_cons_succ->Cb,set_cons_zero->Ca
open Nat renaming le_refl->Bg,zero_add->CZ
namespace Go.Vi
section
open Go.Proofs Go.Ti
def bXY:(bX.toList==bY.toList)=false:=by rw[C8,C8];rfl
def bYX:(bY.toList==bX.toList)=false:=by rw[C8,C8];rfl
section
variable{e:Gw} {a b:Int}
def ACT(x:BA)(a:Int):(eV x a).WF:=.mk _ _ _ _ _ _ _ _ _ AZ0 AA AA AA AA (by intro k hk;cases hk)
def AJB(n a:Int):(eK n a).WF:=.mk _ _ _ _ _ _ _ _ _ AZ0 AA AA AA AA (by intro k hk;cases hk)
def AEc(he:e.WF)(hw:e.wt<=100):zJ [ZZ e a b]:=by
 refine⟨λn hn=>?_,AD,?_⟩
 .rw[By.1 hn];refine⟨⟨by simp[ZZ],(λv hv=>by cases hv)⟩,⟨by simp[ZZ],λv hv=>?_⟩,⟨by simp[ZZ],λv hv=>?_⟩,by simp[ZZ],λi hi=>?_,(λv hv=>by cases hv),λv hv=>?_⟩
  .rw[By.1 hv];exact⟨AD,AD⟩
  .rw[By.1 hv];exact⟨AD,AD⟩
  .simp only[ZZ,Bm,Cn,or_false]at hi;rcases hi with rfl|rfl
   .exact .mk _ _ _ _ AD he AD Ach
   .exact .mk _ _ _ _ AD (ACT _ _) AD Ach
  .rw[By.1 hv]
 .have h1:(eV bX a).wt=1:=by simp[eV,Gw.wt,Gw.HS]
  simp[BC,GO.wt,ZZ,As,BF,Ax,h1];omega
def AJP:Kv [bX,bY] bX=true:=by simp[Kv]
def AC2:Kv [bX,bY] bY=true:=by simp[Kv]
def ug{x:BA}{a:Int}{N:List GO}(h:Kv [bX,bY] x=true):OM N [bX,bY] 0 (eV x a):=.mk _ _ _ _ _ _ _ _ _ (λ_=>h) (λh=>by simp[KP]at h) (λh=>by omega) (λk hk=>by cases hk)
def ACS{n a:Int}{N:List GO}:OM N [bX,bY] 0 (eK n a):=.mk _ _ _ _ _ _ _ _ _ (λh=>by omega) (λh=>by simp[KP]at h) (λh=>by omega) (λk hk=>by cases hk)
def sH(hr:OM [ZZ e a b] [bX,bY] 0 e):Vk [ZZ e a b]:=by
 intro q hq;have h0:q=0:=by simp at hq;exact hq
 subst h0;have hv:(ZZ e a b).vars=[bX,bY]:=rfl;have hm:(ZZ e a b).ve=[bX,bY]:=rfl;refine⟨?_,λx hx=>?_,λv hv=>?_,λx hx=>?_⟩
 .show gY [bX,bY];intro q h;have:q=0\/q=1:=by simp at h;omega
  rcases this with rfl|rfl
  .rfl
  .simp[Kv,bXY]
 .show NI _ _ [bX,bY] [bX,bY] x;have hx:x∈(ZZ e a b).GQ:=hx;simp only[ZZ,Bm,Cn,or_false]at hx;rcases hx with rfl|rfl
  .exact .eq _ _ _ _ _ (λn hn=>by rw[By.1 hn];exact AJP) hr
  .exact .eq _ _ _ _ _ (λn hn=>by rw[By.1 hn];exact AC2) (ug AJP)
 .have hv:v∈(ZZ e a b).GA:=hv;simp only[ZZ,Bm,Cn,or_false]at hv;rw[hv];intro c hc;cases hc
 .have hx:x∈(ZZ e a b).GQ:=hx;simp only[ZZ,Bm,Cn,or_false]at hx;rcases hx with rfl|rfl
  .exact .mk _ _ _ _ _ Ach
  .exact .mk _ _ _ _ _ Ach
def f_x:(ZZ e a b).fR bX=0:=by show S4 (λ_=> -1) 0 [⟨bX,2,0,[],18⟩,⟨bY,2,0,[],29⟩] bX=0;simp[S4,Le,Mv,IQ,BH,bXY,bYX]
def f_y:(ZZ e a b).fR bY=1:=by show S4 (λ_=> -1) 0 [⟨bX,2,0,[],18⟩,⟨bY,2,0,[],29⟩] bY=1;simp[S4,Le,Mv,IQ,BH,bXY,bYX]
def ACV{u w:Int}:(ZZ e a b).ed false (ZZ e a b).fR 2 u w<->(u=0/\∃m,m∈Li e/\(ZZ e a b).fR m=w)\/(u=1/\w=0):=by
 have hr:Li (eV bX a)=[bX]:=by simp[eV,Li,Qt]
 simp only[GO.ed,ZZ,BL,Item.ed,BM];constructor
 .rintro(⟨v,hv,_,c,hc,_⟩|h)
  .rw[By.1 hv]at hc;cases hc
  .rcases h with(⟨_,n,hn,h1,h2⟩|h)|(⟨_,n,hn,h1,h2⟩|h)|h
   .rw[By.1 hn]at h1;refine .inl ⟨?_,h2.resolve_left id⟩;rw[<- h1];exact f_x
   .exact h.elim
   .rw[By.1 hn]at h1;obtain⟨m,hm,h3⟩:=h2.resolve_left id;rw[hr,By]at hm;rw[hm]at h3;exact .inr ⟨by rw[<- h1];exact f_y,by rw[<- h3];exact f_x⟩
   .exact h.elim
   .exact h.elim
 .rintro(⟨rfl,h⟩|⟨rfl,rfl⟩)
  .exact .inr (.inl (.inl ⟨trivial,bX,By.2 rfl,f_x,.inr h⟩))
  .exact .inr (.inr (.inl (.inl ⟨trivial,bY,By.2 rfl,f_y,.inr ⟨bX,by rw[hr];exact By.2 rfl,f_x⟩⟩)))
end
def APv:qL [ZZ eP 57 53] 18 29:=by
 refine .Zs _ _ 0 18 rfl (?_:R _ 0 0) λu hu=>by omega
 have hr:Li eP=[bY]:=by simp[eP,eV,eK,Li,Qt]
 refine .step 0 1 0 (vf.2 ?_) (.one 1 0 (vf.2 ?_))
 .exact ACV.2 (.inl ⟨rfl,bY,by rw[hr];simp,f_y⟩)
 .exact ACV.2 (.inr ⟨rfl,rfl⟩)
def APu:qL [ZZ eQ 62 58] 0 0:=by
 refine .skip _ _ _ _ (λv hv Yd=>?_) .nil;have hr:Li eQ=[]:=by simp[eQ,eV,eK,Li,Qt]
 have he:∀{u w:Nat},w∈(ZZ eQ 62 58).gr0 u->u=1/\w=0:=λ{u w} h=>by
  rcases ACV.1 (vf.1 h)with⟨_,m,hm,_⟩|⟨h1,h2⟩
  .rw[hr]at hm;cases hm
  .omega
 have key:∀{u w:Nat},R (ZZ eQ 62 58).gr0 u w->u=1/\w=0:=λ{u w} h=>by
  induction h with
  |one v w h=>exact he h
  |step v w x h _ ih=>obtain⟨h1,h2⟩:=he h;omega
 have:=key Yd;omega
def tR{t:BA}{n:GO}(h:wj t n=true):PC BZ 19 [.Gh t] [] (si [n] true) []:=by
 obtain⟨y,hy,hs⟩:=AEs h;refine XI hs λr _ hr=>?_;rw[hr]
 have h1:YU (.agg [y])=some (.agg [.GV ([n].map Ay)]):=by
  show(match JC [y]with
   |some k=>some (PV.agg k)
   |none=>none)=_
  simp only[JC,hy]
 have h2:eW [.agg [y],.bool true]=some [.agg [.GV ([n].map Ay)],.bool true]:=by
  simp only[eW,h1];rfl
 simp only[OB,h2,si]
def vj(e:Int):PC BZ 16 [.int .i64 e] [] (.int .i64 e) []:=by
 have:PQ BZ 16 [.int .i64 e] [] (λr c=>c=[]/\r=.int .i64 e):=by
  refine AKm 0 rfl _ ?_;unfold c16;refine Fy Il ?_;exact Adx
 exact Adh
end
section
open Go.Proofs
def AGs:PC BZ 14 [.agg [.GV ([ZZ eP 57 53].map Ay)]] [] (.tuple [.int .i64 18,.int .i64 29]) []:=
 il (AEc (.mk _ _ _ _ _ _ _ _ _ AZ0 AA AA AA AA (λk hk=>by
  simp only[Bm,Cn,or_false]at hk;rcases hk with rfl|rfl
  .exact ACT _ _
  .exact AJB _ _)) (by simp[eP,eV,eK,Gw.wt,Gw.HS])) (sH (.mk _ _ _ _ _ _ _ _ _ (λh=>by omega) (λh=>by simp[KP]at h) (λh=>by omega) (λk hk=>by
  simp only[Bm,Cn,or_false]at hk;rcases hk with rfl|rfl
  .exact ug AC2
  .exact ACS))) APv
def AGr:PC BZ 14 [.agg [.GV ([ZZ eQ 62 58].map Ay)]] [] (.tuple [.int .i64 0,.int .i64 0]) []:=
 il (AEc (.mk _ _ _ _ _ _ _ _ _ AZ0 AA AA AA AA (λk hk=>by
  simp only[Bm,Cn,or_false]at hk;rcases hk with rfl|rfl
  .exact AJB _ _
  .refine .mk _ _ _ _ _ _ _ _ _ AZ0 AA AA AA AA λk hk=>?_;rw[By.1 hk];exact ACT _ _)) (by simp[eQ,eV,eK,Gw.wt,Gw.HS])) (sH (.mk _ _ _ _ _ _ _ _ _ (λh=>by omega) (λh=>by simp[KP]at h) (λh=>by omega) (λk hk=>by
  simp only[Bm,Cn,or_false]at hk;rcases hk with rfl|rfl
  .exact ACS
  .refine .mk _ _ _ _ _ _ _ _ _ (λh=>by omega) (λh=>by simp[KP]at h) (λh=>by omega) λk hk=>?_;rw[By.1 hk];exact ug AC2))) APu
def ABs:PC BZ 12 [] [] (.bool true) []:=by
 have:PQ BZ 12 [] [] (λr c=>c=[]/\r=.bool true):=by
  refine AKk 0 rfl ?_;unfold c12;refine zv ?_;refine AZa (tR ASW) ?_;simp only[Gx,si,Jl];refine zv ?_;refine AZa (tR ASV) ?_;simp only[Gx,si,Jl];refine zv ?_;refine AZa AGs ?_;simp only[Gx,Jl];refine zv ?_;refine AZa AGr ?_;simp only[Gx,Jl];refine zv ?_;refine AWd (vj 29) ?_;simp only[Ky,Jl];refine zv ?_;refine AWd (vj 0) ?_;simp only[Ky,Jl];refine zv ?_;exact Adx
 obtain⟨r,c,hp,rfl,rfl⟩:=this;exact hp
end
attribute [local irreducible] H0 HR Gp Ht Gf Hu GJ GM Gc HK HC JI G6 Hs Hq Ho JZ Jd Ip JN JW G2 Gq Hb pQ I2 Ic Gn Gb Gs HA HZ H8 Int.instDecidableEq Int.decEq instBEqOfDecidableEq
section
open Go.Proofs
section
variable{s:St} {t:TypeId}
def ASe{k:IntKind}{x:Int}:H8 (HC BZ .neq t (.int k x) (.int k x)) s (.bool false) s [] []:=Gt (by
 show(if k=k then some (PV.bool (x !=x))else none)=_;simp)
def ASf{x:BA}:H8 (HC BZ .neq t (.Gh x) (.Gh x)) s (.bool false) s [] []:=Gt (by
 show some (PV.bool (!(x.toList==x.toList)))=_;simp)
def AIX{k:IntKind}{x:Int}:H8 (HC BZ .eql t (.int k x) (.int k x)) s (.bool true) s [] []:=Gt (by
 show(if k=k then some (PV.bool (x==x))else none)=_;simp)
def ASc{x:BA}:H8 (HC BZ .eql t (.Gh x) (.Gh x)) s (.bool true) s [] []:=Gt (by
 show some (PV.bool (x.toList==x.toList))=_;simp)
def AW4{x:Bool}:H8 (HC BZ .neq 4 (.bool x) (.bool x)) s (.bool false) s [] []:=Gt (by cases x<;>kernel_rfl)
def AW5{x y:Int}:H8 (HC BZ .neq 74 (.agg [I x,I y]) (.agg [I x,I y])) s (.bool false) s [] []:=Gt ((AFB x y x y).trans AD)
def ASd{x:Edge}:H8 (HC BZ .neq 80 (.agg x.GG) (.agg x.GG)) s (.bool false) s [] []:=Gt ((ACU x.name x.name x.on x.on).trans AD)
end
def zy{p:Prop}(h:p:=by first|exact ASe|exact ASf|exact AW4|exact AW5|exact ASd|exact AIX|exact ASc|exact zo):p:=h
def zm{A B:Prop}(h:B)(k:ZH B->A:=by intro zq;(repeat(first|(apply Fy;· exact zy)|refine ct ?_|refine cf ?_|(apply GR;· exact zy)|refine ACw ?_|refine bH ?_|refine ACx ?_|refine dd ?_|refine jg ?_|(apply LZ;· exact zy)|(apply KS;· exact zy)|refine vC ?_|refine z8 ?_));exact zq.out):A:=k ⟨h⟩
def zx{p:Prop}(h:p:=by first|exact Gk AA AN AN|exact Hg AN|exact MB AN|exact zy):p:=h
def zn2{A B:Prop}(h:B)(k:ZH B->A:=by intro zq;(repeat(first|(apply Fy;· exact zx)|refine ct ?_|refine cf ?_|(apply GR;· exact zx)|refine ACw ?_|refine bH ?_|refine ACx ?_|refine dd ?_|refine jg ?_|(apply LZ;· exact zx)|(apply KS;· exact zx)|refine vC ?_|refine z8 ?_));exact zq.out):A:=k ⟨h⟩
def zx3{p:Prop}(h:p:=by first|exact GH AN AN|exact M7 AN AN|exact zx):p:=h
def zn3{A B:Prop}(h:B)(k:ZH B->A:=by intro zq;(repeat(first|(apply Fy;· exact zx3)|refine ct ?_|refine cf ?_|(apply GR;· exact zx3)|refine ACw ?_|refine bH ?_|refine ACx ?_|refine dd ?_|refine jg ?_|(apply LZ;· exact zx3)|(apply KS;· exact zx3)|refine vC ?_|refine z8 ?_));exact zq.out):A:=k ⟨h⟩
abbrev xD:PV->LLP->Prop:=λr c=>c=[]/\r=.bool true
def AEa{f:B9}{args:LP}(h:PQ BZ f args [] xD):PC BZ f args [] (.bool true) []:=by obtain⟨r,c,IE,rfl,rfl⟩:=h;exact IE
def np(e:Gw):JA [.agg e.GG,.agg e.GG,.bool true] 0=some ([.agg e.GG,.agg e.GG,.bool true],[]):=by simp[JA,PV.lI,e.JC,PV.data]
def AKG{e:Gw}(he:e.WF):PC BZ 51 [.agg e.GG,.agg e.GG,.bool true] [] (.bool true) []:=by
 induction he with
 |mk form sub name tk tl n m GP GY Qz hf0 hs td ht hk ih=>
 have fQ:=Qz.2.2.2.2;have Gl:(Gw.mk form sub name tk tl n m GP GY).GG=[I form,I sub,.Gh name,I tk,I tl,I n,I m,.GV (GP.map Gw.GG),I GY]:=Gw.IC _
 have loop:∀(c i:Nat),GP.length-i=c->i<=GP.length->∀s:St,s.heap 0=some (.box (Gw.mk form sub name tk tl n m GP GY).GG)->s.heap 1=some (.box (Gw.mk form sub name tk tl n m GP GY).GG)->fl 0 0 xD (c+1) (.bool true) (.GN 0 0) (.GN 1 0) (I i) s:=by
  intro c
  induction c with
  |zero=>
   intro i hc hi s h0 h1;rw[Gl]at h0 h1;show WU _ _ _ _ _ _ _ _ _;unfold WU;refine Fy Hj ?_;refine Fy AdG ?_;refine Fy (H5 (GK:=GP.map Gw.GG) rfl) ?_;refine Fy AcW ?_;refine cf ?_;unfold oL;exact Adx
  |succ c Xy=>
   intro i hc hi s h0 h1;have G7:i<GP.length:=AA;have hki:GP[i]?=some GP[i]:=Bc G7;have hih:=ih GP[i] (Bl G7);have pJ:=Xy (i+1) AA G7 s h0 h1;rw[Gl]at h0 h1;show WU _ _ _ _ _ _ _ _ _;unfold WU;refine Fy Hj ?_;refine Fy AdG ?_;refine Fy (H5 (GK:=GP.map Gw.GG) rfl) ?_;refine Fy AcX ?_;refine ct ?_;refine GR Hj ?_;refine GR AdG ?_;refine GR AcP ?_;refine GR (IB GP[i].GX) ?_;refine GR Hj ?_;refine GR (GH h1 rfl) ?_;refine GR AcP ?_;refine GR (IB GP[i].GX) ?_;refine Gy hih (np _) rfl rfl rfl ?_;simp only[MK,Jl];refine GR Lq ?_;refine⟨by simp[Hl,IA,Iy,H2],?_⟩;refine Fy S8 ?_;refine cf ?_;exact Ae6
 refine AEa (AK0 0 rfl _ _ _ ?_);rw[Gl];unfold c51;refine zm ?_;rw[<- Gl];exact⟨_,loop GP.length 0 AA AA _ zh zh⟩
def ZU{α:Type}{l:List α}{f:α->LP}{i:Nat}{x:α}(h:l[i]?=some x):(l.map f)[((i:Nat):Int).toNat]?=some (f x):=by simp[h]
def AKH{l:List Gj}(hl:NN.WF l):PC BZ 52 [.GV (l.map Aw),.GV (l.map Aw),.bool true] [] (.bool true) []:=by
 have HM:=hl.len
 have loop:∀(c i:Nat),l.length-i=c->i<=l.length->∀s:St,xJ 0 0 xD (c+1) (.GV (l.map Aw)) (.GV (l.map Aw)) (.bool true) (I i) s:=by
  intro c
  induction c with
  |zero=>
   intro i hc hi s;show iI _ _ _ _ _ _ _ _ _;unfold iI;refine Fy (H5 (GK:=l.map Aw) rfl) ?_;refine Fy AcW ?_;refine cf ?_;unfold ACA;exact Adx
  |succ c Xy=>
   intro i hc hi s;have G7:i<l.length:=AA;obtain⟨t,ht⟩:∃t,l[i]?=some t:=⟨_,Bc G7⟩
   have hw:=hl.all t (Bn ht);have h1:=ZU (f:=Aw) ht;have h2:=t.GX;have h9:=t.cond.GX
   have h3:TF 9 t.GG 0=some (.agg t.cond.GG):=by
    simp only[TF,CZ,t.GX];rw[Ps AA];simp[Aw,h9]
   have h4:t.GG[9]?=some (.Gh t.to):=by unfold Aw;rw[Gw.IC];rfl
   have h5:t.GG[10]?=some (.bool t.uZ):=by unfold Aw;rw[Gw.IC];rfl
   have h6:t.GG[11]?=some (I t.GY):=by unfold Aw;rw[Gw.IC];rfl
   show iI _ _ _ _ _ _ _ _ _;unfold iI;refine Fy (H5 (GK:=l.map Aw) rfl) ?_;refine Fy AcX ?_;refine zn2 ?_;refine Gy (AKG hw) (np _) rfl rfl rfl ?_;simp only[MK,Jl];refine GR Lq ?_;refine⟨by simp[Hl,IA,Iy,H2],?_⟩;refine zn2 ?_;refine⟨by simp[Hl,IA,Iy,H2],?_⟩;refine cf ?_;exact AfF
 refine AEa (AK1 0 rfl _ _ _ ?_);unfold c52;exact Afv
def yx{l:List Ge}(hl:TB.WF l):PC BZ 32 [.GV (l.map Am),.GV (l.map Am),.bool true] [] (.bool true) []:=by
 have HM:=hl.len
 have loop:∀(c i:Nat),l.length-i=c->i<=l.length->∀s:St,iA 0 0 xD (c+1) (.GV (l.map Am)) (.GV (l.map Am)) (.bool true) (I i) s:=by
  intro c
  induction c with
  |zero=>
   intro i hc hi s;show iB _ _ _ _ _ _ _ _ _;unfold iB;refine Fy Abj ?_;refine Fy AcW ?_;refine cf ?_;unfold AB8;exact Adx
  |succ c Xy=>
   intro i hc hi s;have G7:i<l.length:=AA;obtain⟨v,hv⟩:∃v,l[i]?=some v:=⟨_,Bc G7⟩
   have Pq:=(hl.all v (Bn hv)).Ga;have h1:=ZU (f:=Am) hv;have h2:v.GG.length=5:=rfl
   have ev:∀(d j:Nat),v.Ga.length-j=d->j<=v.Ga.length->fh 0 0 xD (iA 0 0 xD (c+1)) (d+1) (.GV (l.map Am)) (.GV (l.map Am)) (.bool true) (I i) (I j) s:=by
    intro d
    induction d with
    |zero=>
     intro j hd hj;show WH _ _ _ _ _ _ _ _ _ _ _;unfold WH;refine Fy Aco ?_;refine Fy Pw ?_;refine Fy (Hg rfl) ?_;refine Fy AcG ?_;refine Fy AcW ?_;refine cf ?_;unfold uR;exact AfF
    |succ d ihd=>
     intro j hd hj;have jq:j<v.Ga.length:=AA;obtain⟨x,hx⟩:∃x,v.Ga[j]?=some x:=⟨_,Bc jq⟩
     have h3:=ZU (f:=A9) hx;show WH _ _ _ _ _ _ _ _ _ _ _;unfold WH;refine Fy Aco ?_;refine Fy Pw ?_;refine Fy (Hg rfl) ?_;refine Fy AcG ?_;refine Fy AcX ?_;refine ct ?_;refine GR Aco ?_;refine GR Pw ?_;refine GR AcQ ?_;refine GR (Gk AA h3 rfl) ?_;refine GR (IB rfl) ?_;refine GR Aco ?_;refine GR Pw ?_;refine GR AcQ ?_;refine GR (Gk AA h3 rfl) ?_;refine GR (IB rfl) ?_;refine GR ASd ?_;refine⟨by simp[Hl,IA,Iy,H2],?_⟩;refine cf ?_;refine Fy AbS ?_;refine Fy Il ?_;exact ihd (j+1) AA jq
   show iB _ _ _ _ _ _ _ _ _;unfold iB;refine Fy Abj ?_;refine Fy AcX ?_;refine zn2 ?_;refine⟨by simp[Hl,IA,Iy,H2],?_⟩;refine cf ?_;exact⟨_,ev v.Ga.length 0 AA AA⟩
 refine AEa (AKs 0 rfl _ _ _ ?_);unfold c32;exact Afv
def ASg:∀(c:Nat) (l:List Item),As l<=c->l.length<=100000->(∀x,x∈l->x.WF)->PC BZ 33 [.GV (l.map Aq),.GV (l.map Aq),.bool true] [] (.bool true) []:=by
 intro c
 induction c using Nat.strongRecOn with
 |ind c IH=>
 intro l hlc HM hw
 have loop:∀(c i:Nat),l.length-i=c->i<=l.length->∀s:St,WK 0 0 xD (c+1) (.GV (l.map Aq)) (.GV (l.map Aq)) (.bool true) (I i) s:=by
  intro c
  induction c with
  |zero=>
   intro i hc hi s;show iC _ _ _ _ _ _ _ _ _;unfold iC;refine Fy Ab4 ?_;refine Fy AcW ?_;refine cf ?_;unfold AB9;exact Adx
  |succ c Xy=>
   intro i hc hi s;have G7:i<l.length:=AA;obtain⟨x,hx⟩:∃x,l[i]?=some x:=⟨_,Bc G7⟩
   have hxm:=Bn hx;have lF:=hw x hxm;have h1:=ZU (f:=Aq) hx;have h2:=x.GX;have r0:=x.r0;have Vj:=x.Vj;have wF:=x.wF;have rc:=x.cut;obtain⟨hwe,Pr,La,vP⟩:x.e.WF/\x.GL.length<=100000/\x.GB.length<=100000/\∀st,st∈x.GB->st.WF:=by cases lF with|mk _ _ _ _ k1 k2 k3 k4=>exact⟨k2,k1,k3,k4⟩
   have qV:∀st,st∈x.GB->As st.GQ<As l:=λst I0=>by
    obtain⟨a,b,qS⟩:=List.append_of_mem I0;have e1:Ax x.GB=Ax (a++st::b):=by rw[qS]
    rw[GD.HY]at e1;have e2:Ax x.GB<=x.wt:=by obtain⟨_,_,_,_⟩:=x;simp only[BF,Item.GB];omega
    have e3:x.wt<=As l:=by
     obtain⟨a,b,rfl⟩:=List.append_of_mem hxm;rw[Item.HY];simp only[As];omega
    have e4:As st.GQ<st.wt:=by cases st;simp only[BG,GD.GQ];omega
    simp only[Ax]at e1;omega
   have fin:∀s,fi 0 0 xD (WK 0 0 xD (c+1)) (.GV (l.map Aq)) (.GV (l.map Aq)) (.bool true) (I i) (.bool true) s:=λs=>by
    unfold fi;refine Fy S8 ?_;refine cf ?_;exact AfF
   have sts:∀(d j:Nat),x.GB.length-j=d->j<=x.GB.length->∀{b1 b2:Nat} (s:St),s.heap b1=some (.box x.GG)->s.heap b2=some (.box x.GG)->b1<s.next->b2<s.next->fj 0 0 xD (WK 0 0 xD (c+1)) (d+1) (.GV (l.map Aq)) (.GV (l.map Aq)) (.bool true) (I i) (.GN b1 0) (.GN b2 0) (.bool true) (I j) s:=by
    intro d
    induction d with
    |zero=>
     intro j hd hj b1 b2 s Lz L0 _ _;show WI _ _ _ _ _ _ _ _ _ _ _ _ _ _;unfold WI;refine Fy Hj ?_;refine Fy (GH Lz Vj) ?_;refine Fy Abm ?_;refine Fy AcW ?_;refine bH ?_;refine Fy Pc ?_;refine cf ?_;exact fin s
    |succ d ihd=>
     intro j hd hj b1 b2 s Lz L0 YK cM;have jq:j<x.GB.length:=AA;obtain⟨st,I0⟩:∃st,x.GB[j]?=some st:=⟨_,Bc jq⟩
     have ARi:=Bn I0;have AWB:=vP st ARi;have h3:=ZU (f:=A8) I0;have Gl:=st.IC;obtain⟨g1,g2,g3,g4,g5⟩:NN.WF st.JB/\NN.WF st.Jg/\TB.WF st.GA/\st.GQ.length<=100000/\∀i,i∈st.GQ->i.WF:=by cases AWB with|mk _ _ _ _ _ _ k1 k2 k3 k4 k5=>exact⟨k1,k2,k3,k4,k5⟩
     have hI:=@IH (As st.GQ) (by have:=qV st ARi;omega) st.GQ (Bg _) g4 g5;obtain⟨s2,JY⟩:∃s2,s2=(((s.new (.box [.Gh ⟨#[]⟩,.nil,.nil,.nil,.nil,I 0])).set s.next (.box st.GG)).new (.box [.Gh ⟨#[]⟩,.nil,.nil,.nil,.nil,I 0])).set (s.next+1) (.box st.GG):=⟨_,rfl⟩
     have p1:s2.heap s.next=some (.box st.GG):=by rw[JY];exact zh
     have p2:s2.heap (s.next+1)=some (.box st.GG):=by rw[JY];exact zh
     have q1:s2.heap b1=some (.box x.GG):=by rw[JY];exact zh
     have q2:s2.heap b2=some (.box x.GG):=by rw[JY];exact zh
     have gJ:s2.next=s.next+2:=by rw[JY];rfl
     have t0:st.GG[0]?=some (.Gh st.name):=by rw[Gl];rfl
     have t1:st.GG[1]?=some (.GV (st.JB.map Aw)):=by rw[Gl];rfl
     have t2:st.GG[2]?=some (.GV (st.Jg.map Aw)):=by rw[Gl];rfl
     have t3:st.GG[3]?=some (.GV (st.GA.map Am)):=by rw[Gl];rfl
     have t4:st.GG[4]?=some (.GV (st.GQ.map Aq)):=by rw[Gl];rfl
     have t5:st.GG[5]?=some (I st.GY):=by rw[Gl];rfl
     have pJ:=ihd (j+1) AA jq s2 q1 q2 AA AA;show WI _ _ _ _ _ _ _ _ _ _ _ _ _ _;unfold WI;refine Fy Hj ?_;refine Fy (GH Lz Vj) ?_;refine Fy Abm ?_;refine Fy AcX ?_;refine dd ?_;refine Fy Og ?_;refine ct ?_;refine Fy Hj ?_;refine Fy (GH Lz Vj) ?_;refine Fy (Gk AA h3 st.GX) ?_;refine Fy (IB st.GX) ?_;refine Fy (Lw rfl) ?_;refine Fy (IZ (Az rfl) st.GX st.Vb rfl) ?_;refine Fy Hj ?_;refine Fy (GH (cs:=x.GG) zh Vj) ?_;refine Fy (Gk AA h3 st.GX) ?_;refine Fy (IB st.GX) ?_;refine Fy (Lw rfl) ?_;refine Fy (IZ (Az rfl) st.GX st.Vb rfl) ?_;rw[show((s.new (.box [.Gh ⟨#[]⟩,.nil,.nil,.nil,.nil,I 0])).set s.next (.box st.GG)).next=s.next+1 from rfl,<- JY];refine zn3 ?_;refine AZa (AKH g1) ?_;refine zn3 ?_;refine AZa (AKH g2) ?_;refine zn3 ?_;refine AZa (yx g3) ?_;refine zn3 ?_;refine AZa hI ?_;refine Fy Lq ?_;refine dd ?_;refine Fy Og ?_;refine dd ?_;refine Fy Og ?_;refine dd ?_;refine Fy Og ?_;refine LZ Hj ?_;refine LZ (GH p1 t0) ?_;refine LZ Hj ?_;refine LZ (GH p2 t0) ?_;refine LZ ASc ?_;refine Fy Og ?_;refine dd ?_;refine LZ S8 ?_;refine dd ?_;refine KS Hj ?_;refine KS (GH p1 t5) ?_;refine KS Hj ?_;refine KS (GH p2 t5) ?_;refine KS AIX ?_;refine LZ Pc ?_;refine Fy Og ?_;refine Fy Lq ?_;exact Ae6
   have nms:∀(d j:Nat),x.GL.length-j=d->j<=x.GL.length->∀{b1 b2:Nat} (s:St),s.heap b1=some (.box x.GG)->s.heap b2=some (.box x.GG)->b1<s.next->b2<s.next->fk 0 0 xD (WK 0 0 xD (c+1)) (d+1) (.GV (l.map Aq)) (.GV (l.map Aq)) (.bool true) (I i) (.GN b1 0) (.GN b2 0) (.bool true) (I j) s:=by
    intro d
    induction d with
    |zero=>
     intro j hd hj b1 b2 s Lz L0 YK cM;show WJ _ _ _ _ _ _ _ _ _ _ _ _ _ _;unfold WJ;refine Fy Hj ?_;refine Fy (GH Lz r0) ?_;refine Fy AcH ?_;refine Fy AcW ?_;refine cf ?_;unfold uS;exact⟨_,sts x.GB.length 0 AA AA s Lz L0 YK cM⟩
    |succ d ihd=>
     intro j hd hj b1 b2 s Lz L0 YK cM;have jq:j<x.GL.length:=AA;obtain⟨nm,Vh⟩:∃nm,x.GL[j]?=some nm:=⟨_,Bc jq⟩
     have h3:=ZU (f:=GC) Vh;have h4:(GC nm).length=1:=rfl;have pJ:=ihd (j+1) AA jq s Lz L0 YK cM;show WJ _ _ _ _ _ _ _ _ _ _ _ _ _ _;unfold WJ;refine Fy Hj ?_;refine Fy (GH Lz r0) ?_;refine Fy AcH ?_;refine Fy AcX ?_;refine ct ?_;refine zn3 ?_;refine⟨by simp[Hl,IA,Iy,H2],?_⟩;exact Ae6
   obtain⟨s2,JY⟩:∃s2,s2=(((s.new (.box [.nil,I 0,I 0,.Gh ⟨#[]⟩,I 0,I 0,I 0,I 0,.nil,I 0,.nil,I 0])).set s.next (.box x.GG)).new (.box [.nil,I 0,I 0,.Gh ⟨#[]⟩,I 0,I 0,I 0,I 0,.nil,I 0,.nil,I 0])).set (s.next+1) (.box x.GG):=⟨_,rfl⟩
   have p1:s2.heap s.next=some (.box x.GG):=by rw[JY];exact zh
   have p2:s2.heap (s.next+1)=some (.box x.GG):=by rw[JY];exact zh
   have gJ:s2.next=s.next+2:=by rw[JY];rfl
   have pJ:=nms x.GL.length 0 AA AA s2 p1 p2 AA AA;show iC _ _ _ _ _ _ _ _ _;unfold iC;refine Fy Ab4 ?_;refine Fy AcX ?_;refine ct ?_;refine Fy Aco ?_;refine Fy (IB h2) ?_;refine Fy (Lw rfl) ?_;refine Fy (IZ (Az rfl) h2 x.Vb rfl) ?_;refine Fy Aco ?_;refine Fy (IB h2) ?_;refine Fy (Lw rfl) ?_;refine Fy (IZ (Az rfl) h2 x.Vb rfl) ?_;rw[show((s.new (.box [.nil,I 0,I 0,.Gh ⟨#[]⟩,I 0,I 0,I 0,I 0,.nil,I 0,.nil,I 0])).set s.next (.box x.GG)).next=s.next+1 from rfl,<- JY];refine zn3 ?_;refine GI (AKG hwe) (np _) rfl rfl rfl ?_;refine Fy Lq ?_;exact⟨_,pJ⟩
 refine AEa (AKt 0 rfl _ _ _ ?_);unfold c33;exact Afv
def ASh{N:List GO}(hl:N.length<=100000)(hw:∀n,n∈N->n.WF):PC BZ 17 [.agg [.GV (N.map Ay)],.agg [.GV (N.map Ay)],.bool true] [] (.bool true) []:=by
 have loop:∀(c i:Nat),N.length-i=c->i<=N.length->∀s:St,s.heap 0=some (.box [.GV (N.map Ay)])->s.heap 1=some (.box [.GV (N.map Ay)])->1<s.next->oH 0 0 xD (c+1) (.bool true) (.GN 0 0) (.GN 1 0) (I i) s:=by
  intro c
  induction c with
  |zero=>
   intro i hc hi s h0 h1 _;show aJ _ _ _ _ _ _ _ _ _;unfold aJ;refine Fy Hj ?_;refine Fy AdG ?_;refine Fy Ab7 ?_;refine Fy AcW ?_;refine cf ?_;unfold uQ;exact Adx
  |succ c Xy=>
   intro i hc hi s h0 h1 YK;have G7:i<N.length:=AA;obtain⟨x,hx⟩:∃x,N[i]?=some x:=⟨_,Bc G7⟩
   have lF:=hw x (Bn hx);have h3:=ZU (f:=Ay) hx;have h4:=x.GX;have h5:x.GG.all PV.IT=true:=by rw[x.Zg];rfl
   obtain⟨s2,JY⟩:∃s2,s2=(((s.new (.box [.Gh ⟨#[]⟩,.nil,.nil,.nil,.nil,I 0])).set s.next (.box x.GG)).new (.box [.Gh ⟨#[]⟩,.nil,.nil,.nil,.nil,I 0])).set (s.next+1) (.box x.GG):=⟨_,rfl⟩
   have p1:s2.heap s.next=some (.box x.GG):=by rw[JY];exact zh
   have p2:s2.heap (s.next+1)=some (.box x.GG):=by rw[JY];exact zh
   have q1:s2.heap 0=some (.box [.GV (N.map Ay)]):=by rw[JY];exact zh
   have q2:s2.heap 1=some (.box [.GV (N.map Ay)]):=by rw[JY];exact zh
   have gJ:s2.next=s.next+2:=by rw[JY];rfl
   have t0:x.GG[0]?=some (.Gh x.name):=by rw[x.Zg];rfl
   have t1:x.GG[1]?=some (.GV (x.JS.map Am)):=by rw[x.Zg];rfl
   have t2:x.GG[2]?=some (.GV (x.Hz.map Am)):=by rw[x.Zg];rfl
   have t3:x.GG[3]?=some (.GV (x.GA.map Am)):=by rw[x.Zg];rfl
   have t4:x.GG[4]?=some (.GV (x.GQ.map Aq)):=by rw[x.Zg];rfl
   have t5:x.GG[5]?=some (I x.GY):=by rw[x.Zg];rfl
   have pJ:=Xy (i+1) AA G7 s2 q1 q2 AA;show aJ _ _ _ _ _ _ _ _ _;unfold aJ;refine Fy Hj ?_;refine Fy AdG ?_;refine Fy Ab7 ?_;refine Fy AcX ?_;refine ct ?_;refine Fy Hj ?_;refine Fy AdG ?_;refine Fy (Gk AA h3 h4) ?_;refine Fy (IB h4) ?_;refine Fy (Lw rfl) ?_;refine Fy (IZ (Az rfl) h4 h5 rfl) ?_;refine Fy Hj ?_;refine Fy (GH (cs:=[.GV (N.map Ay)]) zh rfl) ?_;refine Fy (Gk AA h3 h4) ?_;refine Fy (IB h4) ?_;refine Fy (Lw rfl) ?_;refine Fy (IZ (Az rfl) h4 h5 rfl) ?_;rw[show((s.new (.box [.Gh ⟨#[]⟩,.nil,.nil,.nil,.nil,I 0])).set s.next (.box x.GG)).next=s.next+1 from rfl,<- JY];refine zn3 ?_;refine AZa (yx lF.JS) ?_;refine zn3 ?_;refine AZa (yx lF.Hz) ?_;refine zn3 ?_;refine AZa (yx lF.GA) ?_;refine zn3 ?_;refine AZa (ASg _ x.GQ (Bg _) lF.len lF.GQ) ?_;refine Fy Lq ?_;refine Fy S8 ?_;refine jg ?_;refine KS S8 ?_;refine Fy Pc ?_;refine jg ?_;refine KS S8 ?_;refine Fy Pc ?_;refine jg ?_;refine KS S8 ?_;refine Fy Pc ?_;refine KS Hj ?_;refine KS (GH p1 t0) ?_;refine KS Hj ?_;refine KS (GH p2 t0) ?_;refine KS ASf ?_;refine Fy Pc ?_;refine jg ?_;refine jg ?_;refine LZ Hj ?_;refine LZ (GH p1 t5) ?_;refine LZ Hj ?_;refine LZ (GH p2 t5) ?_;refine LZ ASe ?_;refine KS Og ?_;refine Fy Pc ?_;refine cf ?_;exact Ae6
 refine AEa (AKo 0 rfl _ _ _ ?_);unfold c17;refine zm ?_;exact⟨_,loop N.length 0 AA AA _ zh zh (by show 1<0+1+1;omega)⟩
end
attribute [local irreducible] IY II Ia Jq HF HH HN pC Nm OJ Jz Jc
section
open Go.Proofs
def AWf{P:Cf}{X:Mode}{f:B9}{vs args:LP}{s:St}{kl:KL}{HV G9:LLP}{r:PV}{bs:LN}(h:PC P f args HV r G9)(h1:JA vs 0=some (args,bs))(h2:Lp bs=true)(h3:Gv s bs=some HV)(h4:G9.length=bs.length)
  (hk:kl (JF r (Hc s bs G9)).1 (JF r (Hc s bs G9)).2 [] bs):Ic (.bool true) true (λk=>OJ P X f vs s k) kl s:=
 ASJ (by simp[dg]) (by unfold OJ;exact(Mb P X).2 (.inl ⟨_,_,bs,⟨args,HV,r,G9,h1,h2,h3,h4,h,rfl⟩,hk⟩))
def zj(t:BA)(ht:(t.size:Int)<=9223372036854775807):PC BZ 3 [.Gh t] [] (.bool true) []:=by
 refine XI (Q:=λr s=>r=.bool true) ((AQF (.Hw .Jh) _ ?_).sw Th) λr s h=>by rw[h];rfl
 obtain⟨N,ok,IE,hw,hn⟩:=AEf t ht;unfold g3;refine bq ABs (args:=[]) rfl rfl rfl rfl ?_;simp only[MK,Jl];refine Fy Lq ?_;refine bq IE (args:=[.Gh t]) rfl rfl rfl rfl ?_;simp only[Gx,si,Jl];refine Fy (pe rfl) ?_;refine Fy (pe rfl) ?_;refine Fy (Lw rfl) ?_;refine Fy Abw ?_;refine Fy Lq ?_;refine Fy S8 ?_;refine jg ?_;refine KS S8 ?_;refine Fy Pc ?_;cases ok with
 |false=>
  refine ct ?_;exact Afh
 |true=>
  have hN:=hn rfl;obtain⟨a,e,hk⟩:=ACF N;refine cf ?_;refine Fy (Hm A4 rfl) ?_;refine bq (il hw hN hk) (args:=[.agg [.GV (N.map Ay)]]) rfl rfl rfl rfl ?_;simp only[Gx,Jl];refine Fy (pe rfl) ?_;refine Fy (pe rfl) ?_;refine Fy Il ?_;refine Fy Il ?_;refine Fy (Hm A4 rfl) ?_;refine bq (AAq hw hN hk) (args:=[.agg [.GV (N.map Ay)]]) rfl rfl rfl rfl ?_;simp only[Gx,Jl];refine Fy (pe rfl) ?_;refine Fy (pe rfl) ?_;refine Fy Il ?_;refine Fy Il ?_;refine bq IE (args:=[.Gh t]) rfl rfl rfl rfl ?_;simp only[Gx,si,Jl];refine Fy (pe rfl) ?_;refine Fy (pe rfl) ?_;refine Fy (Lw rfl) ?_;refine Fy Abw ?_;refine Fy Lq ?_;refine bq (vj e) (args:=[I e]) rfl rfl rfl rfl ?_;simp only[Ky,Jl];refine Fy AIX ?_;refine dd ?_;refine dd ?_;refine LZ AIX ?_;refine Fy Og ?_;refine LZ Acq ?_;refine LZ Acq ?_;refine AWf (ASh (by have:=hw.len;omega) hw.wf) (args:=[.agg [.GV (N.map Ay)],.agg [.GV (N.map Ay)],.bool true]) rfl rfl rfl rfl ?_;simp only[MK,Jl];refine Fy Og ?_;exact Afh
end
end Go.Vi
