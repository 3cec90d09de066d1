/- Part of the proof of CauseOrders (own work, made small). -/
import Derived.Test.YtlonlfiaclacdaaGreatE2
set_option linter.all false
set_option maxRecDepth 100000
open Bool renaming and_eq_false_iff->DV,and_eq_true->Bk,eq_iff_iff->De,or_eq_false_iff->Cn
open Go.Proofs.Tryz renaming prog->BW
open Go.Vi.Edge renaming Gy->A9
open Go.Vi.G8 renaming Gy->A2
open Go.Vi.HF renaming Gy->BC,HJ->BO,wt->BK,Il->A7
open Go.Vi.HM renaming name->Ap,Gy->Ao
open Go.Vi.Hc renaming Gy->Ax
open Go.Vi.Hh renaming G1->A4
open Go.Vi.Item renaming Gy->Aq,HJ->BI,wt->BE,Il->As
open Go.Vi.St renaming Hn->Av,HY->Ar,IB->Ay
open List renaming all_cons->Cl,append_assoc->CN,append_nil->CL,drop_eq_getElem_cons->Bx,drop_zero->Cv,getElem?_eq_getElem->BZ,getElem?_eq_some_iff->Bn,getElem?_map->CH,getElem_map->Gj,getElem_mem->Bl,getElem_of_mem->By,length_append->Bf,length_cons->CG,length_map->BX,map_append->Br,mem_map->B8,nil_append->CX,range->Bw,take_append_drop->CP,take_append_of_le_length->DI,take_length->DG,take_of_length_le->CJ,take_succ_eq_append_getElem->Cp
open Nat renaming zero_add->CR
namespace Go.Vi
attribute [local irreducible] Iq IJ Hf Ij HS Ik G3 G4 HQ IA H7 KV Hx Ig Ie Iz LH LS Jq Kp LG Hw Hg IT pQ Jy JZ Hb HP He H2 IN I0 Int.instDecidableEq Int.decEq instBEqOfDecidableEq
section
open Go.Proofs
def Mf(S:List BA)(w:BA):Bool:=S.any λx=>x.toList==w.toList
def SF{S:List BA}{w:BA}:Mf S w=true<->∃x∈S,x.toList=w.toList:=by simp[Mf,List.any_eq_true]
def Mj{S:List BA}{i:Int}(h0:0<=i)(h:i<S.length):(S.map Gv)[i.toNat]?=some [.HK (S[i.toNat]' AA)]:=Aih
def Te{N:List G8}{i:Int}(h0:0<=i)(h:i<N.length):(N.map A2)[i.toNat]?=some ((N[i.toNat]' AA).Gy):=Aih
def MF(f:Int):Bool:=f==13||f==14||f==18||f==19
def M5(S:List BA)(w:BA)(hS:S.length<=1000000000):PC BW 85 [.HC (S.map Gv),.HK w] [] (.bool (Mf S w)) []:=by
 have loop:∀c:Nat,∃k,∀(i:Int) (s:St),0<=i->i<=S.length->S.length-i<=c->(∀j:Nat,(h:j<S.length)->j<i->S[j].toList≠w.toList)->HZ s (Bw 0)=some []->
   AAr 0 0 (λr c=>c=[]/\r=.bool (Mf S w)) k (.HC (S.map Gv)) (.HK w) (I i) s:=by
  intro c
  induction c with
  |zero=>
   refine⟨1,λi s h0 h1 hc RT hs=>?_⟩;show lJ _ _ _ _ _ _ _ _;unfold lJ;refine zv ?_;refine Gw (λh=>Zq (Ot h) AB) λ_=>?_;exact AgE
  |succ c ih=>
   obtain⟨k,ih⟩:=ih;refine⟨k+1,λi s h0 h1 hc RT hs=>?_⟩;show lJ _ _ _ _ _ _ _ _;unfold lJ;refine zv ?_;refine Gw (λh=>?_) λh=>?_
   .have H5:i<S.length:=by have:=Ot h;simpa using this
    have hw:=Abg i;refine pQ_v Aey ?_;refine Gw (λh2=>?_) λh2=>?_
    .refine HB rfl rfl hs ⟨rfl,?_⟩;have:Mf S w=true:=SF.2 ⟨_,Bl _,by simpa using h2⟩;rw[this]
    .refine zv ?_;refine ih _ _ AA AA AA (λj hj hji=>?_) hs;by_cases pY:j<i
     .exact RT j hj pY
     .exact AkM
   .have hge:¬i<S.length:=by have:=Zy h;simpa using this
    exact AgE
 have:PQ BW 85 [.HC (S.map Gv),.HK w] [] (λr c=>c=[]/\r=.bool (Mf S w)):=by
  refine ANv 0 rfl _ _ ?_;unfold c85;obtain⟨k,hk⟩:=loop S.length;exact⟨k,hk 0 _ AA AA AA (λj hj h=>by omega) rfl⟩
 exact Afg
def aP(f:Int):PC BW 117 [I f] [] (.bool (MF f)) []:=by
 have:PQ BW 117 [I f] [] (λr c=>c=[]/\r=.bool (MF f)):=by
  refine AIw 0 rfl _ ?_;unfold ARn;refine zv ?_;cases h1:(f==13)
  case true=>
   refine zv ?_;exact HB rfl rfl rfl ⟨rfl,by simp[MF,h1]⟩
  refine zv ?_;cases h2:(f==14)
  case true=>
   refine zv ?_;exact HB rfl rfl rfl ⟨rfl,by simp[MF,h2]⟩
  refine zv ?_;cases h3:(f==18)
  case true=>
   refine zv ?_;exact HB rfl rfl rfl ⟨rfl,by simp[MF,h3]⟩
  refine zv ?_;exact HB rfl rfl rfl ⟨rfl,by simp[MF,h1,h2,h3]⟩
 exact Afg
end
section
open Go.Proofs
def Qb(N:List G8)(w:BA)(a r:Int):Prop:=(0<=r/\r<a/\∃n,N[r.toNat]?=some n/\n.name.toList=w.toList)\/(r= -1/\∀(j:Nat) (n:G8),N[j]?=some n->(j:Int)<a->n.name.toList≠w.toList)
def ck(N:List G8)(e a:Int):LP:=[.HC (N.map A2),I e,I a]
def tG(N:List G8)(hN:N.length<=60)(w:BA)(a:Int):∃r,PC BW 84 [.agg [.HC (N.map A2)],.HK w,I a] [] (I r) []/\Qb N w a r:=by
 have loop:∀c:Nat,∃k,∀(i:Int) (hp:HO),0<=i->i<=N.length->N.length-i<=c->(∀(j:Nat) (n:G8),N[j]?=some n->(j:Int)<i->n.name.toList≠w.toList)->
   ud 0 0 (λr c=>c=[]/\∃r':Int,r=I r'/\Qb N w a r') k (.HK w) (I a) (.G5 0 0) (I i) (SU [.box [.HC (N.map A2)]] hp 1):=by
  intro c
  induction c with
  |zero=>
   refine⟨1,λi hp h0 h1 hc RT=>?_⟩;show lI _ _ _ _ _ _ _ _ _;unfold lI;refine zv ?_;cases h:decide (i<a)<;>refine zv ?_
   .exact Ah9
   .refine Gw (λh2=>Zq (Ot h2) AB) λ_=>?_;exact AiA
  |succ c ih=>
   obtain⟨k,ih⟩:=ih;refine⟨k+1,λi hp h0 h1 hc RT=>?_⟩;show lI _ _ _ _ _ _ _ _ _;unfold lI;refine zv ?_;cases h:decide (i<a)<;>refine zv ?_
   .exact Ah9
   .refine Gw (λh2=>?_) λh2=>?_
    .have H5:i<N.length:=by have:=Ot h2;simpa using this
     have hw:=Abg i;have jZ:N[i.toNat]?=some (N[i.toNat]' AA):=BZ AA;refine zv ?_;refine pQ_v (HU h0 (Te h0 H5) rfl) ?_;refine Gw (λh3=>?_) λh3=>?_
     .refine zv ?_;refine HB rfl rfl rfl ⟨rfl,i,rfl,.inl ⟨h0,Ot h,_,jZ,by simpa using h3⟩⟩
     .refine zv ?_;refine ih _ hp AA AA AA λj n hj hji=>?_;by_cases pY:(j:Int)<i
      .exact RT j n hj pY
      .have:j=i.toNat:=AA;subst this;rw[jZ]at hj;cases hj;simpa using h3
    .have hge:¬i<N.length:=by have:=Zy h2;simpa using this
     exact AiA
 have:PQ BW 84 [.agg [.HC (N.map A2)],.HK w,I a] [] (λr c=>c=[]/\∃r':Int,r=I r'/\Qb N w a r'):=by
  refine ANu 0 rfl _ _ _ ?_;unfold c84;refine zv ?_;obtain⟨k,hk⟩:=loop N.length;refine⟨k,?_⟩;exact TV (ud 0 0 _ k _ _ _ _) rfl rfl λK3=>hk 0 K3 AA AA AA (λj n _ h=>by omega)
 exact Aj4
def CF(N:List G8)(f:Nat)(args:LP)(e a:Int)(Q:PV->Int->Int->Prop):Prop:=PQ BW f (.G5 0 0::args) [ck N e a] λr c=>∃e' a',c=[ck N e' a']/\Q r e' a'
section
variable{N:List G8} {e a:Int} {s:St} {k:F1} {kl:KL} {args vs:LP} {f:Nat} {Q:PV->Int->Int->Prop}
def CF.call(h:CF N f args e a Q)(h1:Js vs 0=some (.G5 0 0::args,[0]))(h3:HZ s [0]=some [ck N e a])
  (hk:∀r e' a',Q r e' a'->k (JV r (s.set 0 (.box (ck N e' a')))).1 (JV r (s.set 0 (.box (ck N e' a')))).2):Hb BW f vs s k:=by
 obtain⟨r,c,I5,e',a',rfl,hq⟩:=h;exact Gz I5 h1 rfl h3 rfl (hk r e' a' hq)
def CF.pc(h:CF N f args e a Q):∃r e' a',PC BW f (.G5 0 0::args) [ck N e a] r [ck N e' a']/\Q r e' a':=by obtain⟨r,c,I5,e',a',rfl,hq⟩:=h;exact⟨r,e',a',I5,hq⟩
def JQ(x y:Int)(hy:y≠0):CF N 68 [I x,I y] e a (λr e' a'=>r=.tuple []/\e'≠0/\(e≠0->e'=e/\a'=a)):=by
 refine ANj 0 rfl _ _ _ ?_;unfold c68;refine zv ?_;refine Gw (λh=>?_) λh=>?_
 .refine zv ?_;refine HB rfl rfl rfl ⟨_,_,rfl,rfl,hy,λMT=>Zq AE MT⟩
 .refine HB rfl rfl rfl ⟨_,_,rfl,rfl,by simpa using h,λ_=>⟨rfl,rfl⟩⟩
def Pw{x y:Int}(hy:y≠0)(h3:HZ s [0]=some [ck N e a])(hk:∀e' a',e'≠0->k (.tuple []) (s.set 0 (.box (ck N e' a')))):Hb BW 68 [.G5 0 0,I x,I y] s k:=(JQ x y hy).call rfl h3 λr e' a' h=>by obtain⟨rfl,h,_⟩:=h;exact hk e' a' h
end
end
section
open Go.Proofs
inductive Qc (N:List G8) (S:List ByteArray) (nd:Int):Hh->Prop
 |mk (f s:Int) (nm:ByteArray) (tk tl i m:Int) (G9:List Hh) (HI:Int):(f=2\/f=9\/f=10->Mf S nm=true)->(MF f=true->∃r,0<=r/\Qb N nm nd r)->(f=14\/f=15\/f=18->0<G9.length)->(∀k∈G9,Qc N S nd k)->Qc N S nd (.mk f s nm tk tl i m G9 HI)
def Qc.pw{N:List G8}{S:List BA}{nd:Int}{f s tk tl i m HI:Int}{nm:BA}{G9:List Hh}(h:Qc N S nd (.mk f s nm tk tl i m G9 HI)):(f=2\/f=9\/f=10->Mf S nm=true)/\(MF f=true->∃r,0<=r/\Qb N nm nd r)/\(f=14\/f=15\/f=18->0<G9.length)/\(∀k∈G9,Qc N S nd k):=by cases h with|mk _ _ _ _ _ _ _ _ _ h1 h2 h3 h4=>exact⟨h1,h2,h3,h4⟩
def Lh{x:Hh}{vs us:LP}{bs:LN}(h:Js vs 1=some (us,bs)):Js (.G5 0 0:: .agg x.Gy::vs) 0=some (.G5 0 0:: .agg x.Gy::us,0::bs):=by simp[Js,PV.qx,x.KR,h]
section
variable{P:Program} {b:Bool} {bx o:Nat} {Gy:LP} {x c:Int} {s:St} {R:F1} {N:List G8} {e a:Int}
def iV(h:s.heap bx=some (.box Gy))(hx:Gy[o]?=some (I x))(hk:R (.bool (b||(x==c))) s):
  JZ (.bool b) false (λk=>Jy (Iz o (.G5 bx 0)) s k) (λv8 s9 _ _=>JZ (.bool b) false (λk=>Jy (G3 v8) s9 k) (λv10 s11 _ _=>JZ (.bool b) false (λk=>Jy (H7 P .eql 3 v10 (I c)) s11 k) (λv12 s13 _ _=>pQ (Hf (.bool b) (.bool true) v12) s13 R) s11) s9) s:=by
 cases b
 .refine Mh JD ?_;refine Aag (G2 h AdB) ?_;exact hk
 .refine zv ?_;exact hk
def JG(h:s.heap 0=some (.box (ck N e a)))(hk:R (.bool (b&&(e==0))) s):
  JZ (.bool b) true (λk=>k (.G5 0 0) s [] []) (λAQr AHf _ _=>JZ (.bool b) true (λk=>Jy (IA AQr) AHf k) (λAH3 AAG _ _=>JZ (.bool b) true (λk=>Jy (Iz 1 AH3) AAG k) (λAH4 AAH _ _=>JZ (.bool b) true (λk=>Jy (G3 AH4) AAH k) (λAH5 AAI _ _=>JZ (.bool b) true (λk=>Jy (H7 P .eql 3 AH5 (I 0)) AAI k)
   (λAQs AQe _ _=>pQ (Hf (.bool b) AQs (.bool false)) AQe R) AAI) AAH) AAG) AHf) s:=by
 exact AgT
def AAi{G1:LLP}(h:s.heap bx=some (.box Gy))(hx:Gy[o]?=some (.HC G1))(hk:R (.bool (b&&decide ((G1.length:Int)<c))) s):
  JZ (.bool b) true (λk=>Jy (Iz o (.G5 bx 0)) s k) (λAQp ALQ _ _=>JZ (.bool b) true (λk=>Jy (G3 AQp) ALQ k) (λAVA AHe _ _=>JZ (.bool b) true (λk=>Jy (Hg AVA) AHe k) (λALi ALR _ _=>JZ (.bool b) true (λk=>Jy (H7 P .lss 3 ALi (I c)) ALR k)
   (λAQq AQc _ _=>pQ (Hf (.bool b) AQq (.bool false)) AQc R) ALR) AHe) ALQ) s:=by
 cases b
 .refine zv ?_;exact hk
 .refine OJ JD ?_;refine Aah (G2 h AdB) ?_;exact hk
def AIg{d:Bool}(hk:R (.bool (b&& !d)) s):
  JZ (.bool b) true (λk=>k (.bool d) s [] []) (λv34 s35 _ _=>JZ (.bool b) true (λk=>Jy (KV .not v34) s35 k) (λv36 s37 _ _=>pQ (Hf (.bool b) v36 (.bool false)) s37 R) s35) s:=by
 exact AgT
end
def SD{l:List Hh}{i:Int}(h0:0<=i)(h:i<l.length):(A4 l)[i.toNat]?=some ((l[i.toNat]' AA).Gy):=by rw[Hh.Jc,CH,BZ AA];rfl
section
variable{N:List G8} {S:List BA} {nd:Int}
def wN(hN:N.length<=60)(hS:S.length<=1000000000){x:Hh}(hw:x.WF):∀(e a:Int),CF N 109 [.agg x.Gy,.HC (S.map Gv),I nd] e a λr e' a'=>r=.tuple []/\(e'=0->e=0/\Qc N S nd x):=by
 induction hw with
 |mk f s1 nm tk tl i m G9 HI Sr hf hs vj ht hk ih=>
 intro e a;have fk:G9.length<=100000:=Sr.2.2.2.2;obtain⟨rn,hrn,T9⟩:=tG N hN nm nd
 have loop:∀c:Nat,∀(e a:Int) (j:Int),0<=j->j<=G9.length->G9.length-j<=c->∀{Q:PV->Int->Int->Prop},(∀e' a',(e'=0->e=0/\∀(q:Nat) (h:q<G9.length),j<=q->Qc N S nd G9[q])->Q (.tuple []) e' a')->∃k,∀(hp:HO),Tt 0 1 (λr c=>∃e' a',c=[ck N e' a']/\Q r e' a') k
   (.G5 0 0) (.HC (S.map Gv)) (I nd) (.G5 1 0) (I j) (SU [.box (ck N e a),.box [I f,I s1,.HK nm,I tk,I tl,I i,I m,.HC (A4 G9),I HI]] hp 2):=by
  have mc:(A4 G9).length=G9.length:=by rw[Hh.Jc,BX]
  intro c
  induction c with
  |zero=>
   intro e a j h0 h1 hc Q hQ;refine⟨1,λhp=>?_⟩;show RL _ _ _ _ _ _ _ _ _ _;unfold RL;refine zv ?_;refine JG rfl ?_;refine AWI (λh=>?_) ?_
   .simp only[Bk,decide_eq_true_eq,mc]at h;omega
   .exact Aiv
  |succ c kA=>
   intro e a j h0 h1 hc Q hQ;by_cases JU:j<G9.length/\e=0
   .obtain⟨H5,he⟩:=JU;have hw:=Abg j;obtain⟨r,e1,a1,I5,rfl,h1⟩:=(ih (G9[j.toNat]' AA) (Bl _) e a).pc
    obtain⟨k,Jr⟩:=kA e1 a1 (IntKind.i64.wrap (j+1)) AA AA AA (Q:=Q) λe' a' h2=>hQ e' a' λoV=>by
     obtain⟨g1,g2⟩:=h2 oV;obtain⟨g3,g4⟩:=h1 g1;refine⟨g3,λq hq hjq=>?_⟩;by_cases hqj:(q:Int)=j
     .have:q=j.toNat:=AA;subst this;exact g4
     .exact g2 q hq AA
    refine⟨k+1,λhp=>?_⟩;show RL _ _ _ _ _ _ _ _ _ _;unfold RL;refine zv ?_;refine JG rfl ?_;refine AWH ?_ λh=>?_
    .refine zv ?_;refine Gu Adn ?_;refine Gu Aea ?_;refine AVt I5 (Lh rfl) rfl rfl rfl ?_;exact XR (Tt 0 1 _ k _ _ _ _ _) rfl rfl rfl λK3=>Jr K3
    .simp only[DV,decide_eq_false_iff_not,mc]at h;simp[he]at h;omega
   .refine⟨1,λhp=>?_⟩;show RL _ _ _ _ _ _ _ _ _ _;unfold RL;refine zv ?_;refine JG rfl ?_;refine AWI (λh=>?_) ?_
    .simp only[Bk,decide_eq_true_eq,mc,beq_iff_eq]at h;exact Zq h JU
    .exact Aic
 refine AIt 0 rfl _ _ _ _ ?_;unfold ARk;simp only[Hh.Gy];refine zv ?_;refine iV (Gy:=[I f,I s1,.HK nm,I tk,I tl,I i,I m,.HC (A4 G9),I HI]) rfl rfl ?_;refine iV (Gy:=[I f,I s1,.HK nm,I tk,I tl,I i,I m,.HC (A4 G9),I HI]) rfl rfl ?_;refine zv ?_;refine AbZ (M5 S nm hS) ?_;refine AIg ?_;refine Gw (λh=>?_) λh1=>?_
 .exact Afj
 refine zv ?_;refine AYi (aP f) ?_
 have Vk:f=2\/f=9\/f=10->Mf S nm=true:=λaO=>by
  cases hh:Mf S nm
  .rw[hh]at h1;simp only[DV,Cn,beq_eq_false_iff_ne]at h1;simp at h1;omega
  .rfl
 cases hc:MF f
 .have Vf:MF f=true->∃r,0<=r/\Qb N nm nd r:=λh=>by rw[hc]at h;cases h
  exact AfL
 .refine zv ?_;refine AYj hrn ?_;cases hd:decide (rn<0)
  .have Vf:MF f=true->∃r,0<=r/\Qb N nm nd r:=λh=>⟨rn,by have:=Zy hd;omega,T9⟩
   exact AfL
  .refine zv ?_;refine⟨by kernel_rfl,?_⟩;exact Afj
end
end
section
open Go.Proofs
def Hc.r9(t:Hc):t.Gy[9]?=some (.HK t.to):=by simp[Ax,t.cond.HJ]
def Hc.r11(t:Hc):t.Gy[11]?=some (I t.HI):=by simp[Ax,t.cond.HJ]
def Hc.cut(t:Hc):Yk 9 t.Gy 0=some (.agg t.cond.Gy):=by have:=t.cond.HJ;simp only[Yk,t.HJ,Cv];rw[Ps AA];simp only[Ax];rw[DI AA,CJ AA]
def UK{l:List Hc}{i:Int}(h0:0<=i)(h:i<l.length):(l.map Ax)[i.toNat]?=some ((l[i.toNat]' AA).Gy):=Aih
def JS{l:List HM}{i:Int}(h0:0<=i)(h:i<l.length):(l.map Ao)[i.toNat]?=some ((l[i.toNat]' AA).Gy):=Aih
def gA{x:Hh}{vs us:LP}{bs:LN}(h:Js vs 0=some (us,bs)):Js (.agg x.Gy::vs) 0=some (.agg x.Gy::us,bs):=by simp[Js,PV.qx,x.KR,h]
def AK9{b:Bool}{bx o:Nat}{Gy:LP}{x:Int}{s:St}{R:F1}(h:s.heap bx=some (.box Gy))(hx:Gy[o]?=some (I x))(hk:R (.bool (b||MF x)) s):
  JZ (.bool b) false (λk=>Jy (Iz o (.G5 bx 0)) s k) (λv8 s9 _ _=>JZ (.bool b) false (λk=>Jy (G3 v8) s9 k) (λv10 s11 _ _=>JZ (.bool b) false (λk=>HP BW 117 [v10] s11 k) (λv12 s13 _ _=>pQ (Hf (.bool b) (.bool true) v12) s13 R) s11) s9) s:=by
 cases b
 .refine Mh JD ?_;refine Mh (G2 h AdB) ?_;refine AOh ?_;refine AYj (aP x) ?_;exact hk
 .refine zv ?_;exact hk
def AP4{x:Hh}(hw:x.WF):∃b,PC BW 151 [.agg x.Gy] [] (.bool b) []:=by
 induction hw with
 |mk f s1 nm tk tl i m G9 HI Sr hf hs vj ht hk ih=>
 have fk:G9.length<=100000:=Sr.2.2.2.2;have mc:(A4 G9).length=G9.length:=by rw[Hh.Jc,BX]
 have loop:∀c:Nat,∀(j:Int),0<=j->j<=G9.length->G9.length-j<=c->∃k,∀(hp:HO),Zn 0 0 (λr c=>c=[]/\∃b,r=.bool b) k (.G5 0 0) (I j)
   (SU [.box [I f,I s1,.HK nm,I tk,I tl,I i,I m,.HC (A4 G9),I HI]] hp 1):=by
  intro c
  induction c with
  |zero=>
   intro j h0 h1 hc;exact Aga
  |succ c kA=>
   intro j h0 h1 hc;by_cases H5:j<G9.length
   .have hw:=Abg j;obtain⟨b,hb⟩:=ih (G9[j.toNat]' AA) (Bl _);obtain⟨k,Jr⟩:=kA (IntKind.i64.wrap (j+1)) AA AA AA;refine⟨k+1,λhp=>?_⟩;show Tw _ _ _ _ _ _ _;unfold Tw;refine zv ?_;refine AWH ?_ λh=>?_
    .refine zv ?_;refine Gu Adn ?_;refine Gu Aea ?_;refine AVt hb (gA rfl) rfl rfl rfl ?_;refine AWG ?_ ?_
     .refine HB rfl rfl rfl ⟨rfl,_,rfl⟩
     .refine zv ?_;exact AkK
    .have:=Zy h;omega
   .exact Aga
 have:PQ BW 151 [.agg (Hh.mk f s1 nm tk tl i m G9 HI).Gy] [] (λr c=>c=[]/\∃b,r=.bool b):=by
  refine AJF 0 rfl _ ?_;unfold AR7;simp only[Hh.Gy];refine zv ?_;refine iV (Gy:=[I f,I s1,.HK nm,I tk,I tl,I i,I m,.HC (A4 G9),I HI]) rfl rfl ?_;refine iV (Gy:=[I f,I s1,.HK nm,I tk,I tl,I i,I m,.HC (A4 G9),I HI]) rfl rfl ?_;refine iV (Gy:=[I f,I s1,.HK nm,I tk,I tl,I i,I m,.HC (A4 G9),I HI]) rfl rfl ?_;refine AK9 (Gy:=[I f,I s1,.HK nm,I tk,I tl,I i,I m,.HC (A4 G9),I HI]) rfl rfl ?_;refine AWG ?_ ?_
  .refine HB rfl rfl rfl ⟨rfl,_,rfl⟩
  .obtain⟨k,Jr⟩:=loop G9.length 0 AA AA AA;refine⟨k,?_⟩;exact AkK
 exact AiW
def Zf(l:List HM)(hl:l.length<=100000):PC BW 69 [.HC (l.map Ao)] [] (.H6 1 ((l.map Ap).map Gv)) []:=by
 have loop:∀c:Nat,∃k,∀(j:Int) (d:List BA) (eo:Nat) (hp:HO) (o0:Obj),0<=j->j<=l.length->l.length-j<=c->d=(l.take j.toNat).map Ap->(d.map Gv=[]\/eo=1)->
   o6 1 0 (λr c=>c=[]/\r=.H6 1 ((l.map Ap).map Gv)) k (.HC (l.map Ao)) (.H6 1 (d.map Gv)) (I j) (SU [o0,.Hm (d.map Gv).length eo] hp 2):=by
  intro c
  induction c with
  |zero=>
   refine⟨1,λj d eo hp o0 h0 h1 hc hd XA=>?_⟩;show lA _ _ _ _ _ _ _ _;unfold lA;refine zv ?_;refine AWI (λh=>?_) ?_
   .have:=Ot h;rw[BX]at this;omega
   .exact Ag5
  |succ c ih=>
   obtain⟨k,ih⟩:=ih;refine⟨k+1,λj d eo hp o0 h0 h1 hc hd XA=>?_⟩;show lA _ _ _ _ _ _ _ _;unfold lA;refine zv ?_;refine Gw (λh=>?_) λh=>?_
   .have H5:j<l.length:=by have:=Ot h;rw[BX]at this;omega
    have hw:=Abg j;have hdl:d.length<=j.toNat:=by rw[hd];simp;omega
    have HV:d.map Gv++[[.HK (l[j.toNat]' AA).name]]=(d++[(l[j.toNat]' AA).name]).map Gv:=by rw[Br];rfl
    refine pQ_v Aed ?_;refine pQ_v (KG rfl rfl (Hl AB AA) (H8 Hi) rfl (XA.imp (λh=>by rw[h];rfl) λh=>h.symm)) ?_;rw[HV];refine XR (o6 1 0 _ k _ _ _) (o0:=o0) rfl (by rw[<- HV,Bf];rfl) rfl λK3=>ih _ _ 1 K3 o0 AA AA AA ?_ (.inr rfl);rw[hw,hd,show(j+1).toNat=j.toNat+1 by omega,Cp AA,Br];rfl
   .have hge:¬j<l.length:=by have:=Zy h;rw[BX]at this;omega
    exact Ag5
 have:PQ BW 69 [.HC (l.map Ao)] [] (λr c=>c=[]/\r=.H6 1 ((l.map Ap).map Gv)):=by
  refine ANk 1 rfl _ ?_;unfold c69;refine zv ?_;obtain⟨k,hk⟩:=loop l.length;refine⟨k,?_⟩;exact XR (o6 1 0 _ k _ _ _) rfl rfl rfl λK3=>hk 0 [] 0 K3 _ AA AA AA AD (.inl rfl)
 exact Afg
section
variable{N:List G8} {S T:List BA} {nd:Int}
def xK(hN:N.length<=60)(hS:S.length<=1000000000)(hT:T.length<=1000000000){l:List Hc}(hw:U2.WF l)(e a:Int):CF N 124 [.HC (l.map Ax),.HC (T.map Gv),.HC (S.map Gv),I nd] e a λr e' a'=>r=.tuple []/\(e'=0->e=0/\∀t∈l,Qc N S nd t.cond):=by
 have Xs:=hw.len
 have loop:∀c:Nat,∀(e a:Int) (j:Int),0<=j->j<=l.length->l.length-j<=c->∀{Q:PV->Int->Int->Prop},(∀e' a',(e'=0->e=0/\∀(q:Nat) (h:q<l.length),j<=q->Qc N S nd l[q].cond)->Q (.tuple []) e' a')->∃k,∀(hp:HO),WN 0 1 (λr c=>∃e' a',c=[ck N e' a']/\Q r e' a') k
   (.G5 0 0) (.HC (l.map Ax)) (.HC (T.map Gv)) (.HC (S.map Gv)) (I nd) (I j) (SU [.box (ck N e a)] hp 1):=by
  intro c
  induction c with
  |zero=>
   intro e a j h0 h1 hc Q hQ;refine⟨1,λhp=>?_⟩;show Qh _ _ _ _ _ _ _ _ _ _ _;unfold Qh;refine zv ?_;refine JG rfl ?_;refine AWI (λh=>?_) ?_
   .exact AkQ
   .exact Aiv
  |succ c kA=>
   intro e a j h0 h1 hc Q hQ;by_cases JU:j<l.length/\e=0
   .obtain⟨H5,he⟩:=JU;have TN:=Abg j;have HV:=UK h0 H5;generalize hg:l[j.toNat]' AA=t at HV;have htm:t∈l:=by rw[<- hg];exact Bl _
    obtain⟨r,e1,a1,I5,rfl,h1'⟩:=(wN (nd:=nd) hN hS (hw.all t htm) e a).pc;obtain⟨b,hb⟩:=AP4 (hw.all t htm)
    have key:∀(e2 a2:Int),(e2=0->e1=0)->∃k,∀(hp:HO),WN 0 1 (λr c=>∃e' a',c=[ck N e' a']/\Q r e' a') k (.G5 0 0) (.HC (l.map Ax)) (.HC (T.map Gv)) (.HC (S.map Gv)) (I nd) (I (IntKind.i64.wrap (j+1))) (SU [.box (ck N e2 a2)] hp 1):=λe2 a2 h12=>
     kA e2 a2 (IntKind.i64.wrap (j+1)) AA AA AA λe' a' h2=>hQ e' a' λoV=>by
      obtain⟨g1,g2⟩:=h2 oV;obtain⟨g3,g4⟩:=h1' (h12 g1);refine⟨g3,λq hq hjq=>?_⟩;by_cases hqj:(q:Int)=j
      .have:q=j.toNat:=AA;subst this;rw[hg];exact g4
      .exact g2 q hq AA
    cases hh:Mf T t.to with
    |false=>
     refine⟨1,λhp=>?_⟩;show Qh _ _ _ _ _ _ _ _ _ _ _;unfold Qh;refine zv ?_;refine JG rfl ?_;refine AWH ?_ λh=>?_
     .refine pQ_v Adh ?_;refine Gu (IM t.r9) ?_;refine AbY (M5 T t.to hT) ?_;rw[hh];refine zv ?_;refine pQ_v Adh ?_;refine Gu (IM t.r11) ?_;refine Pw AA rfl λe' a' he=>?_;refine HB rfl rfl rfl ⟨_,_,rfl,hQ _ _ λh=>Zq h he⟩
     .simp[he]at h;omega
    |true=>
     cases b with
     |false=>
      obtain⟨k,Jr⟩:=key e1 a1 id;refine⟨k+1,λhp=>?_⟩;show Qh _ _ _ _ _ _ _ _ _ _ _;unfold Qh;refine zv ?_;refine JG rfl ?_;refine AWH ?_ λh=>?_
      .refine pQ_v Adh ?_;refine Gu (IM t.r9) ?_;refine AbY (M5 T t.to hT) ?_;rw[hh];refine zv ?_;refine pQ_v Adh ?_;refine Gu (OD t.cut) ?_;refine Gz I5 (Lh rfl) rfl rfl rfl ?_;refine pQ_v Adh ?_;refine Gu (OD t.cut) ?_;refine AVt hb (gA rfl) rfl rfl rfl ?_;exact Ahc
      .simp[he]at h;omega
     |true=>
      obtain⟨r,e2,a2,Jh,rfl,ar,_⟩:=(JQ (N:=N) (e:=e1) (a:=a1) t.HI 26 AA).pc;obtain⟨k,Jr⟩:=key e2 a2 λh=>Zq h ar;refine⟨k+1,λhp=>?_⟩;show Qh _ _ _ _ _ _ _ _ _ _ _;unfold Qh;refine zv ?_;refine JG rfl ?_;refine AWH ?_ λh=>?_
      .refine pQ_v Adh ?_;refine Gu (IM t.r9) ?_;refine AbY (M5 T t.to hT) ?_;rw[hh];refine zv ?_;refine pQ_v Adh ?_;refine Gu (OD t.cut) ?_;refine Gz I5 (Lh rfl) rfl rfl rfl ?_;refine pQ_v Adh ?_;refine Gu (OD t.cut) ?_;refine AVt hb (gA rfl) rfl rfl rfl ?_;refine pQ_v Adh ?_;refine Gu (IM t.r11) ?_;refine AbY Jh ?_;unfold jl;refine zv ?_;exact Ahc
      .simp[he]at h;omega
   .refine⟨1,λhp=>?_⟩;show Qh _ _ _ _ _ _ _ _ _ _ _;unfold Qh;refine zv ?_;refine JG rfl ?_;refine AWI (λh=>?_) ?_
    .exact AjC
    .exact Aic
 obtain⟨k,Jr⟩:=loop l.length e a 0 AA AA AA (Q:=λr e' a'=>r=.tuple []/\(e'=0->e=0/\∀t∈l,Qc N S nd t.cond)) λe' a' h=>⟨rfl,λoV=>by
  obtain⟨g1,g2⟩:=h oV;refine⟨g1,λt ht=>?_⟩;obtain⟨q,hq,rfl⟩:=By ht;exact g2 q hq AA⟩
 refine AI3 0 rfl _ _ _ _ _ ?_;unfold ARv;refine⟨k,?_⟩;exact Ahc
end
end
section
open Go.Proofs
mutual
inductive NI (N:List G8) (nd:Int):List ByteArray->List ByteArray->Item->Prop
 |eq (S M:List ByteArray) (G6:List ByteArray) (e:Hh) (HI:Int):(∀n∈G6,Mf M n=true)->Qc N S nd e->NI N nd S M (.mk G6 e [] HI)
 |AIk (S M:List ByteArray) (G6:List ByteArray) (e:Hh) (st:HF) (G0:List HF) (HI:Int):(∀s∈st::G0,NS N nd S M s)->NI N nd S M (.mk G6 e (st::G0) HI)
inductive NS (N:List G8) (nd:Int):List ByteArray->List ByteArray->HF->Prop
 |mk (S M:List ByteArray) (nm:ByteArray) (Lm LR:List Hc) (Gx:List HM) (HE:List Item) (HI:Int):(∀t∈Lm,Qc N S nd t.cond)->(∀i∈HE,NI N nd (S++Gx.map Ap) (M++Gx.map Ap) i)->
  (∀t∈LR,Qc N (S++Gx.map Ap) nd t.cond)->(∀(q:Nat) (h:q<Gx.length),Mf (S++(Gx.map Ap).take q) Gx[q].name=false)->NS N nd S M (.mk nm Lm LR Gx HE HI)
end
def Vm{l:List Item}{i:Int}(h0:0<=i)(h:i<l.length):(l.map Aq)[i.toNat]?=some ((l[i.toNat]' AA).Gy):=Aih
def QB{l:List HF}{i:Int}(h0:0<=i)(h:i<l.length):(l.map BC)[i.toNat]?=some ((l[i.toNat]' AA).Gy):=Aih
structure L86 (N:List G8) (e a:Int) (d:List ByteArray) (b eo:Nat) (s:St):Prop where
 h0:s.heap 0=some (.box (ck N e a))
 hb:s.heap b=some (.Hm (d.map Gv).length eo)
 ho:d.map Gv=[]\/eo=1
 n0:b≠0
 lt:b<s.next
structure Sw (N:List G8) (e a:Int) (d:List ByteArray) (b eo bx:Nat) (Gy:List PV) (s:St):Prop where
 i:L86 N e a d b eo s
 hx:s.heap bx=some (.box Gy)
 x0:bx≠0
 xb:bx≠b
 xlt:bx<s.next
attribute [local irreducible] pA Wd gT Wa Wb Uk Wc
section
variable{N:List G8} {S M:List BA} {nd:Int}
def AIh{d:List BA}(hd:d.length<=90000){s:St}{e a:Int}{bx:Nat}{Gy:LP}{b eo:Nat}(h:Sw N e a d b eo bx Gy s){i:Int}{nms:List BA}(HV:Gy[0]?=some (.HC (nms.map Gv)))(h0:0<=i)(hi:i<nms.length)
  {w10:PV->PV->PV->PV->PV->PV->F1}{AVD:PV->PV->PV->PV->PV->PV->PV->PV->F1}{Q:PV->LLP->Prop}{v2 v3 v4 v5 v7:PV}(hw:nms.length<=100000)
  (hk:∀b' s',Sw N e a (d++[nms[i.toNat]' AA]) b' 1 bx Gy s'->AVD (.G5 0 0) v2 v3 v4 v5 (.H6 b' ((d++[nms[i.toNat]' AA]).map Gv)) v7 (.G5 bx 0) (I (i+1)) s'):
  Uk 1 1 Q w10 AVD (.G5 0 0) v2 v3 v4 v5 (.H6 b (d.map Gv)) v7 (.G5 bx 0) (I i) s:=by
 have hx:=h.hx;have H5:=h.xlt;have TN:=Abg i;have Mt:=h.i.h0;unfold Uk;refine Aba Ae3 ?_;refine HA (G2 zh HV) ?_;refine Aba (HU h0 (Mj h0 hi) rfl) ?_;refine Aba (KG rfl rfl (Hl AB AA) (H8 Hi) zh (.inr rfl)) ?_;have hb:=h.i.lt;have vP:=h.i.n0;have Uv:=h.x0;have hxb:=h.xb;refine⟨?_,?_⟩
 .simp only[Hj,Hz,dN,OC,Pf,CX,CL];simp[Ih,I6,Jv];refine⟨λ_=>by omega,by kernel_rfl,λ_=>by omega⟩
 refine zv ?_;rw[TN];have M9:(d++[nms[i.toNat]' AA]).map Gv=d.map Gv++[[.HK (nms[i.toNat]' AA)]]:=by rw[Br];rfl
 rw[<- M9];refine hk s.next _ ⟨⟨zh,?_,.inr rfl,AA,by simp[Hj,Hz]⟩,zh,Uv,AA,by simp only[Hj,Hz];omega⟩;exact AkI
def qk(N:List G8)(Q:PV->LLP->Prop)(v2 v3 v4 v5:PV)(j:Int)(e a:Int)(d:List BA):Prop:=∃K,∀(b eo:Nat) (s:St),L86 N e a d b eo s->OB 1 1 Q K (.G5 0 0) v2 v3 v4 v5 (.H6 b (d.map Gv)) (I (j+1)) s
def L86.box{e a e' a':Int}{d:List BA}{b eo:Nat}{s:St}(h:L86 N e a d b eo s):L86 N e' a' d b eo (s.set 0 (.box (ck N e' a'))):=
 have h0:=h.n0
 ⟨Ay,(Ar h0).trans h.hb,h.ho,h.n0,h.lt⟩
def Sw.box{e a e' a':Int}{d:List BA}{b eo bx:Nat}{Gy:LP}{s:St}(h:Sw N e a d b eo bx Gy s):Sw N e' a' d b eo bx Gy (s.set 0 (.box (ck N e' a'))):=
 have h0:=h.x0
 ⟨h.i.box,(Ar h0).trans h.hx,h.x0,h.xb,h.xlt⟩
def vD(hN:N.length<=60)(hS:S.length<=1000000000){x:Hh}(hx:x.WF){Gy:LP}(AC8:Yk 9 Gy 1=some (.agg x.Gy)){Q:PV->LLP->Prop}{v2 v4:PV}{j:Int}(hj0:0<=j)(hj:j<=100000){e a:Int}{d:List BA}{P0:Prop}
  (Ix:∀e2 a2,(e2=0->e=0/\Qc N S nd x)->qk N Q v2 (.HC (S.map Gv)) v4 (I nd) j e2 a2 d):∃K,∀(b eo bx:Nat) (s:St),Sw N e a d b eo bx Gy s->
   Wb 1 1 Q (OB 1 1 Q K) (.G5 0 0) v2 (.HC (S.map Gv)) v4 (I nd) (.H6 b (d.map Gv)) (I j) (.G5 bx 0) s:=by
 have TN:=Abg j;obtain⟨r,e1,a1,I5,rfl,h1⟩:=(wN (nd:=nd) hN hS hx e a).pc;by_cases he:e=0
 .obtain⟨K,hK⟩:=Ix e1 a1 h1;refine⟨K,λb eo bx s h=>?_⟩;have Mt:=h.i.h0;have iH:=h.hx;have Uv:=h.x0;unfold Wb;refine zv ?_;refine AWH ?_ (λh9=>Zq he AJ);refine zv ?_;refine Gu (Ph zh AC8) ?_;refine Gz I5 (Lh rfl) rfl AdX rfl ?_;unfold Wd;refine zv ?_;rw[TN];exact hK b eo _ h.i.box
 .obtain⟨K,hK⟩:=Ix e a λh=>Zq h he;refine⟨K,λb eo bx s h=>?_⟩;have Mt:=h.i.h0;unfold Wb;refine zv ?_;refine Gw (λh9=>Zq AJ he) λ_=>?_;unfold Wd;refine zv ?_;rw[TN];exact hK b eo _ h.i
def AC0(hN:N.length<=60)(hS:S.length<=1000000000)(hM:M.length<=1000000000){x:Hh}(hx:x.WF){G6:List BA}(Pz:G6.length<=100000){HI:Int}{Gy:LP}(AC8:Yk 9 Gy 1=some (.agg x.Gy))(hr0:Gy[0]?=some (.HC (G6.map Gv)))(AKP:Gy[11]?=some (I HI)){Q:PV->LLP->Prop}{v2:PV}{j:Int}(hj0:0<=j)(hj:j<=100000){e0:Int}{dl:Nat}(hdl:dl<=80000)
  (Ix:∀e2 a2 (d2:List BA),d2.length<=dl->(e2=0->e0=0/\(∀n∈G6,Mf M n=true)/\Qc N S nd x)->qk N Q v2 (.HC (S.map Gv)) (.HC (M.map Gv)) (I nd) j e2 a2 d2):
  ∀(c:Nat) (i e a:Int) (d:List BA),0<=i->i<=G6.length->G6.length-i<=c->(d.length:Int)+(G6.length-i)<=dl->(e=0->e0=0/\∀(q:Nat) (h:q<G6.length),(q:Int)<i->Mf M G6[q]=true)->
   ∃K k,∀(b eo bx:Nat) (s:St),Sw N e a d b eo bx Gy s->Ul 1 1 Q (OB 1 1 Q K) k (.G5 0 0) v2 (.HC (S.map Gv)) (.HC (M.map Gv)) (I nd) (.H6 b (d.map Gv)) (I j) (.G5 bx 0) (I i) s:=by
 intro c
 induction c with
 |zero=>
  intro i e a d h0 h1 hc hd Ld
  obtain⟨K,hK⟩:=vD (P0:=True) (v4:=.HC (M.map Gv)) (j:=j) (Q:=Q) (v2:=v2) (nd:=nd) (a:=a) hN hS hx AC8 hj0 hj (d:=d) (e:=e) λe2 a2 h2=>Ix e2 a2 d AA λh3=>⟨(Ld (h2 h3).1).1,λn hn=>by
   obtain⟨q,hq,rfl⟩:=By hn;exact(Ld (h2 h3).1).2 q hq AA,(h2 h3).2⟩
  refine⟨K,1,λb eo bx s h=>?_⟩;have Mt:=h.i.h0;have iH:=h.hx;have Uv:=h.x0;show Tz _ _ _ _ _ _ _ _ _ _ _ _ _ _ _;unfold Tz;refine zv ?_;refine pQ_v AfE ?_;refine JG zh ?_;refine Gw (λh9=>?_) λ_=>hK b eo bx _ h;exact AiF
 |succ c ih=>
  intro i e a d h0 h1 hc hd Ld;by_cases JU:i<G6.length/\e=0
  .obtain⟨H5,he⟩:=JU;have vX:=Ld he
   have AU7:∃e1 a1,(Mf M (G6[i.toNat]' AA)=true/\e1=e/\a1=a\/Mf M (G6[i.toNat]' AA)=false/\e1≠0/\PC BW 68 [.G5 0 0,I HI,I 21] [ck N e a] (.tuple []) [ck N e1 a1]):=by
    cases hh:Mf M (G6[i.toNat]' AA)with
    |true=>exact⟨e,a,.inl ⟨rfl,rfl,rfl⟩⟩
    |false=>
     obtain⟨r,e1,a1,I5,rfl,h2,_⟩:=(JQ (N:=N) (e:=e) (a:=a) HI 21 AA).pc;exact⟨e1,a1,.inr ⟨rfl,h2,I5⟩⟩
   obtain⟨e1,a1,hA⟩:=AU7
   have AHn:∃e2 a2,(Mf d (G6[i.toNat]' AA)=false/\e2=e1/\a2=a1\/Mf d (G6[i.toNat]' AA)=true/\e2≠0/\PC BW 68 [.G5 0 0,I HI,I 20] [ck N e1 a1] (.tuple []) [ck N e2 a2]):=by
    cases hh:Mf d (G6[i.toNat]' AA)with
    |false=>exact⟨e1,a1,.inl ⟨rfl,rfl,rfl⟩⟩
    |true=>
     obtain⟨r,e2,a2,I5,rfl,h2,_⟩:=(JQ (N:=N) (e:=e1) (a:=a1) HI 20 AA).pc;exact⟨e2,a2,.inr ⟨rfl,h2,I5⟩⟩
   obtain⟨e2,a2,hB⟩:=AHn
   obtain⟨K,k,hK⟩:=ih (i+1) e2 a2 (d++[G6[i.toNat]' AA]) AA AA AA AB (λh=>by
    rcases hB with⟨_,h2,_⟩|⟨_,h2,_⟩
    .rcases hA with⟨h3,h4,_⟩|⟨_,h4,_⟩
     .refine⟨vX.1,λq hq hqi=>?_⟩;by_cases UQ:(q:Int)<i
      .exact vX.2 q hq UQ
      .have:q=i.toNat:=AA;subst this;exact h3
     .exact Zq (h2▸h) h4
    .exact Zq h h2)
   have mz:∀(b eo bx:Nat) (s:St),Sw N e2 a2 d b eo bx Gy s->Uk 1 1 Q (OB 1 1 Q K) (Ul 1 1 Q (OB 1 1 Q K) k) (.G5 0 0) v2 (.HC (S.map Gv)) (.HC (M.map Gv)) (I nd) (.H6 b (d.map Gv)) (I j) (.G5 bx 0) (I i) s:=λb eo bx s h=>
    AIh AA h hr0 h0 H5 Pz λb' s' h'=>hK b' 1 bx s' h'
   have mid:∀(b eo bx:Nat) (s:St),Sw N e1 a1 d b eo bx Gy s->Wc 1 1 Q (OB 1 1 Q K) (Ul 1 1 Q (OB 1 1 Q K) k) (.G5 0 0) v2 (.HC (S.map Gv)) (.HC (M.map Gv)) (I nd) (.H6 b (d.map Gv)) (I j) (.G5 bx 0) (I i) s:=by
    intro b eo bx s h;have iH:=h.hx;have Mt:=h.i.h0;have Uv:=h.x0;unfold Wc;refine zv ?_;refine Gu AfE ?_;refine pQ_v Aey ?_;refine Gz (M5 d _ AA) rfl rfl rfl rfl ?_;rcases hB with⟨MR,rfl,rfl⟩|⟨MR,MK,Xp⟩
    .rw[MR];refine zv ?_;exact mz b eo bx _ h
    .rw[MR];refine zv ?_;refine Gu (G2 zh AKP) ?_;refine Gz Xp rfl rfl AdX rfl ?_;exact mz b eo bx _ h.box
   refine⟨K,k+1,λb eo bx s h=>?_⟩;have Mt:=h.i.h0;have iH:=h.hx;have Uv:=h.x0;show Tz _ _ _ _ _ _ _ _ _ _ _ _ _ _ _;unfold Tz;refine zv ?_;refine pQ_v AfE ?_;refine JG zh ?_;refine AWH ?_ λh9=>?_
   .refine zv ?_;refine Gu AfE ?_;refine pQ_v Aey ?_;refine AbY (M5 M _ hM) ?_;rcases hA with⟨Me,rfl,rfl⟩|⟨Me,My,UP⟩
    .rw[Me];refine zv ?_;exact mid b eo bx _ h
    .rw[Me];refine zv ?_;refine Gu (G2 zh AKP) ?_;refine Gz UP rfl rfl AdX rfl ?_;exact mid b eo bx _ h.box
   .exact Aj0
  .obtain⟨K,hK⟩:=vD (P0:=True) (v4:=.HC (M.map Gv)) (j:=j) (Q:=Q) (v2:=v2) (nd:=nd) (a:=a) hN hS hx AC8 hj0 hj (d:=d) (e:=e) λe2 a2 h2=>Ix e2 a2 d AA λh3=>⟨(Ld (h2 h3).1).1,λn hn=>by
    obtain⟨q,hq,rfl⟩:=By hn;exact(Ld (h2 h3).1).2 q hq (by have:=(h2 h3).1;by_cases hi:i<G6.length;exact Zq ⟨hi,this⟩ JU;omega),(h2 h3).2⟩
   refine⟨K,1,λb eo bx s h=>?_⟩;have Mt:=h.i.h0;have iH:=h.hx;have Uv:=h.x0;show Tz _ _ _ _ _ _ _ _ _ _ _ _ _ _ _;unfold Tz;refine zv ?_;refine pQ_v AfE ?_;refine JG zh ?_;refine Gw (λh9=>?_) λ_=>hK b eo bx _ h;exact AfK
end
end
section
open Go.Proofs
def Item.r0(x:Item):x.Gy[0]?=some (.HC (x.G6.map Gv)):=by rw[Item.JP];rfl
def Item.dc(x:Item):x.Gy[10]?=some (.HC (x.G0.map BC)):=by rw[Item.JP];simp[x.e.HJ]
def Item.r11(x:Item):x.Gy[11]?=some (I x.HI):=by rw[Item.JP];simp[x.e.HJ]
def Item.cut(x:Item):Yk 9 x.Gy 1=some (.agg x.e.Gy):=by have:=x.e.HJ;simp only[Yk,x.HJ];rw[Ps AA,Item.JP];simp[this]
def Item.fX(x:Item):x.Gy.all PV.Iu=true:=by rw[Item.JP,Hh.JP];rfl
def ACa{x:Item}{vs us:LP}{bs:LN}(h:Js vs 1=some (us,bs)):Js (.G5 0 0:: .agg x.Gy::vs) 0=some (.G5 0 0:: .agg x.Gy::us,0::bs):=by simp[Js,PV.qx,x.KR,h]
def PJ{l:List Item}{q:Nat}(h:q<l.length):l[q].wt+As (l.drop (q+1))=As (l.drop q):=by rw[Bx h];simp[As]
attribute [local irreducible] pA Wd gT Wa Wb Uk Wc
section
variable{N:List G8} {S M:List BA} {nd:Int}
def AEl(N:List G8)(nd:Int)(S M:List BA)(x:Item):Prop:=∀e a,CF N 108 [.agg x.Gy,.HC (S.map Gv),.HC (M.map Gv),I nd] e a λr e' a'=>∃d:List BA,r=.H6 1 (d.map Gv)/\d.length<=x.wt/\(e'=0->e=0/\NI N nd S M x)
def kU{Q:PV->LLP->Prop}{v2 v3 v4 v5:PV}{j:Int}(hj0:0<=j)(hj:j<=100000){e a:Int}{d dn:List BA}(hdl:d.length+dn.length<=80000){K:Nat}
  (hK:∀(b eo:Nat) (s:St),L86 N e a (d++dn) b eo s->OB 1 1 Q K (.G5 0 0) v2 v3 v4 v5 (.H6 b ((d++dn).map Gv)) (I (j+1)) s){b eo bx bd:Nat}{Gy:LP}{s:St}(h:Sw N e a d b eo bx Gy s):
  gT 1 1 Q (OB 1 1 Q K) (.G5 0 0) v2 v3 v4 v5 (.H6 b (d.map Gv)) (I j) (.H6 bd (dn.map Gv)) s:=by
 have TN:=Abg j;have Mt:=h.i.h0;have H5:=h.i.lt;have xW:=h.i.n0;unfold gT;refine Gu Ae3 ?_;refine pQ_v Adg ?_;unfold Wd;refine zv ?_;rw[TN,<- Br];refine hK s.next 1 _ ⟨zh,?_,.inr rfl,AA,by simp[Hj,Hz]⟩;rw[Br,Bf];exact zh
def uM{Q:PV->LLP->Prop}{v2 v3 v4 v5:PV}{j:Int}(hj0:0<=j)(hj:j<=100000){HI:Int}{Gy:LP}(AKP:Gy[11]?=some (I HI)){e0:Int}{d dn:List BA}(hdl:d.length+dn.length<=80000)
  (Ix:∀e2 a2,(e2=0->e0=0)->qk N Q v2 v3 v4 v5 j e2 a2 (d++dn)):
  ∀(c:Nat) (i e a:Int),0<=i->i<=dn.length->dn.length-i<=c->(e=0->e0=0)->
   ∃K k,∀(b eo bx bd:Nat) (s:St),Sw N e a d b eo bx Gy s->lK 1 1 Q (OB 1 1 Q K) k (.G5 0 0) v2 v3 v4 v5 (.H6 b (d.map Gv)) (I j) (.G5 bx 0) (.H6 bd (dn.map Gv)) (I i) s:=by
 intro c
 induction c with
 |zero=>
  intro i e a h0 h1 hc Ld;obtain⟨K,hK⟩:=Ix e a Ld;refine⟨K,1,λb eo bx bd s h=>?_⟩;have Mt:=h.i.h0;show We _ _ _ _ _ _ _ _ _ _ _ _ _ _ _ _;unfold We;refine zv ?_;refine JG zh ?_;refine Gw (λh9=>?_) λ_=>kU hj0 hj hdl hK h;exact AiF
 |succ c ih=>
  intro i e a h0 h1 hc Ld;by_cases JU:i<dn.length/\e=0
  .obtain⟨H5,he⟩:=JU;have TN:=Abg i
   have AHn:∃e2 a2,(Mf d (dn[i.toNat]' AA)=false/\e2=e/\a2=a\/Mf d (dn[i.toNat]' AA)=true/\e2≠0/\PC BW 68 [.G5 0 0,I HI,I 20] [ck N e a] (.tuple []) [ck N e2 a2]):=by
    cases hh:Mf d (dn[i.toNat]' AA)with
    |false=>exact⟨e,a,.inl ⟨rfl,rfl,rfl⟩⟩
    |true=>
     obtain⟨r,e2,a2,I5,rfl,h2,_⟩:=(JQ (N:=N) (e:=e) (a:=a) HI 20 AA).pc;exact⟨e2,a2,.inr ⟨rfl,h2,I5⟩⟩
   obtain⟨e2,a2,hB⟩:=AHn
   obtain⟨K,k,hK⟩:=ih (i+1) e2 a2 AA AA AA (λh=>by
    rcases hB with⟨_,h2,_⟩|⟨_,h2,_⟩
    .exact Ld he
    .exact Zq h h2)
   refine⟨K,k+1,λb eo bx bd s h=>?_⟩;have Mt:=h.i.h0;have iH:=h.hx;have Uv:=h.x0;show We _ _ _ _ _ _ _ _ _ _ _ _ _ _ _ _;unfold We;refine zv ?_;refine JG zh ?_;refine AWH ?_ λh9=>?_
   .refine pQ_v AeI ?_;refine Gz (M5 d _ AA) rfl rfl rfl rfl ?_;rcases hB with⟨MR,rfl,rfl⟩|⟨MR,MK,Xp⟩
    .rw[MR];refine zv ?_;unfold Wa;refine zv ?_;rw[TN];exact hK b eo bx bd _ h
    .rw[MR];refine zv ?_;refine Gu (G2 zh AKP) ?_;refine Gz Xp rfl rfl AdX rfl ?_;unfold Wa;refine zv ?_;rw[TN];exact hK b eo bx bd _ h.box
   .exact Aj0
  .obtain⟨K,hK⟩:=Ix e a Ld;refine⟨K,1,λb eo bx bd s h=>?_⟩;have Mt:=h.i.h0;show We _ _ _ _ _ _ _ _ _ _ _ _ _ _ _ _;unfold We;refine zv ?_;refine JG zh ?_;refine Gw (λh9=>?_) λ_=>kU hj0 hj hdl hK h;exact AfK
def ADW(hN:N.length<=60)(hS:S.length<=1000000000)(hM:M.length<=1000000000){l:List Item}(Xs:l.length<=100000)(hw:∀x∈l,x.WF)(AFs:∀x∈l,x.G0≠[]->AEl N nd S M x){W:Nat}(hW:W<=80000){e0:Int}{Q:PV->LLP->Prop}
  (hQ:∀e' a' (d:List BA),d.length<=W->(e'=0->e0=0/\∀x∈l,NI N nd S M x)->Q (.H6 1 (d.map Gv)) [ck N e' a']):
  ∀(c:Nat) (j e a:Int) (d:List BA),0<=j->j<=l.length->l.length-j<=c->d.length+As (l.drop j.toNat)<=W->(e=0->e0=0/\∀(q:Nat) (h:q<l.length),(q:Int)<j->NI N nd S M l[q])->
   ∃K,∀(b eo:Nat) (s:St),L86 N e a d b eo s->OB 1 1 Q K (.G5 0 0) (.HC (l.map Aq)) (.HC (S.map Gv)) (.HC (M.map Gv)) (I nd) (.H6 b (d.map Gv)) (I j) s:=by
 intro c
 induction c with
 |zero=>
  intro j e a d h0 h1 hc hd Ld;refine⟨1,λb eo s h=>?_⟩;have Mt:=h.h0;show Wf _ _ _ _ _ _ _ _ _ _ _ _;unfold Wf;refine zv ?_;refine JG zh ?_;refine AWI (λh9=>?_) ?_
  .exact AiF
  .unfold pA;refine zv ?_;refine HB rfl (JN h.hb h.ho Hi) AdX (hQ _ _ _ AA λhe=>⟨(Ld he).1,λx hx=>?_⟩);exact Aj9
 |succ c ih=>
  intro j e a d h0 h1 hc hd Ld;by_cases JU:j<l.length/\e=0
  case neg=>
   refine⟨1,λb eo s h=>?_⟩;have Mt:=h.h0;show Wf _ _ _ _ _ _ _ _ _ _ _ _;unfold Wf;refine zv ?_;refine JG zh ?_;refine AWI (λh9=>?_) ?_
   .exact AfK
   .unfold pA;refine zv ?_;refine HB rfl (JN h.hb h.ho Hi) AdX (hQ _ _ _ AA λhe=>⟨(Ld he).1,λx hx=>?_⟩);obtain⟨q,hq,rfl⟩:=By hx;exact(Ld he).2 q hq (by by_cases hj:j<l.length;exact Zq ⟨hj,he⟩ JU;omega)
  case pos=>
   obtain⟨H5,he⟩:=JU;have vX:=Ld he;have HV:=Vm h0 H5;have Pe:=PJ (l:=l) (q:=j.toNat) AA;generalize hg:l[j.toNat]' AA=x at HV Pe;have hxm:x∈l:=by rw[<- hg];exact Bl _
   have hxw:=hw x hxm
   have Ix:∀e2 a2 (d2:List BA),d2.length<=d.length+x.wt->(e2=0->NI N nd S M x)->qk N Q (.HC (l.map Aq)) (.HC (S.map Gv)) (.HC (M.map Gv)) (I nd) j e2 a2 d2:=λe2 a2 d2 hd2 h2=>
    ih (j+1) e2 a2 d2 AA AA AA (by rw[show(j+1).toNat=j.toNat+1 by omega];omega) λar=>⟨vX.1,λq hq hqj=>by
     by_cases UQ:(q:Int)<j
     .exact vX.2 q hq UQ
     .have:q=j.toNat:=AA;subst this;rw[hg];exact h2 ar⟩
   cases KH:x.G0 with
   |nil=>
    obtain⟨G6,ex,G0,HI⟩:=x;simp only[Item.G0]at KH;subst KH;cases hxw with|mk _ _ _ _ hn hex _ _=>
    have hwx:(Item.mk G6 ex [] HI).wt=G6.length+ex.wt:=by simp[BE,A7]
    obtain⟨K,k,hK⟩:=AC0 (nd:=nd) (Q:=Q) (v2:=.HC (l.map Aq)) (j:=j) (e0:=e) (dl:=d.length+G6.length) hN hS hM hex hn (Item.cut (.mk G6 ex [] HI)) (Item.r0 _) (Item.r11 _) h0 AA AA
     (λe2 a2 d2 h2 h3=>Ix e2 a2 d2 AA λh4=> .eq _ _ _ _ _ (h3 h4).2.1 (h3 h4).2.2) G6.length 0 e a d AA AA AA AD (λh=>⟨h,λq hq hq0=>by omega⟩)
    refine⟨K+1,λb eo s h=>?_⟩;have Mt:=h.h0;have APF:=h.lt;have xW:=h.n0;have iD:=h.hb;show Wf _ _ _ _ _ _ _ _ _ _ _ _;unfold Wf;refine zv ?_;refine JG zh ?_;refine AWH ?_ λh9=>?_
    case refine_2=>
     exact Aj0
    refine Gu Aez ?_;refine pQ_v (Jo (BI _)) ?_;refine pQ_v AeA ?_;refine pQ_v (G2 zh (Item.dc _)) ?_;refine⟨k,hK b eo s.next _ ⟨⟨zh,zh,h.ho,xW,by simp only[Hj,Hz];omega⟩,zh,AA,AA,by simp[Hj,Hz]⟩⟩
   |cons st G0=>
    obtain⟨r,e1,a1,I5,dn,rfl,hdn,h1'⟩:=(AFs x hxm (by rw[KH];simp) e a).pc
    obtain⟨K,k,hK⟩:=uM (N:=N) (Q:=Q) (v2:=.HC (l.map Aq)) (v3:=.HC (S.map Gv)) (v4:=.HC (M.map Gv)) (v5:=I nd) (j:=j) (e0:=e1) (d:=d) (dn:=dn) h0 AA (Item.r11 x) AA
     (λe2 a2 h2=>Ix e2 a2 (d++dn) AB λh3=>(h1' (h2 h3)).2) dn.length 0 e1 a1 AA AA AA id
    refine⟨K+1,λb eo s h=>?_⟩;have Mt:=h.h0;have APF:=h.lt;have xW:=h.n0;have iD:=h.hb;show Wf _ _ _ _ _ _ _ _ _ _ _ _;unfold Wf;refine zv ?_;refine JG zh ?_;refine AWH ?_ λh9=>?_
    case refine_2=>
     exact Aj0
    refine Gu Aez ?_;refine pQ_v (Jo (BI _)) ?_;refine pQ_v AeA ?_;refine pQ_v (G2 zh (Item.dc _)) ?_;rw[KH];refine AWH ?_ (λh9=>by have:=Zy h9;simp at this);refine zv ?_;refine Gu (Ii zh (BI _)) ?_;refine AVt I5 (ACa rfl) rfl AdX rfl ?_;refine⟨k,hK b eo s.next _ _ ⟨⟨zh,zh,h.ho,xW,by simp only[Hj,Hz,LZ,NN];omega⟩,zh,AA,AA,by simp only[Hj,Hz,LZ,NN];omega⟩⟩
def ABh(hN:N.length<=60)(hS:S.length<=1000000000)(hM:M.length<=1000000000){l:List Item}(Xs:l.length<=100000)(hw:∀x∈l,x.WF)(hW:As l<=80000)(AFs:∀x∈l,x.G0≠[]->AEl N nd S M x)(e a:Int):
  CF N 86 [.HC (l.map Aq),.HC (S.map Gv),.HC (M.map Gv),I nd] e a λr e' a'=>∃d:List BA,r=.H6 1 (d.map Gv)/\d.length<=As l/\(e'=0->e=0/\∀x∈l,NI N nd S M x):=by
 obtain⟨K,hK⟩:=ADW (nd:=nd) (W:=As l) (e0:=e) (Q:=λr c=>∃e' a',c=[ck N e' a']/\∃d:List BA,r=.H6 1 (d.map Gv)/\d.length<=As l/\(e'=0->e=0/\∀x∈l,NI N nd S M x)) hN hS hM Xs hw AFs hW
  (λe' a' d h1 h2=>⟨e',a',rfl,d,rfl,h1,h2⟩) l.length 0 e a [] AA AA AA AD (λh=>⟨h,λq hq hq0=>by omega⟩)
 refine ANw 1 rfl _ _ _ _ _ ?_;unfold c86;refine zv ?_;exact⟨K,hK _ 0 _ ⟨zh,zh,.inl rfl,AA,by simp[Hj,I4]⟩⟩
end
end
section
open Go.Proofs
def AHg(f o:List BA):Bool:=(f.length==o.length)&&o.all λx=>Mf f x
def fP(f o:List BA)(RA i:Int):Int:=if !(AHg f o)&&decide (RA<0)then i else RA
attribute [local irreducible] Qf Rd Pm PZ Ob Oa Oc OZ NU WM
section
variable{N:List G8} {S M:List BA} {nd:Int} {Q:PV->LLP->Prop} {v2 v3 v4 v6:PV}
def Su(N:List G8)(Q:PV->LLP->Prop)(v2 v3 v4 v6:PV)(Gy:LP)(i:Int)(e a:Int)(f:List BA)(RA:Int):Prop:=∃K,∀(b eo bx:Nat) (s:St),Sw N e a f b eo bx Gy s->KW 1 1 Q K (.G5 0 0) v2 v3 v4 (.G5 bx 0) v6 (.H6 b (f.map Gv)) (I RA) (I i) s
def qS{Gy:LP}{i:Int}(hi:0<=i)(O4:i<=100000){e a:Int}{f o:List BA}(hf:f.length<=90000)(ho:o.length<=90000){RA:Int}{K:Nat}(hK:∀(b eo bx:Nat) (s:St),Sw N e a f b eo bx Gy s->KW 1 1 Q K (.G5 0 0) v2 v3 v4 (.G5 bx 0) v6 (.H6 b (f.map Gv)) (I (fP f o RA i)) (I (i+1)) s):
  ∀c:Nat,∃k,∀(j:Int) (b eo bx bo:Nat) (s:St),0<=j->j<=o.length->o.length-j<=c->Sw N e a f b eo bx Gy s->
   dt 1 1 Q (KW 1 1 Q K) k (.G5 0 0) v2 v3 v4 (.G5 bx 0) v6 (.H6 b (f.map Gv)) (I RA) (I i) (.H6 bo (o.map Gv)) (.bool ((f.length==o.length)&&(o.take j.toNat).all λx=>Mf f x)) (I j) s:=by
 have TN:=Abg i
 have fin:∀(b eo bx:Nat) (s:St),Sw N e a f b eo bx Gy s->PZ 1 1 Q (KW 1 1 Q K) (.G5 0 0) v2 v3 v4 (.G5 bx 0) v6 (.H6 b (f.map Gv)) (I RA) (I i) (.bool (AHg f o)) s:=by
  intro b eo bx s h;have h9:=hK b eo bx s h;unfold PZ;cases hs:AHg f o
  .refine zv ?_;cases hd:decide (RA<0)
   .exact AiR
   .exact AiR
  .refine zv ?_;unfold Pm;refine zv ?_;rw[TN];simp only[fP,hs]at h9;exact h9
 intro c
 induction c with
 |zero=>
  refine⟨1,λj b eo bx bo s h0 h1 hc h=>?_⟩;have hj:j.toNat=o.length:=AA;show VQ _ _ _ _ _ _ _ _ _ _ _ _ _ _ _ _ _ _;unfold VQ;refine zv ?_;refine AWI (λh9=>?_) ?_
  .exact AfT
  .exact AkU
 |succ c ih=>
  obtain⟨k,ih⟩:=ih;refine⟨k+1,λj b eo bx bo s h0 h1 hc h=>?_⟩;show VQ _ _ _ _ _ _ _ _ _ _ _ _ _ _ _ _ _ _;unfold VQ;refine zv ?_;refine Gw (λh9=>?_) λh9=>?_
  .have H5:j<o.length:=by have:=Ot h9;rw[BX]at this;omega
   have OA:=Abg j;have ZA:=ih (j+1) b eo bx bo s AA AA AA h;rw[show(j+1).toNat=j.toNat+1 by omega,Cp (show j.toNat<o.length by omega),List.all_append,<- Bool.and_assoc]at ZA;simp only[Cl,List.all_nil,Bool.and_true]at ZA;cases hs:(f.length==o.length)&&(o.take j.toNat).all λx=>Mf f x
   .rw[hs]at ZA;refine zv ?_;rw[OA];exact ZA
   .rw[hs]at ZA;refine zv ?_;refine Aah AeI ?_;refine AUp (M5 f _ AA) rfl rfl rfl rfl ?_;rw[OA];exact ZA
  .have hge:¬j<o.length:=by have:=Zy h9;rw[BX]at this;omega
   have hj:j.toNat=o.length:=AA;exact AkU
def ABf(f o:List BA):(((f.map Gv).length:Int)==((o.map Gv).length:Int))=(f.length==o.length):=by rw[BX,BX,De,beq_iff_eq,beq_iff_eq];omega
def qH{Gy:LP}{i:Int}(hi:0<=i)(O4:i<=100000){e a:Int}{f o:List BA}(hf:f.length<=90000)(ho:o.length<=90000){RA:Int}(Ix:∀f' Q2,(f'=f\/f'=o)->(Q2=RA\/Q2=i)->Su N Q v2 v3 v4 v6 Gy (i+1) e a f' Q2):
  ∃K,∀(b eo bx bo eo':Nat) (s:St),Sw N e a f b eo bx Gy s->L86 N e a o bo eo' s->bx≠bo->
   Oa 1 1 Q (KW 1 1 Q K) (.G5 0 0) v2 v3 v4 (.G5 bx 0) v6 (.H6 b (f.map Gv)) (I RA) (I i) (.H6 bo (o.map Gv)) s:=by
 have AT0:∀f',fP f' o RA i=RA\/fP f' o RA i=i:=λf'=>by unfold fP;split<;>simp
 by_cases h0:i=0
 .obtain⟨K,hK⟩:=Ix o (fP o o RA i) (.inr rfl) (AT0 o);obtain⟨k,hk⟩:=qS (v2:=v2) (v3:=v3) (v4:=v4) (v6:=v6) (Q:=Q) hi O4 ho ho hK o.length;refine⟨K,λb eo bx bo eo' s h Xb iD=>?_⟩;unfold Oa;refine zv ?_;refine AWH ?_ (λh9=>Zq h0 AJ);refine zv ?_;unfold Ob;refine zv ?_;refine⟨k,?_⟩;rw[ABf];have h8:=hk 0 bo eo' bx bo s AA AA AA ⟨Xb,h.hx,h.x0,iD,h.xlt⟩;simpa using h8
 .obtain⟨K,hK⟩:=Ix f (fP f o RA i) (.inl rfl) (AT0 f);obtain⟨k,hk⟩:=qS (v2:=v2) (v3:=v3) (v4:=v4) (v6:=v6) (Q:=Q) hi O4 hf ho hK o.length;refine⟨K,λb eo bx bo eo' s h Xb iD=>?_⟩;unfold Oa;refine zv ?_;refine Gw (λh9=>Zq AJ h0) λ_=>?_;unfold Ob;refine zv ?_;refine⟨k,?_⟩;rw[ABf];have h8:=hk 0 b eo bx bo s AA AA AA h;simpa using h8
def zu{Gy:LP}{i:Int}(hi:0<=i)(O4:i<=100000){e a:Int}{f d ow:List BA}(hf:f.length<=90000)(hd:d.length<=80000)(how:ow.length<=1000000000){RA:Int}
  (Ix:∀f' Q2,(f'=f\/f'.length<=d.length)->(Q2=RA\/Q2=i)->Su N Q v2 v3 v4 v6 Gy (i+1) e a f' Q2):
  ∀(c:Nat) (j:Int) (o:List BA),0<=j->j<=d.length->d.length-j<=c->(o.length:Int)<=j->∃K k,∀(b eo bx bo eo' bd bw:Nat) (s:St),Sw N e a f b eo bx Gy s->L86 N e a o bo eo' s->bx≠bo->b≠bo->
   YC 1 1 Q (KW 1 1 Q K) k (.G5 0 0) v2 v3 v4 (.G5 bx 0) v6 (.H6 b (f.map Gv)) (I RA) (I i) (.H6 bw (ow.map Gv)) (.H6 bd (d.map Gv)) (.H6 bo (o.map Gv)) (I j) s:=by
 intro c
 induction c with
 |zero=>
  intro j o h0 h1 hc ho;exact Ake
 |succ c ih=>
  intro j o h0 h1 hc ho;by_cases H5:j<d.length
  case neg=>
   exact Ake
  have OA:=Abg j;cases hh:Mf ow (d[j.toNat]' AA)with
  |true=>
   obtain⟨K,k,hK⟩:=ih (j+1) o AA AA AA AA;refine⟨K,k+1,λb eo bx bo eo' bd bw s h Xb iD MK=>?_⟩;show Oz _ _ _ _ _ _ _ _ _ _ _ _ _ _ _ _ _ _ _;unfold Oz;refine zv ?_;refine AWH ?_ λh9=>?_
   .refine pQ_v AeI ?_;refine AbY (M5 ow _ how) ?_;rw[hh];refine zv ?_;unfold Oc;refine zv ?_;rw[OA];exact hK b eo bx bo eo' bd bw _ h Xb iD MK
   .exact Afu
  |false=>
   obtain⟨K,k,hK⟩:=ih (j+1) (o++[d[j.toNat]' AA]) AA AA AA AB;have M9:(o++[d[j.toNat]' AA]).map Gv=o.map Gv++[[.HK (d[j.toNat]' AA)]]:=by rw[Br];rfl
   refine⟨K,k+1,λb eo bx bo eo' bd bw s h Xb iD MK=>?_⟩;have hob:=Xb.hb;have AXf:=Xb.n0;have AXh:=Xb.lt;have Mt:=h.i.h0;have vP:=h.i.n0;have hbh:=h.i.hb;have iH:=h.hx;show Oz _ _ _ _ _ _ _ _ _ _ _ _ _ _ _ _ _ _ _;unfold Oz;refine zv ?_;refine AWH ?_ λh9=>?_
   .refine pQ_v AeI ?_;refine AbY (M5 ow _ how) ?_;rw[hh];refine zv ?_;refine pQ_v AeI ?_;refine pQ_v (KG rfl rfl (Hl AB AA) (H8 Hi) zh (Xb.ho.imp (λh=>by rw[h];rfl) λh=>h.symm)) ?_;unfold Oc;refine zv ?_;rw[OA,<- M9];refine hK b eo bx bo 1 bd bw _ ⟨⟨zh,zh,h.i.ho,vP,h.i.lt⟩,zh,h.x0,h.xb,h.xlt⟩ ⟨zh,?_,.inr rfl,AXf,AXh⟩ iD MK;exact AkI
   .exact Afu
end
end
section
open Go.Proofs
structure qo (N:List G8) (e a:Int) (f:List ByteArray) (b eo bx:Nat) (Gy:List PV) (bs:Nat) (RD:List PV) (s:St):Prop where
 i:Sw N e a f b eo bx Gy s
 hs:s.heap bs=some (.box RD)
 s0:bs≠0
 sb:bs≠b
 sx:bs≠bx
 slt:bs<s.next
section
variable{N:List G8} {e a e' a':Int} {f:List BA} {b eo bx:Nat} {Gy:LP} {bs:Nat} {RD:LP} {s:St}
def L86.new(h:L86 N e a f b eo s)(h0:0<s.next)(o:Obj):L86 N e a f b eo (s.new o):=
 have H5:=h.lt
 ⟨(Av rfl AA).trans h.h0,(Av rfl AA).trans h.hb,h.ho,h.n0,by rw[Hj];omega⟩
def Sw.new(h:Sw N e a f b eo bx Gy s)(o:Obj):Sw N e a f b eo bx Gy (s.new o):=
 have H5:=h.xlt
 ⟨h.i.new AA o,(Av rfl AA).trans h.hx,h.x0,h.xb,by rw[Hj];omega⟩
def qo.oth(h:qo N e a f b eo bx Gy bs RD s){k:Nat}(hk:k≠0)(hb:b≠k)(hx:bx≠k)(hs:bs≠k)(o:Obj):qo N e a f b eo bx Gy bs RD (s.set k o):=⟨⟨⟨(Ar AA).trans h.i.i.h0,(Ar hb).trans h.i.i.hb,h.i.i.ho,h.i.i.n0,h.i.i.lt⟩,(Ar hx).trans h.i.hx,h.i.x0,h.i.xb,h.i.xlt⟩,(Ar hs).trans h.hs,h.s0,h.sb,h.sx,h.slt⟩
end
attribute [local irreducible] Qf Rd Pm PZ Ob Oa Oc OZ NU WM
section
variable{N:List G8} {S M:List BA} {nd:Int} {Q:PV->LLP->Prop} {v2 v3:PV}
def AEK(hN:N.length<=60){T S' ow d f:List BA}(hT:T.length<=1000000000)(hS':S'.length<=1000000000){LR:List Hc}(hw:U2.WF LR){Gy RD:LP}(hr2:RD[2]?=some (.HC (LR.map Ax)))
  {i:Int}(hi:0<=i)(O4:i<=100000){e a:Int}(hf:f.length<=90000)(hd:d.length<=80000)(how:ow.length<=1000000000){RA:Int}{yC:Nat}
  (cR:∀e' a',e'≠0->Q (.H6 1 []) [ck N e' a'])
  (Ix:∀e' a' f' Q2,e'=0->e=0->(∀t∈LR,Qc N S' nd t.cond)->(f'=f\/f'.length<=d.length)->(Q2=RA\/Q2=i)->Su N Q v2 v3 (I nd) (.H6 yC (T.map Gv)) Gy (i+1) e' a' f' Q2):
  ∃K,∀(b eo bx bs bi bw bd:Nat) (s:St),qo N e a f b eo bx Gy bs RD s->
   OZ 1 1 Q (KW 1 1 Q K) (.G5 0 0) v2 v3 (I nd) (.G5 bx 0) (.H6 yC (T.map Gv)) (.H6 b (f.map Gv)) (I RA) (I i) (.G5 bs 0) (.H6 bi (S'.map Gv)) (.H6 bw (ow.map Gv)) (.H6 bd (d.map Gv)) s:=by
 obtain⟨r,e1,a1,I5,rfl,h1⟩:=(xK (nd:=nd) hN hS' hT hw e a).pc;by_cases OR:e1=0
 .obtain⟨g1,g2⟩:=h1 OR;obtain⟨K,k,hK⟩:=zu (v2:=v2) (v3:=v3) (v4:=I nd) (v6:=.H6 yC (T.map Gv)) (Q:=Q) (N:=N) (Gy:=Gy) (e:=e1) (a:=a1) (RA:=RA) hi O4 hf hd how (λf' Q2 h2 h3=>Ix e1 a1 f' Q2 OR g1 g2 h2 h3) d.length 0 [] AA AA AA AD;refine⟨K,λb eo bx bs bi bw bd s h=>?_⟩;have oL:=h.hs;have Mt:=h.i.i.h0;have j9:=h.s0;have OS:=h.slt;have hbl:=h.i.i.lt;have hxl:=h.i.xlt;unfold OZ;refine zv ?_;refine Gu (G2 zh hr2) ?_;refine AVt I5 rfl rfl AdX rfl ?_;refine Gw (λh9=>Zq OR AJ) λ_=>?_;refine zv ?_;refine⟨k,hK b eo bx s.next 0 bd bw _ (h.i.box.new _) ⟨zh,zh,.inl rfl,AA,by simp only[Hj,Hz,Hu,NN];omega⟩ AA AA⟩
 .refine⟨0,λb eo bx bs bi bw bd s h=>?_⟩;have oL:=h.hs;have Mt:=h.i.i.h0;have j9:=h.s0;have OS:=h.slt;unfold OZ;refine zv ?_;refine Gu (G2 zh hr2) ?_;exact AhE
def tA(hN:N.length<=60){T S' ow d f:List BA}(hT:T.length<=1000000000)(hS':S'.length<=1000000000){LR:List Hc}(hw:U2.WF LR){Gx:List HM}(Xs:Gx.length<=100000){Gy RD:LP}(hr2:RD[2]?=some (.HC (LR.map Ax)))(zB:RD[3]?=some (.HC (Gx.map Ao)))
  {i:Int}(hi:0<=i)(O4:i<=100000){e a:Int}(hf:f.length<=90000)(hd:d.length<=80000)(how:ow.length<=1000000000){RA:Int}{yC:Nat}
  (cR:∀e' a',e'≠0->Q (.H6 1 []) [ck N e' a'])
  (Ix:∀e' a' f' Q2,e'=0->e=0->(∀t∈LR,Qc N S' nd t.cond)->(f'=f\/f'.length<=d.length)->(Q2=RA\/Q2=i)->Su N Q v2 v3 (I nd) (.H6 yC (T.map Gv)) Gy (i+1) e' a' f' Q2):
  ∀(c:Nat) (j:Int),0<=j->j<=Gx.length->Gx.length-j<=c->∃K k,∀(b eo bx bs bi bw bd:Nat) (s:St),qo N e a f b eo bx Gy bs RD s->
   du 1 1 Q (KW 1 1 Q K) k (.G5 0 0) v2 v3 (I nd) (.G5 bx 0) (.H6 yC (T.map Gv)) (.H6 b (f.map Gv)) (I RA) (I i) (.G5 bs 0) (.H6 bi (S'.map Gv)) (.H6 bw (ow.map Gv)) (.H6 bd (d.map Gv)) (I j) s:=by
 have Vg:=AEK (v2:=v2) (v3:=v3) (Q:=Q) (a:=a) hN hT hS' hw hr2 hi O4 hf hd how cR Ix;obtain⟨K,hK⟩:=Vg;intro c
 induction c with
 |zero=>
  intro j h0 h1 hc;exact Akg
 |succ c ih=>
  intro j h0 h1 hc;by_cases H5:j<Gx.length
  case neg=>
   exact Akg
  have OA:=Abg j;cases hh:Mf d (Gx[j.toNat]' AA).name with
  |true=>
   obtain⟨K,k,hK⟩:=ih (j+1) AA AA AA;refine⟨K,k+1,λb eo bx bs bi bw bd s h=>?_⟩;have oL:=h.hs;have Mt:=h.i.i.h0;have j9:=h.s0;have OS:=h.slt;show O0 _ _ _ _ _ _ _ _ _ _ _ _ _ _ _ _ _ _ _ _;unfold O0;refine zv ?_;refine pQ_v (G2 zh zB) ?_;refine AWH ?_ λh9=>?_
   .refine zv ?_;refine Gu (G2 zh zB) ?_;refine pQ_v Aed ?_;refine Gz (M5 d _ AA) rfl rfl rfl rfl ?_;rw[hh];refine zv ?_;rw[OA];exact hK b eo bx bs bi bw bd _ h
   .exact Afu
  |false=>
   obtain⟨r,e2,a2,Jh,rfl,ar,_⟩:=(JQ (N:=N) (e:=e) (a:=a) (Gx[j.toNat]' AA).HI 24 AA).pc;refine⟨0,1,λb eo bx bs bi bw bd s h=>?_⟩;have oL:=h.hs;have Mt:=h.i.i.h0;have j9:=h.s0;have OS:=h.slt;show O0 _ _ _ _ _ _ _ _ _ _ _ _ _ _ _ _ _ _ _ _;unfold O0;refine zv ?_;refine pQ_v (G2 zh zB) ?_;refine AWH ?_ λh9=>?_
   .refine zv ?_;refine Gu (G2 zh zB) ?_;refine pQ_v Aed ?_;refine Gz (M5 d _ AA) rfl rfl rfl rfl ?_;rw[hh];refine zv ?_;refine Gu (G2 zh zB) ?_;refine pQ_v Aed ?_;refine AVt Jh rfl rfl AdX rfl ?_;refine HB rfl rfl AdX (cR _ _ ar)
   .exact Afu
end
end
section
open Go.Proofs
def AAf(N:List G8)(nd:Int)(S M:List BA)(l:List Item):Prop:=∀e a,CF N 86 [.HC (l.map Aq),.HC (S.map Gv),.HC (M.map Gv),I nd] e a λr e' a'=>∃d:List BA,r=.H6 1 (d.map Gv)/\d.length<=As l/\(e'=0->e=0/\∀x∈l,NI N nd S M x)
attribute [local irreducible] Qf Rd Pm PZ Ob Oa Oc OZ NU WM
section
variable{N:List G8} {S M T:List BA} {nd:Int} {Q:PV->LLP->Prop}
def AAQ(hN:N.length<=60)(hS:S.length<=900000000)(hM:M.length<=70000)(hT:T.length<=1000000000){nm:BA}{Lm LR:List Hc}{Gx:List HM}{HE:List Item}{HI:Int}(hw:(HF.mk nm Lm LR Gx HE HI).WF)(hwl:Gx.length<=20000)(Pe:As HE<=80000)
  (PN:AAf N nd (S++Gx.map Ap) (M++Gx.map Ap) HE){Gy:LP}{i:Int}(hi:0<=i)(O4:i<=100000){e a:Int}{f:List BA}(hf:f.length<=90000){RA:Int}{yC:Nat}
  (cR:∀e' a',e'≠0->Q (.H6 1 []) [ck N e' a'])
  (Ix:∀e' a' f' Q2,e'=0->e=0->(∀t∈Lm,Qc N S nd t.cond)->(∀x∈HE,NI N nd (S++Gx.map Ap) (M++Gx.map Ap) x)->(∀t∈LR,Qc N (S++Gx.map Ap) nd t.cond)->(f'=f\/f'.length<=As HE)->(Q2=RA\/Q2=i)->
   Su N Q (.HC (S.map Gv)) (.HC (M.map Gv)) (I nd) (.H6 yC (T.map Gv)) Gy (i+1) e' a' f' Q2):
  ∃K,∀(b eo bx bs bi:Nat) (s:St),qo N e a f b eo bx Gy bs (HF.mk nm Lm LR Gx HE HI).Gy s->
   NU 1 1 Q (KW 1 1 Q K) (.G5 0 0) (.HC (S.map Gv)) (.HC (M.map Gv)) (I nd) (.G5 bx 0) (.H6 yC (T.map Gv)) (.H6 b (f.map Gv)) (I RA) (I i) (.G5 bs 0) (.H6 bi ((S++Gx.map Ap).map Gv)) s:=by
 cases hw with|mk _ _ _ _ _ _ TN Uu hw3 hw4 hw5=>
 obtain⟨r,e1,a1,I5,rfl,h1⟩:=(xK (nd:=nd) hN (S:=S) AA hT TN e a).pc;rw[TW];by_cases OR:e1=0
 case neg=>
  refine⟨0,λb eo bx bs bi s h=>?_⟩;have oL:=h.hs;have Mt:=h.i.i.h0;have j9:=h.s0;have OS:=h.slt;unfold NU;refine zv ?_;exact AhE
 obtain⟨g1,g2⟩:=h1 OR;obtain⟨r,e2,a2,Jh,d,rfl,hd,h2⟩:=(PN e1 a1).pc;have U9:=Zf Gx AA;have APJ:M.map Gv++(Gx.map Ap).map Gv=(M++Gx.map Ap).map Gv:=by rw[Br]
 by_cases ar:e2=0
 case neg=>
  refine⟨0,λb eo bx bs bi s h=>?_⟩;have oL:=h.hs;have Mt:=h.i.i.h0;have j9:=h.s0;have OS:=h.slt;unfold NU;refine zv ?_;refine AVt I5 rfl rfl AdX rfl ?_;refine Gw (λh9=>Zq OR AJ) λ_=>?_;refine zv ?_;refine AbZ U9 ?_;refine HA AeB ?_;refine HA Adg ?_;rw[APJ];refine AUp Jh rfl rfl AdX rfl ?_;refine⟨?_,?_⟩
  .exact Agz
  refine zv ?_;refine AWH ?_ (λh9=>Zq AJ ar);refine zv ?_;refine HB rfl rfl AdX (cR _ _ ar)
 case pos=>
  obtain⟨q1,q2⟩:=h2 ar
  obtain⟨K,k,hK⟩:=tA (v2:=.HC (S.map Gv)) (v3:=.HC (M.map Gv)) (Q:=Q) (S':=S++Gx.map Ap) (ow:=Gx.map Ap) (d:=d) (f:=f) (RA:=RA) (yC:=yC) (RD:=[.HK nm,.HC (Lm.map Ax),.HC (LR.map Ax),.HC (Gx.map Ao),.HC (HE.map Aq),I HI]) (Gy:=Gy) (e:=e2) (a:=a2) hN hT AB Uu AA rfl rfl hi O4 hf AA AB cR
   (λe' a' f' Q2 h3 h4 h5 h6 h7=>Ix e' a' f' Q2 h3 g1 g2 q2 h5 (h6.imp id λh=>by omega) h7) Gx.length 0 AA AA AA
  refine⟨K,λb eo bx bs bi s h=>?_⟩;have oL:=h.hs;have Mt:=h.i.i.h0;have j9:=h.s0;have OS:=h.slt;unfold NU;refine zv ?_;refine AVt I5 rfl rfl AdX rfl ?_;refine Gw (λh9=>Zq OR AJ) λ_=>?_;refine zv ?_;refine AbZ U9 ?_;refine HA AeB ?_;refine HA Adg ?_;rw[APJ];refine AUp Jh rfl rfl AdX rfl ?_;refine⟨?_,?_⟩
  .exact Agz
  refine zv ?_;refine Gw (λh9=>Zq ar AJ) λ_=>?_;have hbl:=h.i.i.lt;have hxl:=h.i.xlt;refine⟨k,hK b eo bx bs bi _ _ _ ?_⟩;have hbh:=h.i.i.hb;have vP:=h.i.i.n0;have iH:=h.i.hx;have Uv:=h.i.x0;exact⟨⟨⟨zh,zh,h.i.i.ho,vP,by simp only[Hj,Hz,Hu,LZ,NN,Lu];omega⟩,zh,Uv,h.i.xb,by simp only[Hj,Hz,Hu,LZ,NN,Lu];omega⟩,zh,j9,h.sb,h.sx,by simp only[Hj,Hz,Hu,LZ,NN,Lu];omega⟩
end
end
section
open Go.Proofs
def AFr{S:List BA}{l:List HM}{q:Nat}(h:q<l.length):S++(l.map Ap).take q++[l[q].name]=S++(l.map Ap).take (q+1):=by rw[Cp AE,CN];simp
def HF.fX(x:HF):x.Gy.all PV.Iu=true:=by rw[HF.JP];rfl
def XS{l:List HF}{q:Nat}(h:q<l.length):l[q].wt<=A7 l:=by
 have h1:l=l.take q++l[q]::l.drop (q+1):=by
  rw[<- Bx h,CP]
 have h2:A7 l=A7 (l.take q++l[q]::l.drop (q+1)):=congrArg _ h1;rw[HF.Io]at h2;simp only[A7]at h2;omega
attribute [local irreducible] Qf Rd Pm PZ Ob Oa Oc OZ NU WM
section
variable{N:List G8} {S M T:List BA} {nd:Int} {Q:PV->LLP->Prop} {v3 v4 v6:PV}
def AGh{Gx:List HM}(Xs:Gx.length<=20000)(hS:S.length<=70000){Gy RD:LP}(zB:RD[3]?=some (.HC (Gx.map Ao))){i:Int}{e a:Int}{f:List BA}{RA:Int}
  (cR:∀e' a',e'≠0->Q (.H6 1 []) [ck N e' a'])
  (Vg:(∀(q:Nat) (h:q<Gx.length),Mf (S++(Gx.map Ap).take q) Gx[q].name=false)->∃K,∀(b eo bx bs bi:Nat) (s:St),qo N e a f b eo bx Gy bs RD s->
   NU 1 1 Q (KW 1 1 Q K) (.G5 0 0) (.HC (S.map Gv)) v3 v4 (.G5 bx 0) v6 (.H6 b (f.map Gv)) (I RA) (I i) (.G5 bs 0) (.H6 bi ((S++Gx.map Ap).map Gv)) s):
  ∀(c:Nat) (j:Int),0<=j->j<=Gx.length->Gx.length-j<=c->(∀(q:Nat) (h:q<Gx.length),(q:Int)<j->Mf (S++(Gx.map Ap).take q) Gx[q].name=false)->∃K k,∀(b eo bx bs bi eoi:Nat) (s:St),qo N e a f b eo bx Gy bs RD s->L86 N e a (S++(Gx.map Ap).take j.toNat) bi eoi s->b≠bi->bx≠bi->bs≠bi->
   YD 1 1 Q (KW 1 1 Q K) k (.G5 0 0) (.HC (S.map Gv)) v3 v4 (.G5 bx 0) v6 (.H6 b (f.map Gv)) (I RA) (I i) (.G5 bs 0) (.H6 bi ((S++(Gx.map Ap).take j.toNat).map Gv)) (I j) s:=by
 have done:∀(j:Int),0<=j->j=Gx.length->(∀(q:Nat) (h:q<Gx.length),(q:Int)<j->Mf (S++(Gx.map Ap).take q) Gx[q].name=false)->∃K k,∀(b eo bx bs bi eoi:Nat) (s:St),qo N e a f b eo bx Gy bs RD s->L86 N e a (S++(Gx.map Ap).take j.toNat) bi eoi s->b≠bi->bx≠bi->bs≠bi->
   YD 1 1 Q (KW 1 1 Q K) k (.G5 0 0) (.HC (S.map Gv)) v3 v4 (.G5 bx 0) v6 (.H6 b (f.map Gv)) (I RA) (I i) (.G5 bs 0) (.H6 bi ((S++(Gx.map Ap).take j.toNat).map Gv)) (I j) s:=by
  intro j h0 hj hd;obtain⟨K,hK⟩:=Vg λq h=>hd q h AA;refine⟨K,1,λb eo bx bs bi eoi s h hi iD hxb mj=>?_⟩;have oL:=h.hs;have Mt:=h.i.i.h0;have j9:=h.s0;have ht:(Gx.map Ap).take j.toNat=Gx.map Ap:=CJ (by rw[BX];omega);show RJ _ _ _ _ _ _ _ _ _ _ _ _ _ _ _ _ _ _;unfold RJ;refine zv ?_;refine pQ_v (G2 zh zB) ?_;refine AWI (λh9=>?_) ?_
  .exact AfT
  .rw[ht];exact hK b eo bx bs bi _ h
 intro c
 induction c with
 |zero=>exactλj h0 h1 hc hd=>done j h0 AA hd
 |succ c ih=>
  intro j h0 h1 hc hd;by_cases H5:j<Gx.length
  case neg=>exact done j h0 AA hd
  have OA:=Abg j;have II:(S++(Gx.map Ap).take j.toNat).length<=90000:=by simp;omega
  cases hh:Mf (S++(Gx.map Ap).take j.toNat) (Gx[j.toNat]' AA).name with
  |true=>
   obtain⟨r,e2,a2,Jh,rfl,ar,_⟩:=(JQ (N:=N) (e:=e) (a:=a) (Gx[j.toNat]' AA).HI 20 AA).pc;refine⟨0,1,λb eo bx bs bi eoi s h hi iD hxb mj=>?_⟩;have oL:=h.hs;have Mt:=h.i.i.h0;have j9:=h.s0;have OS:=h.slt;show RJ _ _ _ _ _ _ _ _ _ _ _ _ _ _ _ _ _ _;unfold RJ;refine zv ?_;refine pQ_v (G2 zh zB) ?_;refine AWH ?_ λh9=>?_
   .refine zv ?_;refine Gu (G2 zh zB) ?_;refine pQ_v (HU h0 (JS h0 H5) rfl) ?_;refine Gz (M5 _ _ AA) rfl rfl rfl rfl ?_;rw[hh];refine zv ?_;refine Gu (G2 zh zB) ?_;refine pQ_v (HU h0 (JS h0 H5) rfl) ?_;exact AiC
   .exact Afu
  |false=>
   obtain⟨K,k,hK⟩:=ih (j+1) AA AA AA (λq hq hqj=>by
    by_cases UQ:(q:Int)<j
    .exact hd q hq UQ
    .have:q=j.toNat:=AA;subst this;exact hh)
   have hnx:S++(Gx.map Ap).take (j+1).toNat=S++(Gx.map Ap).take j.toNat++[(Gx[j.toNat]' AA).name]:=by
    rw[AFr AA,show(j+1).toNat=j.toNat+1 by omega]
   have M9:(S++(Gx.map Ap).take j.toNat++[(Gx[j.toNat]' AA).name]).map Gv=(S++(Gx.map Ap).take j.toNat).map Gv++[[.HK (Gx[j.toNat]' AA).name]]:=by rw[Br];rfl
   rw[hnx]at hK;refine⟨K,k+1,λb eo bx bs bi eoi s h hi iD hxb mj=>?_⟩;have oL:=h.hs;have Mt:=h.i.i.h0;have j9:=h.s0;have OS:=h.slt;have hib:=hi.hb;have fj:=hi.n0;have hbh:=h.i.i.hb;have iH:=h.i.hx;show RJ _ _ _ _ _ _ _ _ _ _ _ _ _ _ _ _ _ _;unfold RJ;refine zv ?_;refine pQ_v (G2 zh zB) ?_;refine AWH ?_ λh9=>?_
   .refine zv ?_;refine Gu (G2 zh zB) ?_;refine pQ_v (HU h0 (JS h0 H5) rfl) ?_;refine Gz (M5 _ _ AA) rfl rfl rfl rfl ?_;rw[hh];refine zv ?_;refine Gu (G2 zh zB) ?_;refine pQ_v (HU h0 (JS h0 H5) rfl) ?_;refine pQ_v (KG rfl rfl (Hl (by rw[BX];show _+1<=_;omega) AA) (H8 Hi) zh (hi.ho.imp (λh=>by rw[h];rfl) λh=>h.symm)) ?_;rw[OA,<- M9];refine hK b eo bx bs bi 1 _ (h.oth fj iD hxb mj _) ⟨zh,?_,.inr rfl,fj,hi.lt⟩ iD hxb mj;exact AkI
   .exact Afu
end
end
section
open Go.Proofs
attribute [local irreducible] Qf Rd Pm PZ Ob Oa Oc OZ NU WM
section
variable{N:List G8} {S M T:List BA} {nd:Int} {Q:PV->LLP->Prop}
def AE2{x:Item}{e a RA:Int}(ho:RA<x.G0.length){f:List BA}(hQ:∀e' a',(e'=0->e=0)->Q (.H6 1 (f.map Gv)) [ck N e' a']){b eo bx:Nat}{s:St}(h:Sw N e a f b eo bx x.Gy s):
  Rd 1 1 Q (.G5 0 0) (.G5 bx 0) (.H6 b (f.map Gv)) (I RA) s:=by
 have Mt:=h.i.h0;have iH:=h.hx;have Uv:=h.x0;have vP:=h.i.n0;have hbh:=h.i.hb;unfold Rd;refine zv ?_;refine JG zh ?_;refine AWI (λh9=>?_) ?_
 .simp only[Bk,decide_eq_true_eq,beq_iff_eq]at h9;refine zv ?_;refine Gu Aeq ?_;refine pQ_v (HU h9.1 (QB AA ho) (BO _)) ?_;refine Gu (IM (by rw[HF.JP];rfl)) ?_;obtain⟨r,e2,a2,Jh,rfl,ar,_⟩:=(JQ (N:=N) (e:=e) (a:=a) (x.G0[RA.toNat]' AA).HI 25 AA).pc;refine Gz Jh rfl rfl AdX rfl ?_;unfold Qf;refine zv ?_;refine HB rfl (JN zh h.i.ho Hi) AdX (hQ _ _ λh=>Zq h ar)
 .unfold Qf;refine zv ?_;refine HB rfl (JN zh h.i.ho Hi) AdX (hQ _ _ id)
def xB(hN:N.length<=60)(hS:S.length<=70000)(hM:M.length<=70000)(hT:T.length<=1000000000){x:Item}(OS:x.G0.length<=100000)(hw:∀s∈x.G0,s.WF)(Pe:A7 x.G0<=20000)(PN:∀s∈x.G0,AAf N nd (S++s.Gx.map Ap) (M++s.Gx.map Ap) s.HE){yC:Nat}{e0:Int}
  (hQ:∀e' a' (f:List BA),f.length<=A7 x.G0->(e'=0->e0=0/\∀s∈x.G0,NS N nd S M s)->Q (.H6 1 (f.map Gv)) [ck N e' a']):
  ∀(c:Nat) (i e a:Int) (f:List BA) (RA:Int),0<=i->i<=x.G0.length->x.G0.length-i<=c->f.length<=A7 x.G0->RA<x.G0.length->(e=0->e0=0/\∀(q:Nat) (h:q<x.G0.length),(q:Int)<i->NS N nd S M x.G0[q])->
   Su N Q (.HC (S.map Gv)) (.HC (M.map Gv)) (I nd) (.H6 yC (T.map Gv)) x.Gy i e a f RA:=by
 have done:∀(i e a:Int) (f:List BA) (RA:Int),0<=i->i<=x.G0.length->¬(i<x.G0.length/\e=0)->f.length<=A7 x.G0->RA<x.G0.length->(e=0->e0=0/\∀(q:Nat) (h:q<x.G0.length),(q:Int)<i->NS N nd S M x.G0[q])->
   Su N Q (.HC (S.map Gv)) (.HC (M.map Gv)) (I nd) (.H6 yC (T.map Gv)) x.Gy i e a f RA:=by
  intro i e a f RA h0 h1 JU hf ho Ld;refine⟨1,λb eo bx s h=>?_⟩;have Mt:=h.i.h0;have iH:=h.hx;have Uv:=h.x0;show YF _ _ _ _ _ _ _ _ _ _ _ _ _ _;unfold YF;refine zv ?_;refine pQ_v Aeq ?_;refine JG zh ?_;refine AWI (λh9=>?_) ?_
  .exact AfK
  .refine AE2 ho (λe' a' he=>hQ e' a' f hf λh2=>⟨(Ld (he h2)).1,λs hs=>?_⟩) h;obtain⟨q,hq,rfl⟩:=By hs;exact(Ld (he h2)).2 q hq (by by_cases hi:i<x.G0.length;exact Zq ⟨hi,he h2⟩ JU;omega)
 intro c
 induction c with
 |zero=>exactλi e a f RA h0 h1 hc hf ho Ld=>done i e a f RA h0 h1 AA hf ho Ld
 |succ c ih=>
  intro i e a f RA h0 h1 hc hf ho Ld;by_cases JU:i<x.G0.length/\e=0
  case neg=>exact done i e a f RA h0 h1 JU hf ho Ld
  obtain⟨H5,he⟩:=JU;have vX:=Ld he;have HV:=QB h0 H5;have Kk:x.G0[i.toNat]' AA∈x.G0:=Bl _;have AGE:=XS (l:=x.G0) (q:=i.toNat) AA;generalize hg:x.G0[i.toNat]' AA=st at HV Kk AGE;obtain⟨nm,Lm,LR,Gx,HE,HI⟩:=st;simp only[BK]at AGE;have hwx:=hw _ Kk
  obtain⟨K,k,hK⟩:=AGh (N:=N) (Q:=Q) (S:=S) (v3:=.HC (M.map Gv)) (v4:=I nd) (v6:=.H6 yC (T.map Gv)) (Gx:=Gx) (Gy:=x.Gy) (RD:=(HF.mk nm Lm LR Gx HE HI).Gy) (i:=i) (e:=e) (a:=a) (f:=f) (RA:=RA) AA AA (by rw[TW];rfl)
   Aef
   (λATQ=>AAQ hN AA AA hT hwx AA AA (PN _ Kk) h0 AA AA Aef
    λe' a' f' Q2 h2 h3 h4 h5 h6 h7 h8=>ih (i+1) e' a' f' Q2 AA AA AA (by rcases h7 with rfl|h7<;>omega) AA λ_=>⟨vX.1,λq hq hqi=>by
     by_cases UQ:(q:Int)<i
     .exact vX.2 q hq UQ
     .have:q=i.toNat:=AA;subst this;rw[hg];exact .mk _ _ _ _ _ _ _ _ h4 h5 h6 ATQ⟩) Gx.length 0 AA AA AA (λq hq hq0=>by omega)
  refine⟨K+1,λb eo bx s h=>?_⟩;have Mt:=h.i.h0;have iH:=h.hx;have Uv:=h.x0;have hbh:=h.i.hb;have vP:=h.i.n0;have hbl:=h.i.lt;have hxl:=h.xlt;show YF _ _ _ _ _ _ _ _ _ _ _ _ _ _;unfold YF;refine zv ?_;refine pQ_v Aeq ?_;refine JG zh ?_;refine AWH ?_ λh9=>?_
  .refine zv ?_;refine Gu Aeq ?_;refine Gu (HU h0 HV (BO _)) ?_;refine pQ_v AfF ?_;refine pQ_v AeB ?_;have h8:=hK b eo bx s.next (s.next+1) 1;simp only[Int.toNat_zero,List.take_zero,CL]at h8;refine⟨k,h8 _ ⟨⟨⟨zh,zh,h.i.ho,vP,by simp only[Hj,Hz];omega⟩,zh,Uv,h.xb,by simp only[Hj,Hz];omega⟩,zh,AA,AA,AA,by simp only[Hj,Hz];omega⟩ ⟨zh,zh,.inr rfl,AA,by simp only[Hj,Hz];omega⟩ AA AA AA⟩
  .exact Aj0
end
end
section
open Go.Proofs
attribute [local irreducible] Qf Rd Pm PZ Ob Oa Oc OZ NU WM
section
variable{N:List G8} {S M:List BA} {nd:Int}
def wz(hN:N.length<=60){x:Item}(OS:x.G0.length<=50000){Q:PV->LLP->Prop}{v2 v3 v4:PV}{e a:Int}(cR:∀e' a',e'≠0->Q (.H6 1 []) [ck N e' a'])
  (Ix:∀(t:List BA) (b:Nat),t.length<=50000->Su N Q v2 v3 v4 (.H6 b (t.map Gv)) x.Gy 0 e a [] (-1)):
  ∀(c:Nat) (i:Int) (t:List BA),0<=i->i<=x.G0.length->x.G0.length-i<=c->(t.length:Int)<=i->∃k,∀(eo:Nat) (s:St),Sw N e a t 3 eo 1 x.Gy s->
   YE 1 1 Q k (.G5 0 0) v2 v3 v4 (.G5 1 0) (.H6 3 (t.map Gv)) (I i) s:=by
 have done:∀(i:Int) (t:List BA),0<=i->i=x.G0.length->(t.length:Int)<=i->∃k,∀(eo:Nat) (s:St),Sw N e a t 3 eo 1 x.Gy s->
   YE 1 1 Q k (.G5 0 0) v2 v3 v4 (.G5 1 0) (.H6 3 (t.map Gv)) (I i) s:=by
  intro i t h0 hi ht;obtain⟨K,hK⟩:=Ix t 3 AA;refine⟨1,λeo s h=>?_⟩;have Mt:=h.i.h0;have iH:=h.hx;have hxl:=h.xlt;show RK _ _ _ _ _ _ _ _ _ _ _ _;unfold RK;refine zv ?_;refine pQ_v (G2 zh (Item.dc x)) ?_;refine AWI (λh9=>?_) ?_
  .exact AfT
  .unfold WM;refine zv ?_;refine⟨K,hK s.next 0 1 _ ⟨⟨zh,zh,.inl rfl,AA,by simp only[Hj];omega⟩,zh,AA,AA,by simp only[Hj];omega⟩⟩
 intro c
 induction c with
 |zero=>exactλi t h0 h1 hc ht=>done i t h0 AA ht
 |succ c ih=>
  intro i t h0 h1 hc ht;by_cases H5:i<x.G0.length
  case neg=>exact done i t h0 AA ht
  have OA:=Abg i;have HV:=QB h0 H5;generalize hg:x.G0[i.toNat]' AA=st at HV;have hr0:st.Gy[0]?=some (.HK st.name):=by rw[HF.JP];rfl
  have hr5:st.Gy[5]?=some (I st.HI):=by rw[HF.JP];rfl
  cases hh:Mf t st.name with
  |true=>
   obtain⟨r,e2,a2,Jh,rfl,ar,_⟩:=(JQ (N:=N) (e:=e) (a:=a) st.HI 20 AA).pc;refine⟨1,λeo s h=>?_⟩;have Mt:=h.i.h0;have iH:=h.hx;have hxl:=h.xlt;show RK _ _ _ _ _ _ _ _ _ _ _ _;unfold RK;refine zv ?_;refine pQ_v (G2 zh (Item.dc x)) ?_;refine AWH ?_ λh9=>?_
   .refine zv ?_;refine Gu (G2 zh (Item.dc x)) ?_;refine pQ_v (HU h0 HV (BO _)) ?_;refine Gu (IM hr0) ?_;refine Gz (M5 _ _ AA) rfl rfl rfl rfl ?_;rw[hh];refine zv ?_;refine Gu (G2 zh (Item.dc x)) ?_;refine pQ_v (HU h0 HV (BO _)) ?_;refine Gu (IM hr5) ?_;exact AiC
   .exact Afu
  |false=>
   obtain⟨k,hK⟩:=ih (i+1) (t++[st.name]) AA AA AA AB;have M9:(t++[st.name]).map Gv=t.map Gv++[[.HK st.name]]:=by rw[Br];rfl
   refine⟨k+1,λeo s h=>?_⟩;have Mt:=h.i.h0;have iH:=h.hx;have hxl:=h.xlt;have hbh:=h.i.hb;have hbl:=h.i.lt;show RK _ _ _ _ _ _ _ _ _ _ _ _;unfold RK;refine zv ?_;refine pQ_v (G2 zh (Item.dc x)) ?_;refine AWH ?_ λh9=>?_
   .refine zv ?_;refine Gu (G2 zh (Item.dc x)) ?_;refine pQ_v (HU h0 HV (BO _)) ?_;refine Gu (IM hr0) ?_;refine Gz (M5 _ _ AA) rfl rfl rfl rfl ?_;rw[hh];refine zv ?_;refine Gu (G2 zh (Item.dc x)) ?_;refine pQ_v (HU h0 HV (BO _)) ?_;refine pQ_v (IM hr0) ?_;refine pQ_v (KG rfl rfl (Hl AB AA) (H8 Hi) zh (h.i.ho.imp (λh=>by rw[h];rfl) λh=>h.symm)) ?_;rw[OA,<- M9];refine hK 1 _ ⟨⟨zh,?_,.inr rfl,AA,hbl⟩,zh,AA,AA,hxl⟩;exact AkI
   .exact Afu
def AIl(hN:N.length<=60)(hS:S.length<=70000)(hM:M.length<=70000){x:Item}(hx:x.WF)(MT:x.G0≠[])(Pe:x.wt<=20000)(PN:∀s∈x.G0,AAf N nd (S++s.Gx.map Ap) (M++s.Gx.map Ap) s.HE):AEl N nd S M x:=by
 intro e a;obtain⟨G6,ex,G0,HI⟩:=x;cases hx with|mk _ _ _ _ hn hex OS zH=>
 simp only[BE]at Pe
 have hsl2:G0.length<=A7 G0:=by
  clear zH PN MT Pe OS
  induction G0 with
  |nil=>simp
  |cons st r ih=>cases st;simp only[A7,BK,CG];omega
 have Ix:∀(t:List BA) (b:Nat),t.length<=50000->Su N (λr c=>∃e' a',c=[ck N e' a']/\∃d:List BA,r=.H6 1 (d.map Gv)/\d.length<=(Item.mk G6 ex G0 HI).wt/\(e'=0->e=0/\NI N nd S M (.mk G6 ex G0 HI))) (.HC (S.map Gv)) (.HC (M.map Gv)) (I nd) (.H6 b (t.map Gv)) (Item.mk G6 ex G0 HI).Gy 0 e a [] (-1):=λt b ht=>
  xB (x:=.mk G6 ex G0 HI) (nd:=nd) (S:=S) (M:=M) (e0:=e) hN hS hM AA OS zH (show A7 G0<=20000 by omega) PN
   (λe' a' f hf h=>⟨e',a',rfl,f,rfl,by simp only[BE];simp only[Item.G0]at hf;omega,λhe=>⟨(h he).1,by
    cases G0 with
    |nil=>exact Zq rfl MT
    |cons st r=>exact .AIk _ _ _ _ _ _ _ (h he).2⟩⟩) G0.length 0 e a [] (-1) AA Ai Ai AD AA (λh=>⟨h,λq hq hq0=>by omega⟩)
 obtain⟨k,hk⟩:=wz (x:=.mk G6 ex G0 HI) hN Ai (e:=e) (a:=a) (λe' a' he=>⟨e',a',rfl,[],rfl,AD,λh=>Zq h he⟩) Ix G0.length 0 [] AA Ai Ai AD;refine AIs 1 rfl _ _ _ _ _ ?_;unfold ARj;refine pQ_v (Ny (Item.fX _) zn) ?_;exact⟨k,hk 0 _ ⟨⟨zh,zh,.inl rfl,AA,by simp[Hj,I4]⟩,zh,AA,AA,by simp[Hj,I4]⟩⟩
def AGc(hN:N.length<=60):∀(c:Nat) (S M:List BA) (l:List Item),As l<=c->As l<=20000->S.length+As l<=70000->M.length+As l<=70000->l.length<=100000->(∀x∈l,x.WF)->AAf N nd S M l:=by
 intro c
 induction c with
 |zero=>
  intro S M l hl hc hS hM Xs hw e a;refine ABh hN AA AA Xs hw AA (λx hx MT=>?_) e a;obtain⟨q,hq,si⟩:=By hx;have h1:=PJ hq;have h2:As l=As (l.take q)+As (l.drop q):=by rw[<- Item.Io,CP]
  exfalso;rw[si]at h1;obtain⟨G6,ex,G0,HI⟩:=x;cases G0 with
  |nil=>exact MT rfl
  |cons st r=>cases st;simp only[BE,A7,BK]at h1;omega
 |succ c ih=>
  intro S M l hl hc hS hM Xs hw e a;refine ABh hN AA AA Xs hw AA (λx hx MT=>?_) e a;have hxw:=hw x hx;obtain⟨q,hq,si⟩:=By hx;have h1:=PJ hq;have h2:As l=As (l.take q)+As (l.drop q):=by rw[<- Item.Io,CP]
  rw[si]at h1;refine AIl hN AA AA hxw MT AA λs hs=>?_;obtain⟨q2,UQ,hqs⟩:=By hs;have h3:=XS UQ;rw[hqs]at h3
  have h4:A7 x.G0<=x.wt:=by
   exact Af6
  have zH:s.WF:=by
   exact Ajx
  obtain⟨nm,Lm,LR,Gx,HE,HI⟩:=s;cases zH with|mk _ _ _ _ _ _ g1 g2 g3 g4 g5=>
  simp only[BK]at h3;exact ih _ _ HE AA AA Aby Aby g4 g5
end
end
section
open Go.Proofs
def Zx{l:List Edge}{i:Int}(h0:0<=i)(h:i<l.length):(l.map A9)[i.toNat]?=some ((l[i.toNat]' AA).Gy):=Aih
def Ry(S:List BA)(v:HM):Prop:=∀c∈v.HH,Mf S c.name=true
section
variable{N:List G8} {S:List BA}
def bI(hS:S.length<=1000000000){l:List HM}(hl:l.length<=100000)(hw:∀v∈l,v.HH.length<=100000)(e a:Int):
  CF N 87 [.HC (l.map Ao),.HC (S.map Gv)] e a λr e' a'=>r=.tuple []/\(e'=0->e=0/\∀v∈l,Ry S v):=by
 have pq:∀{Q:PV->LLP->Prop},e=0->(∀e' a',e'≠0->Q (.tuple []) [ck N e' a'])->∀(w:PV->PV->PV->F1) (i:Int) (fj:0<=i) (hi:i<l.length) (v:HM) (HV:(l.map Ao)[i.toNat]?=some v.Gy) (II:v.HH.length<=100000),(Ry S v->∀hp,w (.G5 0 0) (.HC (l.map Ao)) (.HC (S.map Gv)) (I (i+1)) (SU [.box (ck N e a)] hp 1))->
   ∀(c:Nat) (j:Int),0<=j->j<=v.HH.length->v.HH.length-j<=c->(∀(q:Nat) (h:q<v.HH.length),(q:Int)<j->Mf S (v.HH[q]).name=true)->∃k,∀hp,lL 0 1 Q w k (.G5 0 0) (.HC (l.map Ao)) (.HC (S.map Gv)) (I i) (I j) (SU [.box (ck N e a)] hp 1):=by
  intro Q he cR w i fj hi v HV II TN;have dZ:=Abg i
  have done:∀j:Int,0<=j->j=v.HH.length->(∀(q:Nat) (h:q<v.HH.length),(q:Int)<j->Mf S (v.HH[q]).name=true)->∃k,∀hp,lL 0 1 Q w k (.G5 0 0) (.HC (l.map Ao)) (.HC (S.map Gv)) (I i) (I j) (SU [.box (ck N e a)] hp 1):=by
   intro j hj0 hj hq;refine⟨1,λhp=>?_⟩;show Wh _ _ _ _ _ _ _ _ _ _ _;unfold Wh;refine pQ_v Adi ?_;refine AWI (λh9=>?_) ?_
   .exact AfT
   .unfold yH;refine zv ?_;rw[dZ];refine TN (λc hc=>?_) hp;obtain⟨q,hq',rfl⟩:=By hc;exact hq q hq' AA
  intro c
  induction c with
  |zero=>exactλj h0 h1 hc hq=>done j h0 AA hq
  |succ c ih=>
   intro j h0 h1 hc hq;by_cases H5:j<v.HH.length
   case neg=>exact done j h0 AA hq
   have OA:=Abg j;have Pd:=Zx h0 H5;have hgj:v.HH[j.toNat]' AA=v.HH[j.toNat]' AA:=rfl;generalize hg:v.HH[j.toNat]' AA=g at Pd;cases hh:Mf S g.name with
   |false=>
    refine⟨1,λhp=>?_⟩;show Wh _ _ _ _ _ _ _ _ _ _ _;unfold Wh;refine pQ_v Adi ?_;refine AWH ?_ λh9=>?_
    .refine pQ_v Adi ?_;refine pQ_v Ae9 ?_;refine AbY (M5 S _ hS) ?_;rw[hh];refine zv ?_;exact AiD
    .exact Afu
   |true=>
    obtain⟨k,hk⟩:=ih (j+1) AA AA AA λq hq1 hqj=>by
     by_cases UQ:(q:Int)<j
     .exact hq q hq1 UQ
     .have:q=j.toNat:=AA;subst this;rw[hg];exact hh
    refine⟨k+1,λhp=>?_⟩;show Wh _ _ _ _ _ _ _ _ _ _ _;unfold Wh;refine pQ_v Adi ?_;refine AWH ?_ λh9=>?_
    .refine pQ_v Adi ?_;refine pQ_v Ae9 ?_;refine AbY (M5 S _ hS) ?_;rw[hh];refine zv ?_;refine Aag Adi ?_;refine AWG ?_ ?_
     .exact AiD
     .refine zv ?_;rw[OA];exact hk hp
    .exact Afu
 have wX:∀{Q:PV->LLP->Prop},(∀e' a',(e'=0->e=0/\∀v∈l,Ry S v)->Q (.tuple []) [ck N e' a'])->∀(c:Nat) (i:Int),0<=i->i<=l.length->l.length-i<=c->(∀(q:Nat) (h:q<l.length),(q:Int)<i->Ry S l[q])->∃k,∀hp,eT 0 1 Q k (.G5 0 0) (.HC (l.map Ao)) (.HC (S.map Gv)) (I i) (SU [.box (ck N e a)] hp 1):=by
  intro Q hQ c
  induction c with
  |zero=>
   intro i h0 h1 hc hq;refine⟨1,λhp=>?_⟩;show Wg _ _ _ _ _ _ _ _ _;unfold Wg;refine zv ?_;refine JG rfl ?_;refine AWI (λh=>?_) ?_
   .exact AkQ
   .refine HB rfl rfl rfl (hQ _ _ λhe=>⟨he,λv hv=>?_⟩);obtain⟨q,hq',rfl⟩:=By hv;exact hq q hq' AA
  |succ c ih=>
   intro i h0 h1 hc hq;by_cases JU:i<l.length/\e=0
   case neg=>
    refine⟨1,λhp=>?_⟩;show Wg _ _ _ _ _ _ _ _ _;unfold Wg;refine zv ?_;refine JG rfl ?_;refine AWI (λh=>?_) ?_
    .exact AjC
    .refine HB rfl rfl rfl (hQ _ _ λhe=>⟨he,λv hv=>?_⟩);obtain⟨q,hq',rfl⟩:=By hv;exact hq q hq' (by by_cases hi:i<l.length;exact Zq ⟨hi,he⟩ JU;omega)
   case pos=>
    obtain⟨H5,he⟩:=JU;by_cases Ld:Ry S (l[i.toNat]' AA)
    .obtain⟨k,hk⟩:=ih (i+1) AA AA AA λq hq1 hqi=>by
      by_cases UQ:(q:Int)<i
      .exact hq q hq1 UQ
      .have:q=i.toNat:=AA;subst this;exact Ld
     obtain⟨k2,Jr⟩:=pq (Q:=Q) he Aev (eT 0 1 Q k) i h0 H5 _ (JS h0 H5) (hw _ (Bl _)) (λ_=>hk) _ 0 AA AA (Int.le_of_eq AcH) (λq hq hq0=>by omega);refine⟨k+1,λhp=>?_⟩;exact Agt
    .obtain⟨k2,Jr⟩:=pq (Q:=Q) he Aev (eT 0 1 Q 0) i h0 H5 _ (JS h0 H5) (hw _ (Bl _)) (λh=>Zq h Ld) _ 0 AA AA (Int.le_of_eq AcH) (λq hq hq0=>by omega);refine⟨1,λhp=>?_⟩;exact Agt
 obtain⟨k,hk⟩:=wX (Q:=λr c=>∃e' a',c=[ck N e' a']/\r=.tuple []/\(e'=0->e=0/\∀v∈l,Ry S v)) (λe' a' h=>⟨e',a',rfl,rfl,h⟩) l.length 0 AA AA AA (λq hq hq0=>by omega);refine ANx 0 rfl _ _ _ ?_;unfold c87;refine⟨k,?_⟩;exact TV (eT 0 1 _ k _ _ _ _) rfl rfl λK3=>hk K3
end
end
section
open Go.Proofs
mutual
inductive xR:List ByteArray->Item->Prop
 |mk (S:List ByteArray) (G6:List ByteArray) (e:Hh) (G0:List HF) (HI:Int):(∀s∈G0,NCS S s)->xR S (.mk G6 e G0 HI)
inductive NCS:List ByteArray->HF->Prop
 |mk (S:List ByteArray) (nm:ByteArray) (Lm LR:List Hc) (Gx:List HM) (HE:List Item) (HI:Int):(∀v∈Gx,Ry (S++Gx.map Ap) v)->(∀i∈HE,xR (S++Gx.map Ap) i)->NCS S (.mk nm Lm LR Gx HE HI)
end
def xR.of{S:List BA}{x:Item}(h:∀s∈x.G0,NCS S s):xR S x:=by obtain⟨_,_,_,_⟩:=x;exact .mk _ _ _ _ _ h
structure Xo (N:List G8) (e a:Int) (s:St):Prop where
 h0:s.heap 0=some (.box (ck N e a))
 lt:0<s.next
def AEn(N:List G8)(S:List BA)(l:List Item):Prop:=∀e a,CF N 88 [.HC (l.map Aq),.HC (S.map Gv)] e a λr e' a'=>r=.tuple []/\(e'=0->e=0/\∀x∈l,xR S x)
def HF.WF.Iv{nm:BA}{Lm LR:List Hc}{Gx:List HM}{HE:List Item}{HI:Int}(h:(HF.mk nm Lm LR Gx HE HI).WF):fu.WF Gx/\HE.length<=100000/\∀i∈HE,i.WF:=by cases h with|mk _ _ _ _ _ _ h1 h2 h3 h4 h5=>exact⟨h3,h4,h5⟩
section
variable{N:List G8} {S:List BA} {Q:PV->LLP->Prop}
def yL(hS:S.length<=70000){l:List Item}{x:Item}{i:Int}(hi:0<=i)(O4:i<=100000)(HV:(l.map Aq)[i.toNat]?=some x.Gy)(OS:x.G0.length<=100000)(hw:∀s∈x.G0,s.WF)(Pe:A7 x.G0<=20000)(hc:∀s∈x.G0,AEn N (S++s.Gx.map Ap) s.HE){e0:Int}
  (Ix:∀e a,(e=0->e0=0/\xR S x)->∃K,∀s,Xo N e a s->bE 0 1 Q K (.G5 0 0) (.HC (l.map Aq)) (.HC (S.map Gv)) (I (i+1)) s):
  ∀(c:Nat) (j e a:Int),0<=j->j<=x.G0.length->x.G0.length-j<=c->(e=0->e0=0/\∀(q:Nat) (h:q<x.G0.length),(q:Int)<j->NCS S x.G0[q])->
   ∃K k,∀s,Xo N e a s->lN 0 1 Q (bE 0 1 Q K) k (.G5 0 0) (.HC (l.map Aq)) (.HC (S.map Gv)) (I i) (I j) s:=by
 have dZ:=Abg i
 have done:∀(j e a:Int),0<=j->j=x.G0.length->(e=0->e0=0/\∀(q:Nat) (h:q<x.G0.length),(q:Int)<j->NCS S x.G0[q])->
   ∃K k,∀s,Xo N e a s->lN 0 1 Q (bE 0 1 Q K) k (.G5 0 0) (.HC (l.map Aq)) (.HC (S.map Gv)) (I i) (I j) s:=by
  intro j e a h0 hj Ld
  obtain⟨K,hK⟩:=Ix e a λhe=>⟨(Ld he).1,.of λs hs=>by
   obtain⟨q,hq,rfl⟩:=By hs;exact(Ld he).2 q hq AA⟩
  refine⟨K,1,λs h=>?_⟩;show eU _ _ _ _ _ _ _ _ _ _ _;unfold eU;refine pQ_v Ad5 ?_;refine pQ_v (IM (Item.dc x)) ?_;refine AWI (λh9=>?_) ?_
  .exact AfT
  .unfold yI;refine zv ?_;rw[dZ];exact hK s h
 intro c
 induction c with
 |zero=>exactλj e a h0 h1 hc Ld=>done j e a h0 AA Ld
 |succ c ih=>
  intro j e a h0 h1 jF Ld;by_cases H5:j<x.G0.length
  case neg=>exact done j e a h0 AA Ld
  have OA:=Abg j;have Pd:=QB h0 H5;have Kk:x.G0[j.toNat]' AA∈x.G0:=Bl _;have AGE:=XS (l:=x.G0) (q:=j.toNat) AA;generalize hg:x.G0[j.toNat]' AA=st at Pd Kk AGE;obtain⟨nm,Lm,LR,Gx,HE,HI⟩:=st;simp only[BK]at AGE;obtain⟨hw3,_,_⟩:=(hw _ Kk).Iv;have mi:(HF.mk nm Lm LR Gx HE HI).Gy=[.HK nm,.HC (Lm.map Ax),.HC (LR.map Ax),.HC (Gx.map Ao),.HC (HE.map Aq),I HI]:=by rw[HF.JP];rfl
  have U9:=Zf Gx AA;have T9:S.map Gv++(Gx.map Ap).map Gv=(S++Gx.map Ap).map Gv:=by rw[Br]
  obtain⟨r,e1,a1,K4,rfl,h1'⟩:=(bI (N:=N) (S:=S++Gx.map Ap) (l:=Gx) AB AA (λv hv=>by have:=(hw3.all v hv).HH;omega) e a).pc;obtain⟨r,e2,a2,Jh,rfl,yo⟩:=(hc _ Kk e1 a1).pc;simp only[HF.Gx,HF.HE]at Jh yo
  obtain⟨K,k,hK⟩:=ih (j+1) e2 a2 AA AA AA λar=>by
   obtain⟨q1,q2⟩:=yo ar;obtain⟨q3,q4⟩:=h1' q1;refine⟨(Ld q3).1,λq hq hqj=>?_⟩;by_cases UQ:(q:Int)<j
   .exact(Ld q3).2 q hq UQ
   .have:q=j.toNat:=AA;subst this;rw[hg];exact .mk _ _ _ _ _ _ _ q4 q2
  refine⟨K,k+1,λs h=>?_⟩;have Mt:=h.h0;have hl0:=h.lt;show eU _ _ _ _ _ _ _ _ _ _ _;unfold eU;refine pQ_v Ad5 ?_;refine pQ_v (IM (Item.dc x)) ?_;refine AWH ?_ λh9=>?_
  case refine_2=>have:=Zy h9;rw[BX]at this;omega
  refine pQ_v Ad5 ?_;refine Gu (IM (Item.dc x)) ?_;refine Gu Ae0 ?_;refine Gu AfF ?_;rw[mi];refine zv ?_;refine Aba AeB ?_;refine AYi U9 ?_;refine HA Adg ?_;rw[T9];refine zv ?_;refine⟨?_,?_⟩
  .simp only[Hj,Hz,LZ,Lu,dN,OC,Pf,CX,CL];simp[Ih,I6,Jv];exact⟨λ_=>by omega,by kernel_rfl⟩
  refine zv ?_;refine AVt K4 rfl rfl AdX rfl ?_;refine AVt Jh rfl rfl AdX rfl ?_;rw[OA];exact hK _ ⟨zh,by simp only[Hj,Hz,Hu,LZ,NN,Lu];omega⟩
def ACp(hS:S.length<=70000){l:List Item}(hl:l.length<=100000)(hw:∀x∈l,x.WF)(Pe:As l<=20000)(hc:∀x∈l,∀s∈x.G0,AEn N (S++s.Gx.map Ap) s.HE){e0:Int}
  (hQ:∀e' a',(e'=0->e0=0/\∀x∈l,xR S x)->Q (.tuple []) [ck N e' a']):
  ∀(c:Nat) (i e a:Int),0<=i->i<=l.length->l.length-i<=c->(e=0->e0=0/\∀(q:Nat) (h:q<l.length),(q:Int)<i->xR S l[q])->
   ∃K,∀s,Xo N e a s->bE 0 1 Q K (.G5 0 0) (.HC (l.map Aq)) (.HC (S.map Gv)) (I i) s:=by
 have done:∀(i e a:Int),0<=i->i=l.length->(e=0->e0=0/\∀(q:Nat) (h:q<l.length),(q:Int)<i->xR S l[q])->
   ∃K,∀s,Xo N e a s->bE 0 1 Q K (.G5 0 0) (.HC (l.map Aq)) (.HC (S.map Gv)) (I i) s:=by
  intro i e a h0 hi Ld;refine⟨1,λs h=>?_⟩;have Mt:=h.h0;show lM _ _ _ _ _ _ _ _ _;unfold lM;refine zv ?_;refine AWI (λh9=>?_) ?_
  .exact AfT
  .refine HB rfl rfl AdX (hQ _ _ λhe=>⟨(Ld he).1,λx hx=>?_⟩);exact Aj9
 intro c
 induction c with
 |zero=>exactλi e a h0 h1 hc Ld=>done i e a h0 AA Ld
 |succ c ih=>
  intro i e a h0 h1 jF Ld;by_cases H5:i<l.length
  case neg=>exact done i e a h0 AA Ld
  have HV:=Vm h0 H5;have Kk:l[i.toNat]' AA∈l:=Bl _;have AYG:=PJ (l:=l) (q:=i.toNat) AA;have hwtd:As l=As (l.take i.toNat)+As (l.drop i.toNat):=by rw[<- Item.Io,CP]
  generalize hg:l[i.toNat]' AA=x at HV Kk AYG
  have OS:A7 x.G0<=x.wt:=by
   exact Af6
  have zH:x.G0.length<=100000/\∀s∈x.G0,s.WF:=by
   cases hw x Kk with|mk _ _ _ _ h1 h2 h3 h4=>exact⟨by simp only[Item.G0];omega,h4⟩
  obtain⟨K,k,hK⟩:=yL (Q:=Q) (e0:=e) hS h0 AA HV zH.1 zH.2 AA (hc x Kk) (λe' a' h=>ih (i+1) e' a' AA AA AA λhe=>⟨(Ld (h he).1).1,λq hq hqi=>by
   by_cases UQ:(q:Int)<i
   .exact(Ld (h he).1).2 q hq UQ
   .have:q=i.toNat:=AA;subst this;rw[hg];exact(h he).2⟩) x.G0.length 0 e a AA AA AA (λhe=>⟨he,λq hq hq0=>by omega⟩)
  refine⟨K+1,λs h=>?_⟩;show lM _ _ _ _ _ _ _ _ _;unfold lM;refine zv ?_;refine AWH ?_ λh9=>?_
  .exact⟨k,hK s h⟩
  .exact Afu
def AJi:∀(c:Nat) (S:List BA) (l:List Item),As l<=c->As l<=20000->S.length+As l<=70000->l.length<=100000->(∀x∈l,x.WF)->AEn N S l:=by
 have start:∀(S:List BA) (l:List Item),As l<=20000->S.length+As l<=70000->l.length<=100000->(∀x∈l,x.WF)->(∀x∈l,∀s∈x.G0,AEn N (S++s.Gx.map Ap) s.HE)->AEn N S l:=by
  intro S l hl hS Xs hw hc e a;obtain⟨K,hK⟩:=ACp (N:=N) (S:=S) (l:=l) (e0:=e) (Q:=λr c=>∃e' a',c=[ck N e' a']/\r=.tuple []/\(e'=0->e=0/\∀x∈l,xR S x)) AA Xs hw hl hc (λe' a' h=>⟨e',a',rfl,rfl,h⟩) l.length 0 e a AA AA AA (λh=>⟨h,λq hq hq0=>by omega⟩);refine ANy 0 rfl _ _ _ ?_;unfold c88;exact⟨K,hK _ ⟨zh,by simp[I4]⟩⟩
 intro c
 induction c with
 |zero=>
  intro S l hl hc hS Xs hw;refine start S l hc hS Xs hw λx hx s hs=>?_;exfalso;obtain⟨q,hq,si⟩:=By hx;have h1:=PJ hq;have h2:As l=As (l.take q)+As (l.drop q):=by rw[<- Item.Io,CP]
  rw[si]at h1;obtain⟨G6,ex,G0,HI⟩:=x;cases G0 with
  |nil=>exact Zq hs AcD
  |cons st r=>cases st;simp only[BE,A7,BK]at h1;omega
 |succ c ih=>
  intro S l hl hc hS Xs hw;refine start S l hc hS Xs hw λx hx s hs=>?_;have hxw:=hw x hx;obtain⟨q,hq,si⟩:=By hx;have h1:=PJ hq;have h2:As l=As (l.take q)+As (l.drop q):=by rw[<- Item.Io,CP]
  rw[si]at h1;obtain⟨q2,UQ,hqs⟩:=By hs;have h3:=XS UQ;rw[hqs]at h3
  have h4:A7 x.G0<=x.wt:=by
   exact Af6
  have zH:s.WF:=by
   exact Ajx
  obtain⟨nm,Lm,LR,Gx,HE,HI⟩:=s;cases zH with|mk _ _ _ _ _ _ g1 g2 g3 g4 g5=>
  simp only[BK]at h3;exact ih _ HE AA AA Aby g4 g5
end
end
section
open Go.Proofs
def G8.all(n:G8):List HM:=n.Je++n.Ic++n.Gx
def G8.vars(n:G8):List BA:=n.all.map Ap
def G8.may(n:G8):List BA:=n.vars.drop n.Je.length
def dg(t:List BA):Prop:=∀(q:Nat) (h:q<t.length),Mf (t.take q) t[q]=false
structure Sq (N:List G8) (i:Nat) (n:G8):Prop where
 ASd:dg n.vars
 HE:∀x∈n.HE,NI N i n.vars n.may x
 clk:∀v∈n.Gx,Ry n.vars v
 AFG:∀x∈n.HE,xR n.vars x
def G8.ZV(n:G8):n.Gy=[.HK n.name,.HC (n.Je.map Ao),.HC (n.Ic.map Ao),.HC (n.Gx.map Ao),.HC (n.HE.map Aq),I n.HI]:=by rw[A2,Item.Jc]
def G8.HJ(n:G8):n.Gy.length=6:=rfl
def Ln{l:List HM}:∀r∈l.map Ao,r.length=5:=Agm
structure xj (N:List G8) (e a:Int) (bn:Nat) (Gy:List PV) (t:List ByteArray) (bv eo:Nat) (s:St):Prop where
 hp:s.heap 0=some (.box [.HC (N.map A2)])
 hc:s.heap 1=some (.box (ck N e a))
 hn:s.heap bn=some (.box Gy)
 hv:s.heap bv=some (.Hm (t.map Gv).length eo)
 ho:t.map Gv=[]\/eo=1
 n0:bn≠0/\bn≠1
 v0:bv≠0/\bv≠1/\bv≠bn
 lt:1<s.next/\bn<s.next/\bv<s.next
def gb1{s:St}{cs k:LP}(h:s.heap 1=some (.box cs))(hd:KR cs=some k):HZ s [1]=some [k]:=by simp only[HZ,h,hd]
attribute [local irreducible] WU YU S5 Ug S4 Uh
section
variable{P:Program} {b:Bool} {bc:Nat} {s:St} {R:F1} {N:List G8} {e a:Int}
def Tl(h:s.heap bc=some (.box (ck N e a)))(hk:R (.bool (b&&(e==0))) s):
  JZ (.bool b) true (λk=>k (.G5 bc 0) s [] []) (λAQr AHf _ _=>JZ (.bool b) true (λk=>Jy (IA AQr) AHf k) (λAH3 AAG _ _=>JZ (.bool b) true (λk=>Jy (Iz 1 AH3) AAG k) (λAH4 AAH _ _=>JZ (.bool b) true (λk=>Jy (G3 AH4) AAH k) (λAH5 AAI _ _=>JZ (.bool b) true (λk=>Jy (H7 P .eql 3 AH5 (I 0)) AAI k)
   (λAQs AQe _ _=>pQ (Hf (.bool b) AQs (.bool false)) AQe R) AAI) AAH) AAG) AHf) s:=by
 exact AgT
end
section
variable{N:List G8} {Q:PV->LLP->Prop}
def AFX{e a:Int}{s:St}(h:s.heap 1=some (.box (ck N e a)))(hQ:Q (.tuple [I a,I e]) []):WU 0 0 Q (.G5 1 0) s:=by unfold WU;exact Afy
def AKs{A:List HM}(hA:A.length<=70000){i:Int}{Gy:LP}{e0:Int}
  (Ix:∀e a,(e=0->e0=0/\dg (A.map Ap))->∃K,∀(ba bn bv eo:Nat) (s:St),xj N e a bn Gy (A.map Ap) bv eo s->S4 0 0 Q (Mn 0 0 Q K) (.G5 0 0) (.G5 1 0) (I i) (.G5 bn 0) (.H6 ba (A.map Ao)) (.H6 bv ((A.map Ap).map Gv)) s):
  ∀(c:Nat) (j e a:Int),0<=j->j<=A.length->A.length-j<=c->(e=0->e0=0/\∀(q:Nat) (h:q<A.length),(q:Int)<j->Mf ((A.map Ap).take q) A[q].name=false)->
   ∃K k,∀(ba bn bv eo:Nat) (s:St),xj N e a bn Gy ((A.map Ap).take j.toNat) bv eo s->WV 0 0 Q (Mn 0 0 Q K) k (.G5 0 0) (.G5 1 0) (I i) (.G5 bn 0) (.H6 ba (A.map Ao)) (.H6 bv (((A.map Ap).take j.toNat).map Gv)) (I j) s:=by
 have done:∀(j e a:Int),0<=j->j=A.length->(e=0->e0=0/\∀(q:Nat) (h:q<A.length),(q:Int)<j->Mf ((A.map Ap).take q) A[q].name=false)->
   ∃K k,∀(ba bn bv eo:Nat) (s:St),xj N e a bn Gy ((A.map Ap).take j.toNat) bv eo s->WV 0 0 Q (Mn 0 0 Q K) k (.G5 0 0) (.G5 1 0) (I i) (.G5 bn 0) (.H6 ba (A.map Ao)) (.H6 bv (((A.map Ap).take j.toNat).map Gv)) (I j) s:=by
  intro j e a h0 hj Ld
  obtain⟨K,hK⟩:=Ix e a λhe=>⟨(Ld he).1,λq hq=>by
   rw[Gj];exact(Ld he).2 q (by simpa using hq) (by rw[BX]at hq;omega)⟩
  have vl:(A.map Ap).take j.toNat=A.map Ap:=CJ AB;rw[vl];refine⟨K,1,λba bn bv eo s h=>?_⟩;show YV _ _ _ _ _ _ _ _ _ _ _ _ _;unfold YV;refine zv ?_;refine Gw (λh9=>?_) λ_=>hK ba bn bv eo s h;exact AfT
 intro c
 induction c with
 |zero=>exactλj e a h0 h1 hc Ld=>done j e a h0 AA Ld
 |succ c ih=>
  intro j e a h0 h1 hc Ld;by_cases H5:j<A.length
  case neg=>exact done j e a h0 AA Ld
  have OA:=Abg j;have HV:=JS h0 H5;have II:((A.map Ap).take j.toNat).length=j.toNat:=by simp;omega
  have vl:(A.map Ap).take (j+1).toNat=(A.map Ap).take j.toNat++[(A[j.toNat]' AA).name]:=by
   rw[show(j+1).toNat=j.toNat+1 by omega,Cp AB,Gj]
  have M9:((A.map Ap).take (j+1).toNat).map Gv=((A.map Ap).take j.toNat).map Gv++[[.HK (A[j.toNat]' AA).name]]:=by rw[vl,Br];rfl
  have SI:∃e1 a1,(Mf ((A.map Ap).take j.toNat) (A[j.toNat]' AA).name=false/\e1=e/\a1=a\/Mf ((A.map Ap).take j.toNat) (A[j.toNat]' AA).name=true/\e1≠0/\PC BW 68 [.G5 0 0,I (A[j.toNat]' AA).HI,I 20] [ck N e a] (.tuple []) [ck N e1 a1]):=by
   cases hh:Mf ((A.map Ap).take j.toNat) (A[j.toNat]' AA).name with
   |false=>exact⟨e,a,.inl ⟨rfl,rfl,rfl⟩⟩
   |true=>
    obtain⟨r,e1,a1,I5,rfl,h2,_⟩:=(JQ (N:=N) (e:=e) (a:=a) (A[j.toNat]' AA).HI 20 AA).pc;exact⟨e1,a1,.inr ⟨rfl,h2,I5⟩⟩
  obtain⟨e1,a1,KH⟩:=SI
  obtain⟨K,k,hK⟩:=ih (j+1) e1 a1 AA AA AA (λh=>by
   rcases KH with⟨h3,h4,_⟩|⟨_,h4,_⟩
   .subst h4;refine⟨(Ld h).1,λq hq hqj=>?_⟩;by_cases UQ:(q:Int)<j
    .exact(Ld h).2 q hq UQ
    .have:q=j.toNat:=AA;subst this;exact h3
   .exact Zq h h4)
  rw[M9]at hK
  have mz:∀(ba bn bv eo:Nat) (s:St),xj N e1 a1 bn Gy ((A.map Ap).take j.toNat) bv eo s->Uh 0 0 Q (Mn 0 0 Q K) (WV 0 0 Q (Mn 0 0 Q K) k) (.G5 0 0) (.G5 1 0) (I i) (.G5 bn 0) (.H6 ba (A.map Ao)) (.H6 bv (((A.map Ap).take j.toNat).map Gv)) (I j) s:=by
   intro ba bn bv eo s h;have hpp:=h.hp;have jF:=h.hc;have jK:=h.hn;have hvv:=h.hv;obtain⟨n1,n2⟩:=h.n0;obtain⟨v1,v2,v3⟩:=h.v0;obtain⟨l1,l2,l3⟩:=h.lt;unfold Uh;refine pQ_v (Ju h0 HV rfl) ?_;refine pQ_v (KG rfl rfl (Hl AB AA) (H8 Hi) zh (h.ho.imp (λh=>by rw[h];rfl) λh=>h.symm)) ?_;rw[OA];refine hK ba bn bv 1 _ ⟨zh,zh,zh,?_,.inr rfl,h.n0,h.v0,l1,l2,l3⟩;exact AkI
  refine⟨K,k+1,λba bn bv eo s h=>?_⟩;have jF:=h.hc;obtain⟨n1,n2⟩:=h.n0;obtain⟨v1,v2,v3⟩:=h.v0;show YV _ _ _ _ _ _ _ _ _ _ _ _ _;unfold YV;refine zv ?_;refine AWH ?_ λh9=>?_
  case refine_2=>have:=Zy h9;rw[BX]at this;omega
  refine pQ_v (Ju h0 HV rfl) ?_;refine Gz (M5 _ _ AA) rfl rfl rfl rfl ?_;rcases KH with⟨Me,rfl,rfl⟩|⟨Me,My,UP⟩
  .rw[Me];refine zv ?_;exact mz ba bn bv eo s h
  .rw[Me];refine zv ?_;refine pQ_v (Ju h0 HV rfl) ?_;refine Gz UP rfl rfl (gb1 zh rfl) rfl ?_;exact mz ba bn bv eo _ ⟨(Ar AA).trans h.hp,Ay,(Ar AA).trans h.hn,(Ar AA).trans h.hv,h.ho,h.n0,h.v0,h.lt⟩
end
end
end Go.Vi
