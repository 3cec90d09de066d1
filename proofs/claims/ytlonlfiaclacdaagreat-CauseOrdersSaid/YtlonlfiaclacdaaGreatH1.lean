/- Part of the proof of CauseOrders (own work, made small). -/
import Derived.Test.YtlonlfiaclacdaaGreatF3
import Derived.Test.YtlonlfiaclacdaaGreatF7
import Derived.Test.YtlonlfiaclacdaaGreatG2
set_option linter.all false
set_option maxRecDepth 100000
open Bool renaming and_eq_true->Bk,eq_iff_iff->De,not_eq_true'->DO,or_eq_false_iff->Cn,or_eq_true->DU
open Go renaming FuncId->CE,Program->Cc
open Go.Proofs.Tryz renaming prog->BW
open Go.Vi.Edge renaming Gy->A9
open Go.Vi.G8 renaming all->BM,Hm->BV,Gy->A2
open Go.Vi.HF renaming Gy->BC
open Go.Vi.HM renaming name->Ap,Gy->Ao
open Go.Vi.Hh renaming G1->A4
open Go.Vi.Item renaming Gy->Aq,wt->BE,Il->As
open Go.Vi.Obj renaming box->BD
open Go.Vi.PV renaming bool->BG,int->Az
open Go.Vi.St renaming JW->A3,Hn->Av,LW->BN,HY->Ar,IB->Ay
open Int renaming toNat_natCast->Ce
open List renaming all_cons->Cl,all_eq_true->CV,append_assoc->CN,append_nil->CL,contains_iff_mem->DJ,drop_eq_getElem_cons->Bx,drop_of_length_le->CT,drop_zero->Cv,ext_getElem?->Dc,flatten_replicate_singleton->Ds,getD_eq_getElem?_getD->Bq,getElem?_append_left->B5,getElem?_append_right->CU,getElem?_eq_getElem->BZ,getElem?_eq_none->CA,getElem?_eq_some_iff->Bn,getElem?_map->CH,getElem?_set->DQ,getElem?_take_of_lt->Ek,getElem_mem->Bl,length_append->Bf,length_cons->CG,length_map->BX,length_singleton->CZ,map_append->Br,map_congr_left->Ej,mem_append->Bg,mem_cons->Bz,mem_cons_of_mem->Co,mem_cons_self->C8,mem_filterMap->B6,mem_iff_getElem->FW,mem_iff_getElem?->Dm,mem_map->B8,mem_of_getElem?->Bt,mem_singleton->CS,nil_append->CX,nodup_append->B3,nodup_cons->CY,not_mem_nil->DY,range->Bw,replicate->C2,take_append_drop->CP,take_append_of_le_length->DI,take_length->DG,take_of_length_le->CJ
open Nat renaming add_assoc->Dw,add_mul->CW,beq->Bo,le_refl->Bd,mul_le_mul_right->Cf
open Ne renaming symm->ER
open Option renaming mem_toList->Dr
open Option.some renaming inj->DM,injEq->Ba
open Prod renaming fst->CO,snd->Bp
namespace Go.Vi
attribute [local irreducible] Iq IJ Hf Ij HS Ik G3 G4 HQ IA H7 KV Hx Ig Ie Iz LH LS Jq Kp LG Hw Hg IT pQ Jy JZ Hb HP He H2 IN I0 Int.instDecidableEq Int.decEq instBEqOfDecidableEq
section
open Go.Proofs
attribute [local irreducible] gR lG gS
def nX(f:Int):Nat->List Hh->List BA
 |_,[]=>[]
 |i,k::r=>(if f=8/\i=1 then[]else O9 k)++nX f (i+1) r
def AHT{f:Int}(hf:f≠8):∀{i:Nat} {l:List Hh},nX f i l=UG l
 |_,[]=>by simp[nX,UG]
 |i,k::r=>by simp only[nX,UG,AHT hf];rw[Ng λh=>hf h.1]
def AQY{f s1 tk tl n m a:Int}{nm:BA}{G9:List Hh}(h8:f=8->G9.length=2):O9 (.mk f s1 nm tk tl n m G9 a)=if f=6 then[]else(if f=2\/f=9\/f=10 then[nm]else[])++nX f 0 G9:=by
 simp only[O9];by_cases h:f=8
 .subst h;have h8:=h8 rfl
  match G9,h8 with
  |[a,b],_=>simp[rdH,nX]
 .rw[Ng h,AHT h]
def AFZ:∀{l:List Hh} {x:Hh},x∈l->x.wt<=Hh.Il l
 |[],_,h=>by simp at h
 |k::r,x,h=>by
  simp only[Hh.Il];rcases Bz.1 h with rfl|h
  .omega
  .have:=AFZ h;omega
def ALw{P:Cc}{b:Bool}{s:St}{x:Int}{c:Int}{R:F1}(hk:R (.bool (b&&(x==c))) s):
  JZ (.bool b) true (λk=>k (I x) s [] []) (λv53 s54 _ _=>JZ (.bool b) true (λk=>Jy (H7 P .eql 3 v53 (I c)) s54 k) (λv55 s56 _ _=>pQ (Hf (.bool b) v55 (.bool false)) s56 R) s54) s:=by
 exact AgT
def AHV{x:Hh}(hw:x.WF):x.wt<=20000->PC BW 82 [.agg x.Gy] [] (.H6 1 ((O9 x).map Gv)) []:=by
 induction hw with
 |mk f s1 nm tk tl i m G9 HI Sr hf hs vj ht hk ih=>
 intro Pe;have hrd:=@AQY f s1 tk tl i m HI nm G9 λh=>Sr.2.1 AA;have zK:=nW (.mk f s1 nm tk tl i m G9 HI);rw[hrd]at zK;have hTl:(if f=6 then([]:List BA)else(if f=2\/f=9\/f=10 then[nm]else[])++nX f 0 G9).length<=20000:=AA;simp only[Hh.wt]at Pe;have fk:G9.length<=100000:=Sr.2.2.2.2;have mc:(A4 G9).length=G9.length:=by rw[Hh.Jc,BX]
 have loop:∀(T:List BA),T.length<=20000->∀(c:Nat) (j:Int) (U:List BA),0<=j->j<=G9.length->G9.length-j<=c->U++nX f j.toNat (G9.drop j.toNat)=T->∃k,∀(b eo:Nat) (s:St),s.heap 0=some (.box (Rb f s1 nm tk tl i m G9 HI))->s.heap 2=some (.Hm (U.map Gv).length eo)->(U.map Gv=[]\/eo=1)->2<s.next->
   lH 1 0 (λr c=>c=[]/\r=.H6 1 (T.map Gv)) k (.G5 0 0) (.H6 2 (U.map Gv)) (I j) s:=by
  intro T hT c
  induction c with
  |zero=>
   intro j U h0 h1 hc hU;exact Afm
  |succ c kA=>
   intro j U h0 h1 hc hU;by_cases H5:j<G9.length
   case neg=>
    exact Afm
   have OA:=Abg j;have Kk:G9[j.toNat]' AA∈G9:=Bl _;have I5:=ih _ Kk (by have:=AFZ Kk;omega);rw[Bx AA]at hU;simp only[nX]at hU;have hj1:(j+1).toNat=j.toNat+1:=AA;by_cases hsk:f=8/\j=1
   .rw[Ps ⟨hsk.1,AA⟩,CX]at hU;obtain⟨k,Jr⟩:=kA (j+1) U AA AA AA (by rw[hj1];exact hU);refine⟨k+1,λb eo s hx h2 ho hl=>?_⟩;show S6 _ _ _ _ _ _ _ _;unfold S6;refine zv ?_;refine AWH ?_ λh9=>?_
    case refine_2=>have:=Zy h9;rw[mc]at this;omega
    refine zv ?_;refine ALw ?_;refine AWH ?_ λh9=>?_
    case refine_2=>simp[hsk.1,hsk.2]at h9
    unfold gS;refine zv ?_;rw[OA];exact Jr b eo _ hx h2 ho hl
   .rw[Ng (λh=>hsk ⟨h.1,AA⟩),<- CN]at hU;obtain⟨k,Jr⟩:=kA (j+1) (U++O9 (G9[j.toNat]' AA)) AA AA AA (by rw[hj1];exact hU);rw[Br]at Jr
    have hUl:U.length+(O9 (G9[j.toNat]' AA)).length<=20000:=by
     rw[<- hU]at hT;simp only[Bf]at hT;omega
    refine⟨k+1,λb eo s hx h2 ho hl=>?_⟩;show S6 _ _ _ _ _ _ _ _;unfold S6;refine zv ?_;refine AWH ?_ λh9=>?_
    case refine_2=>have:=Zy h9;rw[mc]at this;omega
    refine zv ?_;refine ALw ?_;refine AWI (λh9=>?_) ?_
    case refine_1=>exact Zq AJ hsk
    refine zv ?_;refine Gu Adn ?_;refine Gu Aea ?_;refine Gz I5 VN rfl rfl rfl ?_;simp only[LZ,Lu];refine pQ_v Adu ?_;unfold gS;refine zv ?_;rw[OA];exact Jr b 1 _ zh AcP (.inr rfl) Abo
 have:PQ BW 82 [.agg (Hh.mk f s1 nm tk tl i m G9 HI).Gy] [] (λr c=>c=[]/\r=.H6 1 ((O9 (.mk f s1 nm tk tl i m G9 HI)).map Gv)):=by
  rw[hrd];refine ANs 1 rfl _ ?_;unfold c82;simp only[Hh.Gy];refine zv ?_;refine Gw (λh6=>?_) λh6=>?_
  .have h6:f=6:=by simpa using h6
   rw[Ps h6];refine zv ?_;exact Ahd
  have h6:f≠6:=by simpa using h6
  rw[Ng h6]at hTl⊢;refine zv ?_;refine iV (Gy:=Rb f s1 nm tk tl i m G9 HI) rfl rfl ?_;refine iV (Gy:=Rb f s1 nm tk tl i m G9 HI) rfl rfl ?_;refine Gw (λh9=>?_) λh9=>?_
  .have aO:f=2\/f=9\/f=10:=by simp at h9;omega
   rw[Ps aO]at hTl⊢;obtain⟨k,Jr⟩:=loop _ hTl G9.length 0 [nm] AA AA AA rfl;refine zv ?_;refine pQ_v AeN ?_;unfold gR;exact⟨k,Jr 0 1 _ zh zh (.inr rfl) (by simp[Hj,Hz,I4])⟩
  .have aO:¬(f=2\/f=9\/f=10):=by simp at h9;omega
   rw[Ng aO]at hTl⊢;obtain⟨k,Jr⟩:=loop _ hTl G9.length 0 [] AA AA AA rfl;unfold gR;exact⟨k,Jr 0 0 _ zh zh (.inl rfl) (by simp[Hj,I4])⟩
 exact Afg
end
section
open Go.Proofs
abbrev XW:=List (BA×Int)
def rfd(sc:XW)(n:BA):Nat->Int
 |0=> -1
 |k+1=>match sc[k]? with
  |some p=>if p.1.toList==n.toList then p.2 else rfd sc n k
  |none=>rfd sc n k
def NC(sc:XW)(n:BA):Int:=rfd sc n sc.length
def fl(sc:XW):LP:=[.HC ((sc.map CO).map Gv),.HC (Ku (sc.map Bp))]
def na(sc:XW)(hl:sc.length<=100000)(n:BA):PC BW 81 [.agg (fl sc),.HK n] [] (I (NC sc n)) []:=by
 have loop:∀k:Nat,k<=sc.length->∀s:St,s.heap 0=some (.box (fl sc))->rO 0 0 (λr c=>c=[]/\r=I (rfd sc n k)) (k+1) (.HK n) (.G5 0 0) (I ((k:Int)-1)) s:=by
  intro k
  induction k with
  |zero=>
   intro _ s h;show eS _ _ _ _ _ _ _ _;unfold eS;refine Gu AeY ?_;refine cf ?_;unfold AFB;exact Ahd
  |succ k ih=>
   intro hk s h;obtain⟨p,hp⟩:∃p,sc[k]?=some p:=⟨_,BZ AA⟩
   show eS _ _ _ _ _ _ _ _;unfold eS;have e1:((k+1:Nat):Int)-1=(k:Int):=AA;rw[e1]
   refine Gu (Ho (v:=.bool true) (by
    show some (BG (decide ((k:Int)>=0)))=_;rw[decide_eq_true AA])) ?_
   refine ct ?_;refine Gu JD ?_;refine Gu (G2 h rfl) ?_;refine Gu (HU AA (Gy:=Gv p.1) Abp rfl) ?_;refine Gu (IM rfl) ?_;refine Gu (Ho (v:=.bool (p.1.toList==n.toList)) rfl) ?_;refine Gw (λhc=>?_) λhc=>?_
   .refine Gu JD ?_;refine Gu (G2 h rfl) ?_;refine Gu (HU AA (Gy:=[I p.2]) (by simp[Ku,hp]) rfl) ?_;refine Gu (IM rfl) ?_;refine Gu Jb ?_;refine HB rfl rfl rfl ⟨rfl,?_⟩;simp only[rfd,hp,hc,if_true]
   .refine Gu (Ho (v:=I ((k:Int)-1)) (by
     show some (PVI (IntKind.i64.wrap _))=_;rw[Hr AA AA])) ?_
    refine Gu Jb ?_;have:rfd sc n (k+1)=rfd sc n k:=by simp[rfd,hp,hc]
    rw[this];exact ih AA s h
 have:PQ BW 81 [.agg (fl sc),.HK n] [] (λr c=>c=[]/\r=I (NC sc n)):=by
  refine ANr 0 rfl _ _ ?_;unfold c81;refine Gu (Ny (l:=fl sc) rfl rfl) ?_;refine Gu JD ?_;refine Gu (G2 (A3 rfl) rfl) ?_;refine Gu (Iy rfl) ?_
  refine Gu (Ho (v:=I ((sc.length:Int)-1)) (by
   show some (PVI (IntKind.i64.wrap _))=_;rw[BX,BX,Hr AA AA])) ?_
  refine Gu Jb ?_;exact⟨_,loop sc.length (Bd _) _ (A3 rfl)⟩
 exact Afg
end
attribute [local irreducible] KB Jk Jx MS Sn SZ IP IU IZ pC Rs SY MW MX MH
section
open Go.Proofs
def QH(p:ON×List BA):PV:=match p.1 with
 |none=> .nil
 |some c=> .H6 c (p.2.map Gv)
def jX(s:St)(p:ON×List BA):Prop:=match p.1 with
 |none=>p.2=[]
 |some c=>s.heap c=some (.Hm p.2.length 1)
def jX.Ir{s s':St}{p:ON×List BA}(h:jX s p)(hk:∀c,p.1=some c->s'.heap c=s.heap c):jX s' p:=by unfold jX at*;exact Ahv
def eX{p:ON×List BA}:(QH p).Iu=true:=by unfold QH;split<;>rfl
def RM{s:St}{p:ON×List BA}(h:jX s p):(QH p).G1=some (p.2.map Gv):=by
 unfold jX at h;unfold QH;split
 .rename_i he;rw[he]at h;simp only at h;rw[h];rfl
 .rfl
def yJ{S:Nat->Bool}{p:ON×List BA}(h:∀c,p.1=some c->S c=true):Kh S (QH p)=true:=by unfold QH;exact AjG
structure L4 where
 gp:Nat
 nb:Option Nat
 G6:List ByteArray
 ba:Option Nat
 KO:List Int
 bo:Option Nat
 os:List (Option Nat×List Int)
def L4.Hm(g:L4):LN:=g.os.filterMap CO
def L4.It(g:L4):LN:=g.gp::(g.nb.toList++(g.bo.toList++(g.ba.toList++g.Hm)))
def L4.box(g:L4):LP:=[QH (g.nb,g.G6),IV (g.ba,g.KO),oM g.bo g.os.length]
structure RS (s:St) (g:L4):Prop where
 box:s.heap g.gp=some (.box g.box)
 nm:jX s (g.nb,g.G6)
 KO:LK s (g.ba,g.KO)
 on:Ti s g.bo g.os
 Hm:∀p,p∈g.os->LK s p
 nd:(g.nb.toList++(g.ba.toList++g.Hm)).Nodup
def RS.Ir{s s':St}{g:L4}(h:RS s g)(hk:∀b,b∈g.It->s'.heap b=s.heap b):RS s' g:=
 ⟨(hk _ Abk).trans h.box,h.nm.Ir λc hc=>hk c Ab6,h.KO.Ir λc hc=>hk c Ab7,h.on.Ir λc hc=>hk c (by simp[L4.It,hc]),
  λp hp=>(h.Hm p hp).Ir λc hc=>hk c AX,h.nd⟩
def RS.kind{s:St}{g:L4}(h:RS s g){b:Nat}(hb:b∈g.It):(b=g.gp/\s.heap b=some (.box g.box))\/(g.bo=some b/\s.heap b=some (.LM 1 (g.os.map IV)))\/∃n,s.heap b=some (.Hm n 1):=by
 simp only[L4.It,L4.Hm,Bz,Bg,Dr,B6]at hb;rcases hb with rfl|hb|hb|hb|⟨p,hp,hb⟩
 .exact .inl ⟨rfl,h.box⟩
 .have:=h.nm;unfold jX at this;exact Ah4
 .exact Ais
 .have:=h.KO;unfold LK at this;exact Ah4
 .exact Aia
def RS.fp{s:St}(hf:Ha s){g:L4}(h:RS s g){fp:LN}(hs:∀b,b∈g.It->b∈fp){b:Nat}(hb:b∈g.It):b<s.next/\∃o,s.heap b=some o/\o.ZF=false/\o.Kh (λb=>fp.contains b)=true:=by
 have T9:∀c,c∈g.It->fp.contains c=true:=λc hc=>by simpa using hs c hc
 rcases h.kind hb with⟨_,hh⟩|⟨_,hh⟩|⟨n,hh⟩
 .refine⟨HT hf hh,_,hh,rfl,Vv λv hv=>?_⟩;simp only[L4.box,Bz,DY,or_false]at hv;rcases hv with rfl|rfl|rfl
  .exact yJ λc hc=>T9 c Ab6
  .exact Wj λc hc=>T9 c Ab7
  .exact wU λc hc=>T9 c (by simp[L4.It,hc])
 .refine⟨HT hf hh,_,hh,rfl,Vv λv hv=>?_⟩;obtain⟨p,hp,rfl⟩:=B8.1 hv;exact Wj λc hc=>T9 c AX
 .exact⟨HT hf hh,_,hh,rfl,rfl⟩
def RS.lt{s:St}(hf:Ha s){g:L4}(h:RS s g){b:Nat}(hb:b∈g.It):b<s.next:=(h.fp hf (λ_ h=>h) hb).1
def RS.IY{s:St}{g:L4}(h:RS s g){fp:LN}(Xr:∀b,b∈g.It->b∈fp):RS (IY s fp) g:=h.Ir λb hb=>Pj (Xr b hb)
def RS.PR{s s0:St}{fp:LN}{g':L4}(h:RS s0 g')(hf:Ha s0)(hi:∀b,b∈g'.It->b∈fp\/s.next<=b):RS (PR s fp s0) g':=h.Ir λb hb=>RU ((hi b hb).imp id λh1=>⟨h1,h.lt hf hb⟩)
def RS.onS{s:St}{g:L4}(h:RS s g){b:Nat}(hb:g.bo=some b):OnS s b g.os:=by refine⟨?_,h.Hm,(B3.1 (B3.1 h.nd).2.1).2.1⟩;have:=h.on;unfold Ti at this;rw[hb]at this;exact this
def RS.WJ{s:St}{g:L4}(h:RS s g){v:Nat}(hv:v<g.os.length):∃b,g.bo=some b/\s.heap b=some (.LM 1 (g.os.map IV)):=AhL
structure MU (s:St) (g:L4) (s':St) (g':L4):Prop where
 gs:RS s' g'
 gp:g'.gp=g.gp
 nb:g'.nb=g.nb
 G6:g'.G6=g.G6
 ba:g'.ba=g.ba
 KO:g'.KO=g.KO
 bo:g'.bo=g.bo
 len:g'.os.length=g.os.length
 Hm:∀b,b∈g'.Hm->b∈g.Hm\/s.next<=b
 Ir:∀b,g.bo≠some b->b∉g.Hm->b<s.next->s'.heap b=s.heap b
 Ki:IL s s'
 Lq:Ha s'
def MU.refl{s:St}{g:L4}(hf:Ha s)(hg:RS s g):MU s g s g:=⟨hg,rfl,rfl,rfl,rfl,rfl,rfl,rfl,λ_ h=> .inl h,λ_ _ _ _=>rfl,IL.refl s,hf⟩
def MU.trans{s1 s2 s3:St}{g1 g2 g3:L4}(h:MU s1 g1 s2 g2)(k:MU s2 g2 s3 g3):MU s1 g1 s3 g3:=
 have hn:=h.Ki.next
 ⟨k.gs,k.gp.trans h.gp,k.nb.trans h.nb,k.G6.trans h.G6,k.ba.trans h.ba,k.KO.trans h.KO,k.bo.trans h.bo,k.len.trans h.len,λb hb=>by
  rcases k.Hm b hb with h1|h1
  .exact h.Hm b h1
  .exact .inr AA,λb h1 h2 h3=>by
  rw[k.Ir b (by rw[h.bo];exact h1) (λhm=>by
   rcases h.Hm b hm with h4|h4
   .exact h2 h4
   .omega) AA]
  exact h.Ir b h1 h2 h3,h.Ki.trans k.Ki,k.Lq⟩
def MU.It{s s':St}{g g':L4}(h:MU s g s' g'){b:Nat}(hb:b∈g'.It):b∈g.It\/s.next<=b:=by
 simp only[L4.It,Bz,Bg,h.gp,h.nb,h.bo,h.ba]at hb⊢;rcases hb with h1|h1|h1|h1|h1
 .exact .inl (.inl h1)
 .exact .inl (.inr (.inl h1))
 .exact .inl (.inr (.inr (.inl h1)))
 .exact .inl (.inr (.inr (.inr (.inl h1))))
 .rcases h.Hm b h1 with h2|h2
  .exact .inl (.inr (.inr (.inr (.inr h2))))
  .exact .inr h2
def MU.HI{s s':St}{g g':L4}(h:MU s g s' g'){b:Nat}(hb:b∉g.It)(hl:b<s.next):s'.heap b=s.heap b:=by simp only[L4.It,Bz,Bg,not_or]at hb;exact h.Ir b (by rintro h1;exact hb.2.2.1 (by simp[h1])) hb.2.2.2.2 hl
def MU.MZ{s s1 s':St}{g g':L4}(h:MU s1 g s' g')(hf:Ha s)(hg:RS s g)(hG:IL s s1)(hk:∀b,b<s.next->s1.heap b=s.heap b):MU s g s' g':=
 have hn:=hG.next
 ⟨h.gs,h.gp,h.nb,h.G6,h.ba,h.KO,h.bo,h.len,λb hb=>by
  rcases h.Hm b hb with h1|h1
  .exact AiL
  .exact .inr AA,λb h1 h2 h3=>by rw[h.Ir b h1 h2 AA,hk b h3],hG.trans h.Ki,h.Lq⟩
def qO{s:St}(hf:Ha s){g:L4}(hg:RS s g){v:Nat}{p:OLI}(hv:g.os[v]?=some p){x:PV}{xs:LI}(hx:x.G1=some (Ku xs))(hn:p.2.length+xs.length<=1000000000){b:Nat}(hb:g.bo=some b):
  ∃y s1 s2 g',I0 (IT 1 8 (IV p) x) s y s1 [] p.1.toList/\y.Iu=true/\I0 (HQ 1 y (.G5 b v)) s1 .undef s2 [] [b]/\MU s g s2 g'/\g'.os.map Bp=NT (g.os.map Bp) v xs/\(∀d,s.heap d≠none->p.1≠some d->s1.heap d=s.heap d):=by
 obtain⟨y,s1,s2,nP,a1,a2,a3,a4,a5,a6,a7,a8,a9,uK,a11⟩:=AHE hf (hg.onS hb) hv hx hn;have Lr:∀d,d∈g.Hm->∃n,s.heap d=some (.Hm n 1):=λd hd=>(hg.onS hb).lt hf hd;have dX:=(hg.onS hb).LM;have L6:=hg.nd;obtain⟨n1,n2,n3⟩:=B3.1 L6;obtain⟨m1,m2,m3⟩:=B3.1 n2;have hgk:s2.heap g.gp=s.heap g.gp:=a8 g.gp (Ip hg.box dX AD) (λhm=>by obtain⟨n,h⟩:=Lr _ hm;rw[hg.box]at h;cases h) (HT hf hg.box)
 have hnk:∀c,g.nb=some c->s.heap c=some (.Hm g.G6.length 1)/\c∉g.Hm/\s2.heap c=s.heap c:=λc hc=>by
  have h1:=hg.nm;unfold jX at h1;simp only[hc]at h1;have h2:c∉g.Hm:=λhm=>n3 c (by simp[hc]) c (Bg.2 (.inr hm)) rfl;exact AkD
 have hak:∀c,g.ba=some c->s.heap c=some (.Hm g.KO.length 1)/\c∉g.Hm/\s2.heap c=s.heap c:=λc hc=>by
  have h1:=hg.KO;unfold LK at h1;simp only[hc]at h1;have h2:c∉g.Hm:=λhm=>m3 c (by simp[hc]) c hm rfl;exact AkD
 refine⟨y,s1,s2,{g with os:=nP},a1,a2,a3,⟨⟨?_,hg.nm.Ir λc hc=>(hnk c hc).2.2,hg.KO.Ir λc hc=>(hak c hc).2.2,?_,a4.Hm,?_⟩,rfl,rfl,rfl,rfl,rfl,rfl,a5,a7,λd h1 h2 h3=>?_,a9,uK⟩,a6,a11⟩
 .show s2.heap g.gp=some (.box [QH (g.nb,g.G6),IV (g.ba,g.KO),oM g.bo nP.length]);rw[hgk,hg.box,a5];rfl
 .show Ti s2 g.bo nP;unfold Ti;rw[hb];exact a4.LM
 .show(g.nb.toList++(g.ba.toList++nP.filterMap CO)).Nodup;refine B3.2 ⟨n1,B3.2 ⟨m1,a4.nd,λc hc d hd=>?_⟩,λc hc d hd=>?_⟩
  .rintro rfl;have hc':g.ba=some c:=by simpa using hc
   obtain⟨h1,h2,_⟩:=hak c hc';rcases a7 c hd with h|h
   .exact h2 h
   .have:=HT hf h1;omega
  .rintro rfl;have hc':g.nb=some c:=by simpa using hc
   obtain⟨h1,h2,_⟩:=hnk c hc';rcases Bg.1 hd with h|h
   .exact n3 c hc c (Bg.2 (.inl h)) rfl
   .rcases a7 c h with h|h
    .exact h2 h
    .have:=HT hf h1;omega
 .exact a8 d AdM h2 h3
end
section
open Go.Proofs
def qy(sc:XW)(n:BA):Js [.agg (fl sc),.HK n] 0=some ([.agg (fl sc),.HK n],[]):=by simp[Js,PV.qx,fl,KR,PV.data]
def fA(sc:XW)(k:Nat)(on:LLI)(ns:List BA):LLI:=ns.foldl (λon n=>NT on k [NC sc n]) on
def nc{X:Mode}{sc:XW}(OS:sc.length<=100000){k bx:Nat}{ns:List BA}(Pz:ns.length<=100000):∀(m i:Nat),ns.length-i=m->i<=ns.length->
  ∀{s:St} (hf:Ha s) {g:L4} (hg:RS s g) (hk:k<g.os.length) (hx:s.heap bx=some (.box (fl sc))) (iG:bx∉g.It) {T:Nat} (hT:Lg (g.os.map Bp) T) (RP:T+m<=900000000),
   ∃s' g',MU s g s' g'/\g'.os.map Bp=fA sc k (g.os.map Bp) (ns.drop i)/\∀Q:F1,Q (.tuple []) s'->pT X Q (m+1) (.G5 g.gp 0) (I k) (.HC (ns.map Gv)) (.G5 bx 0) (I i) s
 |0,i,hm,hi,s,hf,g,hg,hk,hx,iG,T,hT,RP=>by
  refine⟨s,g,.refl hf hg,by rw[CT AA];rfl,λQ hQ=>?_⟩;unfold pT ym;refine Gu (Iy (G1:=ns.map Gv) rfl) ?_;rw[BX];refine Gu Ade ?_;refine cf ?_;exact Ls rfl hQ
 |m+1,i,hm,hi,s,hf,g,hg,hk,hx,iG,T,hT,RP=>by
  have SX:i<ns.length:=AA;obtain⟨n,hn⟩:∃n,ns[i]?=some n:=⟨_,BZ SX⟩
  have ZB:ns[i]=n:=by rw[BZ SX]at hn;exact DM hn
  obtain⟨p,hp⟩:∃p,g.os[k]?=some p:=⟨_,BZ hk⟩
  obtain⟨b,hb,dX⟩:=hg.WJ hk;have au:p.2.length<=T:=hT _ (B8.2 ⟨p,Bt hp,rfl⟩);obtain⟨y,s1,s2,g1,a1,a2,a3,a4,a5,a6⟩:=qO hf hg hp (x:=.HC [[I (NC sc n)]]) (xs:=[NC sc n]) rfl (by simp only[CZ];omega) hb
  obtain⟨s',g',k1,k2,k3⟩:=nc (X:=X) OS Pz m (i+1) AA SX (bx:=bx) (k:=k) a4.Lq a4.gs (by rw[a4.len];exact hk) ((a4.HI iG (HT hf hx)).trans hx) (λh=>by
   rcases a4.It h with h|h
   .exact iG h
   .have:=HT hf hx;omega) (T:=T+1) (by rw[a5];exact Pv hT) AA
  refine⟨s',g',a4.trans k1,?_,λQ hQ=>?_⟩
  .rw[k2,a5,Bx SX,ZB];rfl
  .have Yv:∀d,p.1=some d->d≠g.gp/\d≠bx:=λd hd=>by
    have:=hg.Hm p (Bt hp);unfold LK at this;rw[hd]at this;exact⟨Ip this hg.box AD,Ip this hx AD⟩
   have sT:=HT hf hg.box;have jI:=HT hf hx;unfold pT ym;refine Gu (Iy (G1:=ns.map Gv) rfl) ?_;rw[BX];refine Gu Adf ?_;refine ct ?_;refine HA Kg ?_;refine HA JD ?_;refine HA Ad1 ?_;refine HA Kg ?_;refine HA JD ?_;refine HA Ad1 ?_;rw[hb];refine HA (LA AA Ag) ?_;refine HA Ad8 ?_;refine HA (Ii hx rfl) ?_;refine HA (HU AA (Gy:=Gv n) (by simp[hn]) rfl) ?_;refine HA (IM rfl) ?_;refine tN (na sc OS n) (qy sc n) rfl rfl rfl ?_;simp only[Ni,Lu];refine HA (ZP (G1:=[[I (NC sc n)]]) rfl) ?_;refine HA a1 ?_;refine HA (LA AA Ag) ?_;refine HA a3 ?_;refine⟨?_,?_⟩
   .simp[Ih,I6,Jv,It];exact⟨⟨λ_=>⟨λh=>(Yv _ h).1 rfl,λh=>by omega⟩,KU AF,KU AF,KU AF⟩,KU AF,KU AF,by kernel_rfl,KU AF,KU AF⟩
   .refine Gu Adc ?_;refine Gu Jb ?_;rw[a4.gp]at k3;exact k3 Q hQ
def T5{sc:XW}{k:Nat}:∀{ns:List BA} {on:LLI} {T:Nat},Lg on T->Lg (fA sc k on ns) (T+ns.length)
 |[],_,_,h=>h
 |n::ns,on,T,h=>by
  have:=T5 (sc:=sc) (k:=k) (ns:=ns) (Pv (v:=k) (xs:=[NC sc n]) h);exact Ajb
def ALM{X:Mode}{sc:XW}(OS:sc.length<=100000){k:Nat}{ns:List BA}(Pz:ns.length<=100000){s:St}(hf:Ha s){g:L4}(hg:RS s g)(hk:k<g.os.length){T:Nat}(hT:Lg (g.os.map Bp) T)(RP:T+ns.length<=900000000):
  ∃s' g',MU s g s' g'/\g'.os.map Bp=fA sc k (g.os.map Bp) ns/\∀Q:F1,Q (.tuple []) s'->g80 X Q (.G5 g.gp 0) (I k) (.agg (fl sc)) (.HC (ns.map Gv)) s:=by
 obtain⟨s1,L9⟩:∃s1,s1=s.new (.box (fl sc)):=⟨_,rfl⟩
 have Nm:Ha s1:=by rw[L9];exact IW hf
 have Mv:∀b,b<s.next->s1.heap b=s.heap b:=λb hb=>by rw[L9,Av rfl AA]
 have TM:RS s1 g:=hg.Ir λb hb=>Mv b (hg.lt hf hb);obtain⟨s',g',h1,h2,h3⟩:=nc (X:=X) OS (bx:=s.next) Pz ns.length 0 AA AA Nm TM hk AdC (λh=>by have:=hg.lt hf h;omega) hT RP;refine⟨s',g',h1.MZ hf hg AdD Mv,h2,λQ hQ=>?_⟩;unfold g80;refine Gu Ae6 ?_;rw[<- L9];exact⟨_,h3 Q hQ⟩
def wm{E:Xg}{sc:XW}(OS:sc.length<=100000){k:Nat}{ns:List BA}(Pz:ns.length<=100000){s:St}(hf:Ha s){g:L4}(hg:RS s g)(hk:k<g.os.length){T:Nat}(hT:Lg (g.os.map Bp) T)(RP:T+ns.length<=900000000):
  ∃s' g',SC E BW 80 [.G5 g.gp 0,I k,.agg (fl sc),.HC (ns.map Gv)] s (.tuple []) s'/\MU s g s' g'/\g'.os.map Bp=fA sc k (g.os.map Bp) ns:=by
 obtain⟨s',g',h1,h2,h3⟩:=ALM (X:=.lZ E) OS Pz hf hg hk hT RP;obtain⟨r,s'',h4,rfl,rfl⟩:=(AOg _ _ _ _ _ (h3 (λr s''=>r=.tuple []/\s''=s') ⟨rfl,rfl⟩)).sc hf Ab4;exact⟨_,g',h4,h1,h2⟩
def AH9{l l':LP}(h:WkL l l'):∀m v,VR m (.agg l) v->VR m (.agg l') v:=λm v hv=>by
 cases hv with
 |data _ _ hd=>cases hd
 |agg _ _ hl=>exact .agg _ _ (h m _ hl)
def AAE{X:Mode}(hX:X=.Im .Lp\/X=.lZ .Lp){sc:XW}(OS:sc.length<=100000){k:Nat}{ns:List BA}(Pz:ns.length<=100000){s:St}(hf:Ha s){g:L4}(hg:RS s g)(hk:k<g.os.length){T:Nat}(hT:Lg (g.os.map Bp) T)(RP:T+ns.length<=900000000){sv nv:PV}(hs:∀m v,VR m sv v->VR m (.agg (fl sc)) v)(hns:∀m v,VR m nv v->VR m (.HC (ns.map Gv)) v):
  ∃s' g',MU s g s' g'/\g'.os.map Bp=fA sc k (g.os.map Bp) ns/\∀kl:KL,kl (.tuple []) s' [] g.It->Rs BW X 80 [.G5 g.gp 0,I k,sv,nv] s kl:=by
 have Xr:uF s g.It:=λb hb=>hg.fp hf (λ_ h=>h) hb;obtain⟨s0,g',c1,c2,c3⟩:=wm (E:=.Lp) (s:=IY s g.It) OS Pz hf.IY (hg.IY λ_ h=>h) hk hT RP;have xW:s.next<=s0.next:=c2.Ki.next;refine⟨PR s g.It s0,g',⟨c2.gs.PR c2.Lq λb hb=>c2.It hb,c2.gp,c2.nb,c2.G6,c2.ba,c2.KO,c2.bo,c2.len,c2.Hm,λb h1 h2 h3=>?_,ZL (λb hb=>by obtain⟨_,o,h,_⟩:=Xr b hb;rw[h];simp) xW,cw hf c2.Lq xW λb hb=>(Xr b hb).1⟩,c3,λkl fk=>?_⟩
 .by_cases hm:b∈g.It
  .rw[RU (.inl hm),c2.Ir b h1 h2 h3,Pj hm]
  .exact cy hm h3
 .refine AHL _ Ack Abu (.cons (Q9 _) (.cons (Q9 _) (.cons hs (.cons hns (.refl []))))) ?_ AcQ Xr fk;simp[Lc,Kh,L4.It,fl]
end
section
open Go.Proofs
def AFF(sc:XW)(k:Nat)(on:LLI)(l:List Edge):LLI:=l.foldl (λon x=>fA sc k on [x.name]) on
def Zu(sc:XW)(on:LLI)(l:List HM):LLI:=l.foldl (λon v=>AFF sc (NC sc v.name).toNat on v.HH) on
def gX{sc:XW}{k:Nat}:∀{l:List Edge} {on:LLI} {T:Nat},Lg on T->Lg (AFF sc k on l) (T+l.length)
 |[],_,_,h=>h
 |x::l,on,T,h=>by
  have:=gX (sc:=sc) (k:=k) (l:=l) (T5 (sc:=sc) (k:=k) (ns:=[x.name]) h);exact Ajb
def Wl{sc:XW}:∀{l:List HM} {on:LLI} {T:Nat},(∀v,v∈l->v.HH.length<=17)->Lg on T->Lg (Zu sc on l) (T+17*l.length)
 |[],_,_,_,h=>h
 |v::l,on,T,hv,h=>by
  have:=Wl (sc:=sc) (l:=l) (λu hu=>hv u AdT) (gX (sc:=sc) (k:=(NC sc v.name).toNat) (l:=v.HH) h);have hc:=hv v AD;exact Ajb
attribute [local irreducible] mQ
def qP{sc:XW}(OS:sc.length<=100000){l:List HM}(hl:l.length<=100000){i:Nat}{v:HM}(hv:l[i]?=some v){bx:Nat}{k:Nat}(jG:NC sc v.name=k)(RF:v.HH.length<=100000){Q:F1}{w3:PV->PV->PV->F1}:∀(m j:Nat),v.HH.length-j=m->j<=v.HH.length->
  ∀{s:St} (hf:Ha s) {g:L4} (hg:RS s g) (hk:k<g.os.length) (hx:s.heap bx=some (.box (fl sc))) (iG:bx∉g.It) {T:Nat} (hT:Lg (g.os.map Bp) T) (RP:T+m<=800000000)
   (hW:∀s' g',MU s g s' g'->g'.os.map Bp=AFF sc k (g.os.map Bp) (v.HH.drop j)->mQ (.Im .Lp) Q w3 (.G5 g.gp 0) (.HC (l.map Ao)) (.G5 bx 0) (I i) s'),
  hZ (.Im .Lp) Q w3 (m+1) (.G5 g.gp 0) (.HC (l.map Ao)) (.G5 bx 0) (I i) (I j) s
 |0,j,hm,hj,s,hf,g,hg,hk,hx,iG,T,hT,RP,hW=>by
  rw[CT AA]at hW;unfold hZ sG;refine Gu Adm ?_;refine Gu ZQ ?_;refine Gu (IM rfl) ?_;refine Gu (Iy (G1:=v.HH.map A9) rfl) ?_;rw[BX];refine Gu Ade ?_;exact AiO
 |m+1,j,hm,hj,s,hf,g,hg,hk,hx,iG,T,hT,RP,hW=>by
  have WB:j<v.HH.length:=AA;obtain⟨e,he⟩:∃e,v.HH[j]?=some e:=⟨_,BZ WB⟩
  have hej:v.HH[j]=e:=by rw[BZ WB]at he;exact DM he
  rw[Bx WB,hej]at hW;have SX:=(Bn.1 hv).1;have sT:=HT hf hg.box;have jI:=HT hf hx;obtain⟨s1,g1,a1,a2,a3⟩:=AAE (X:=.Im .Lp) (.inl rfl) OS (ns:=[e.name]) AD hf hg hk hT AB (sv:=.agg (fl sc)) (nv:=.HC [[.HK e.name]]) (Q9 _) (Q9 _);unfold hZ sG;refine Gu Adm ?_;refine Gu ZQ ?_;refine Gu (IM rfl) ?_;refine Gu (Iy (G1:=v.HH.map A9) rfl) ?_;rw[BX];refine Gu Adf ?_;refine ct ?_;refine HA (Ii hx rfl) ?_;refine HA Adm ?_;refine HA ZQ ?_;refine HA AeZ ?_;refine tN (na sc OS v.name) (qy sc v.name) rfl rfl rfl ?_;simp only[Ni,Lu];refine HA (Ii hx rfl) ?_;refine HA Adm ?_;refine HA ZQ ?_;refine HA (IM (v:=.HC (v.HH.map A9)) rfl) ?_;refine HA (HU AA (Gy:=e.Gy) (by simp[he]) rfl) ?_;refine HA ZQ ?_;refine HA (IM (v:=.HK e.name) rfl) ?_;refine HA (ZP (G1:=[[.HK e.name]]) rfl) ?_;rw[jG];refine a3 _ ?_;refine⟨?_,?_⟩
  .simp[Ih,I6,Jv,It];exact⟨KU AF,KU AF⟩
  .refine Gu Adc ?_;refine Gu Jb ?_;rw[<- a1.gp]
   refine qP OS hl hv jG RF m (j+1) AA WB a1.Lq a1.gs (by rw[a1.len];exact hk) ((a1.HI iG jI).trans hx) (λh=>by
    rcases a1.It h with h|h
    .exact iG h
    .omega) (T:=T+1) (by rw[a2];exact T5 hT) AA λs2 g2 k1 k2=>?_
   have:=hW s2 g2 (a1.trans k1) (by rw[k2,a2];rfl);rw[a1.gp];exact this
def nV{sc:XW}(OS:sc.length<=100000){l:List HM}(hl:l.length<=100000){bx:Nat}(RF:∀v,v∈l->v.HH.length<=17){Q:F1}:∀(m i:Nat),l.length-i=m->i<=l.length->
  ∀{s:St} (hf:Ha s) {g:L4} (hg:RS s g) (jG:∀v,v∈l->∃k:Nat,NC sc v.name=k/\k<g.os.length) (hx:s.heap bx=some (.box (fl sc))) (iG:bx∉g.It) {T:Nat} (hT:Lg (g.os.map Bp) T) (RP:T+17*m<=700000000)
   (hW:∀s' g',MU s g s' g'->g'.os.map Bp=Zu sc (g.os.map Bp) (l.drop i)->Q (.tuple []) s'),
  jB (.Im .Lp) Q (m+1) (.G5 g.gp 0) (.HC (l.map Ao)) (.G5 bx 0) (I i) s
 |0,i,hm,hi,s,hf,g,hg,jG,hx,iG,T,hT,RP,hW=>by
  rw[CT AA]at hW;unfold jB yk;refine Gu Ad4 ?_;rw[BX];exact Agq
 |m+1,i,hm,hi,s,hf,g,hg,jG,hx,iG,T,hT,RP,hW=>by
  have SX:i<l.length:=AA;obtain⟨v,cZ⟩:∃v,v=l[i]:=⟨_,rfl⟩
  have hv:l[i]?=some v:=by rw[cZ];exact BZ SX
  have hvm:=Bt hv;rw[Bx SX,<- cZ]at hW;obtain⟨k,Mv,Jr⟩:=jG v hvm;have AFu:=RF v hvm;unfold jB yk;refine Gu Ad4 ?_;rw[BX];refine Gu Adf ?_;refine ct ?_;refine⟨_,qP OS hl hv (bx:=bx) Mv AA v.HH.length 0 AA AA hf hg Jr hx iG hT AA λs1 g1 a1 a2=>?_⟩;unfold mQ;refine Gu Adc ?_;refine Gu Jb ?_;rw[<- a1.gp];have jI:=HT hf hx
  refine nV OS hl RF m (i+1) AA SX a1.Lq a1.gs (λu hu=>by rw[a1.len];exact jG u hu) ((a1.HI iG jI).trans hx) (λh=>by
    rcases a1.It h with h|h
    .exact iG h
    .omega) (T:=T+v.HH.length) (by rw[a2];exact gX hT) AA λs2 g2 k1 k2=>hW s2 g2 (a1.trans k1) (by rw[k2,a2];simp only[Cv,Zu,List.foldl_cons,Mv,Ce])
def AAB{sc:XW}(OS:sc.length<=100000){l:List HM}(hl:l.length<=100000)(RF:∀v,v∈l->v.HH.length<=17){s:St}(hf:Ha s){g:L4}(hg:RS s g)(jG:∀v,v∈l->∃k:Nat,NC sc v.name=k/\k<g.os.length){T:Nat}(hT:Lg (g.os.map Bp) T)(RP:T+17*l.length<=700000000):
  SW .Lp BW 49 [.G5 g.gp 0,.agg (fl sc),.HC (l.map Ao)] s λr s'=>r=.tuple []/\∃g',MU s g s' g'/\g'.os.map Bp=Zu sc (g.os.map Bp) l:=by
 refine(AOY (.Im .Lp) _ _ _ ?_).sw hf;obtain⟨s1,L9⟩:∃s1,s1=s.new (.box (fl sc)):=⟨_,rfl⟩
 have Nm:Ha s1:=by rw[L9];exact IW hf
 have Mv:∀b,b<s.next->s1.heap b=s.heap b:=λb hb=>by rw[L9,Av rfl AA]
 have TM:RS s1 g:=hg.Ir λb hb=>Mv b (hg.lt hf hb);unfold g49;refine Gu Ae6 ?_;rw[<- L9];exact⟨_,nV OS hl RF l.length 0 AA AA Nm TM jG (bx:=s.next) AdC (λh=>by have:=hg.lt hf h;omega) hT RP λs' g' h1 h2=>⟨rfl,g',h1.MZ hf hg AdD Mv,h2⟩⟩
end
section
open Go.Proofs
def nmR(sc:XW)(JC:LI)(e:Hh)(on:LLI)(n:BA):LLI:=NT (fA sc (NC sc n).toNat on (O9 e)) (NC sc n).toNat JC
def itR(sc:XW)(JC:LI)(on:LLI)(l:List Item):LLI:=l.foldl (λon x=>x.G6.foldl (nmR sc JC x.e) on) on
def wP{sc:XW}{JC:LI}{e:Hh}{on:LLI}{n:BA}{T:Nat}(h:Lg on T):Lg (nmR sc JC e on n) (T+((O9 e).length+JC.length)):=by unfold nmR;rw[<- Dw];exact Pv (T5 h)
def cO{sc:XW}{JC:LI}{e:Hh}:∀{l:List BA} {on:LLI} {T:Nat},Lg on T->Lg (l.foldl (nmR sc JC e) on) (T+l.length*((O9 e).length+JC.length))
 |[],_,_,h=>h.mono AA
 |n::l,on,T,h=>by
  have:=cO (sc:=sc) (JC:=JC) (e:=e) (l:=l) (wP (sc:=sc) (JC:=JC) (e:=e) (n:=n) h);exact this.mono (by simp[CW];omega)
def wC{sc:XW}{JC:LI}:∀{l:List Item} {on:LLI} {T:Nat},Lg on T->Lg (itR sc JC on l) (T+oe JC l)
 |[],_,_,h=>h
 |x::l,on,T,h=>by
  have:=wC (sc:=sc) (JC:=JC) (l:=l) (cO (sc:=sc) (JC:=JC) (e:=x.e) (l:=x.G6) h);exact this.mono (by simp only[oe];omega)
structure WH (s:St) (g:L4) (b:Nat) (cs:List PV):Prop where
 HI:s.heap b=some (.box cs)
 It:b∉g.It
def WH.ZI{s s':St}{g g':L4}{b:Nat}{cs:LP}(h:WH s g b cs)(hf:Ha s)(k:MU s g s' g'):WH s' g' b cs:=
 ⟨(k.HI h.It (HT hf h.HI)).trans h.HI,λhm=>by
  rcases k.It hm with h1|h1
  .exact h.It h1
  .have:=HT hf h.HI;omega⟩
def WH.AUb{s s':St}{g:L4}{b:Nat}{cs:LP}(h:WH s g b cs)(hf:Ha s)(hk:∀b,b<s.next->s'.heap b=s.heap b):WH s' g b cs:=⟨(hk b (HT hf h.HI)).trans h.HI,h.It⟩
def WH.new{s s':St}{g:L4}{b:Nat}{cs:LP}(hf:Ha s)(hg:RS s g)(hb:s.next<=b)(h:s'.heap b=some (.box cs)):WH s' g b cs:=⟨h,λhm=>by have:=hg.lt hf hm;omega⟩
attribute [local irreducible] iA sI sH
def AD0{sc:XW}(OS:sc.length<=100000){bx ib:Nat}{x:Item}(tx:(O9 x.e).length<=100000){mv:PV}{JC:LI}(me:mv.G1=some (Ku JC)){s:St}(hf:Ha s){g:L4}(hg:RS s g)(hx:WH s g bx (fl sc))(hi:WH s g ib x.Gy)(KH:x.G0=[]){j:Nat}{n:BA}(hj:x.G6[j]?=some n)(WB:x.G6.length<=100000){k:Nat}(jG:NC sc n=k)(hk:k<g.os.length){T:Nat}(hT:Lg (g.os.map Bp) T)(RP:T+((O9 x.e).length+JC.length)<=800000000){rc:Nat}
  {Q:F1}{w3:PV->PV->PV->PV->F1}{AVF:PV->PV->PV->PV->PV->PV->PV->F1}{iv iiv:PV}
  (hW:∀s' g',MU s g s' g'->g'.os.map Bp=nmR sc JC x.e (g.os.map Bp) n->AVF (.G5 g.gp 0) iv mv (.G5 bx 0) iiv (.G5 ib 0) (.H6 rc ((O9 x.e).map Gv)) (I (j+1:Nat)) s'):
  et (.Im .Lp) Q w3 AVF (.G5 g.gp 0) iv mv (.G5 bx 0) iiv (.G5 ib 0) (.H6 rc ((O9 x.e).map Gv)) (I j) s:=by
 have hjn:j<x.G6.length:=(Bn.1 hj).1;have hnr:x.Gy[0]?=some (.HC (x.G6.map Gv)):=by rw[Item.JP];rfl
 have jD:x.Gy[10]?=some (.HC []):=by rw[Item.JP,Hh.JP,KH];rfl
 have hib:=hi.HI;have hbx:=hx.HI;unfold et;refine Gu JD ?_;refine Gu (G2 hib hnr) ?_;refine Gu Aem ?_;rw[BX];refine Gu Adf ?_;refine OJ JD ?_;refine OJ (G2 hib jD) ?_;refine OJ AeU ?_;refine OJ AeG ?_;refine Gu Uw ?_;refine ct ?_;refine HA (Ii hbx rfl) ?_;refine HA JD ?_;refine HA (G2 hib hnr) ?_;refine HA Aer ?_;refine HA (IM rfl) ?_;refine tN (na sc OS n) (qy sc n) rfl rfl rfl ?_;simp only[Ni,Lu];refine HA Jb ?_;rw[jG];refine⟨?_,?_⟩
 .simp[Ih,I6,Jv,It]
 refine Gu (Ii hbx rfl) ?_;obtain⟨s1,g1,a1,a2,a3⟩:=wm (E:=.Lp) OS tx hf hg hk hT AA;refine UT ((a1.sw (Q:=λr s'=>r=.tuple []/\s'=s1) ⟨rfl,rfl⟩).Im (.cons (Q9 _) (.cons (Q9 _) (.cons (Q9 _) (.cons (fg rfl) (.refl [])))))) λv s' _ _ hq=>?_;obtain⟨rfl,vj⟩:=hq;rw[vj];have Nm:=a2.Lq;have TM:=a2.gs;have Mv:k<g1.os.length:=by rw[a2.len];exact hk
 obtain⟨p,hp⟩:∃p,g1.os[k]?=some p:=⟨_,BZ Mv⟩
 obtain⟨b,hb,dX⟩:=TM.WJ Mv
 have au:p.2.length<=T+(O9 x.e).length:=by
  have:Lg (g1.os.map Bp) (T+(O9 x.e).length):=by rw[a3];exact T5 hT
  exact this _ (B8.2 ⟨p,Bt hp,rfl⟩)
 obtain⟨y,s2,s3,g3,b1,b2,b3,b4,b5,b6⟩:=qO Nm TM hp (x:=mv) me AA hb;have hgp:s1.heap g.gp=some (.box g1.box):=by rw[<- a2.gp];exact TM.box
 refine HA Kg ?_;refine HA JD ?_;refine HA (G2 hgp rfl) ?_;refine HA Kg ?_;refine HA JD ?_;refine HA (G2 hgp rfl) ?_;rw[hb];refine HA (LA AA (by simpa using Mv)) ?_;refine HA Ad8 ?_;refine HA b1 ?_;refine HA (LA AA (by simpa using Mv)) ?_;refine HA b3 ?_;refine⟨?_,?_⟩
 .have Yv:∀d,p.1=some d->d≠g.gp:=λd hd=>by
   have:=TM.Hm p (Bt hp);unfold LK at this;rw[hd]at this;exact Ip this hgp AD
  have sT:=HT Nm hgp;simp[Ih,I6,Jv,It];exact⟨⟨λ_=>⟨λh=>Yv _ h rfl,λh=>by omega⟩,KU AF,KU AF⟩,KU AF,KU AF,by kernel_rfl,KU AF⟩
 refine Gu Adc ?_;refine Gu Jb ?_;refine hW s3 g3 (a2.trans b4) ?_;rw[b5,a3];unfold nmR;rw[jG];rfl
def wq{sc:XW}(OS:sc.length<=100000){bx ib:Nat}{x:Item}(tx:(O9 x.e).length<=100000){mv:PV}{JC:LI}(me:mv.G1=some (Ku JC))(KH:x.G0=[])(WB:x.G6.length<=100000){rc:Nat}{Q:F1}{w3:PV->PV->PV->PV->F1}{iv iiv:PV}:∀(m j:Nat),x.G6.length-j=m->j<=x.G6.length->
  ∀{s:St} (hf:Ha s) {g:L4} (hg:RS s g) (hx:WH s g bx (fl sc)) (hi:WH s g ib x.Gy) (jG:∀n,n∈x.G6->∃k:Nat,NC sc n=k/\k<g.os.length) {T:Nat} (hT:Lg (g.os.map Bp) T) (RP:T+m*((O9 x.e).length+JC.length)<=800000000)
   (hW:∀s' g',MU s g s' g'->g'.os.map Bp=(x.G6.drop j).foldl (nmR sc JC x.e) (g.os.map Bp)->iA (.Im .Lp) Q w3 (.G5 g.gp 0) iv mv (.G5 bx 0) iiv (.G5 ib 0) s'),
  aM (.Im .Lp) Q w3 (m+1) (.G5 g.gp 0) iv mv (.G5 bx 0) iiv (.G5 ib 0) (.H6 rc ((O9 x.e).map Gv)) (I j) s
 |0,j,hm,hj,s,hf,g,hg,hx,hi,jG,T,hT,RP,hW=>by
  rw[CT AA]at hW;have hnr:x.Gy[0]?=some (.HC (x.G6.map Gv)):=by rw[Item.JP];rfl
  have hib:=hi.HI;unfold aM et;refine Gu JD ?_;refine Gu (G2 hib hnr) ?_;refine Gu Aem ?_;rw[BX];refine Gu Ade ?_;refine iC ?_;refine iC ?_;refine iC ?_;refine iC ?_;refine Gu TP ?_;exact AiO
 |m+1,j,hm,hj,s,hf,g,hg,hx,hi,jG,T,hT,RP,hW=>by
  have H5:j<x.G6.length:=AA;rw[Bx H5]at hW;obtain⟨k,Mv,Jr⟩:=jG _ (Bl H5);have hT3:T+((O9 x.e).length+JC.length)+m*((O9 x.e).length+JC.length)<=800000000:=by rw[CW]at RP;omega
  unfold aM;refine AD0 OS tx me hf hg hx hi KH (BZ H5) WB Mv Jr hT AA λs1 g1 h1 h2=>?_;rw[<- h1.gp];refine wq OS tx me KH WB m (j+1) AA H5 h1.Lq h1.gs (hx.ZI hf h1) (hi.ZI hf h1) (λn hn=>by rw[h1.len];exact jG n hn) (T:=T+((O9 x.e).length+JC.length)) (by rw[h2];exact wP hT) hT3 λs2 g2 k1 k2=>?_;rw[h1.gp];exact hW s2 g2 (h1.trans k1) (by rw[k2,h2];rfl)
end
section
open Go.Proofs
def ALN{bx ib:Nat}{x:Item}(KH:x.G0=[]){mv:PV}{JC:LI}(me:mv.G1=some (Ku JC))(hml:JC.length<=1000000){i:Nat}(O4:i<=100000){s:St}(hf:Ha s){g:L4}(hg:RS s g)(hi:WH s g ib x.Gy){Q:F1}{w3:PV->PV->PV->PV->F1}{iv:PV}
  (hW:∀s',RS s' g->(∀b,b<s.next->s'.heap b=s.heap b)->IL s s'->Ha s'->w3 (.G5 g.gp 0) iv mv (.G5 bx 0) (I (i+1:Nat)) s'):
  iA (.Im .Lp) Q w3 (.G5 g.gp 0) iv mv (.G5 bx 0) (I i) (.G5 ib 0) s:=by
 have jD:x.Gy[10]?=some (.HC []):=by rw[Item.JP,Hh.JP,KH];rfl
 obtain⟨o',s1,a1,a2,a3,a4,a5,a6⟩:=Zj hf (o:=none) (l:=[]) (by rfl) me AB
 have Xb:o'=s.next:=by
  rcases a4 with⟨h,_⟩|⟨_,h1,_⟩
  .cases h
  .exact h1
 have Mv:∀b,b<s.next->s1.heap b=s.heap b:=λb hb=>a3 b AA;have hib:s1.heap ib=some (.box x.Gy):=(Mv ib (HT hf hi.HI)).trans hi.HI;unfold iA;refine Gu a1 ?_;refine Gu RW ?_;refine⟨1,?_⟩;unfold Rm vK;refine Gu JD ?_;refine Gu (G2 hib jD) ?_;refine Gu AeU ?_;refine Gu AeY ?_;refine cf ?_;unfold sI;refine⟨1,?_⟩;unfold sK ABH;refine Gu JD ?_;refine Gu (G2 hib jD) ?_;refine Gu AeU ?_;refine Gu AeY ?_;refine cf ?_;unfold sH;refine Gu Adc ?_;refine Gu Jb ?_;exact hW s1 (hg.Ir λb hb=>Mv b (hg.lt hf hb)) Mv a6 a5
def ADQ(x:Item):Yk 9 x.Gy (0+1)=some (.agg x.e.Gy):=wD x
def wo{sc:XW}(OS:sc.length<=100000){bx:Nat}{mv:PV}{JC:LI}(me:mv.G1=some (Ku JC))(hml:JC.length<=1000000){l:List Item}(hl:l.length<=100000)(hw:∀x,x∈l->x.WF)(Pe:As l<=20000)(WA:∀x,x∈l->x.G0=[]){Q:F1}:∀(m i:Nat),l.length-i=m->i<=l.length->
  ∀{s:St} (hf:Ha s) {g:L4} (hg:RS s g) (hx:WH s g bx (fl sc)) (jG:∀x,x∈l->∀n,n∈x.G6->∃k:Nat,NC sc n=k/\k<g.os.length) {T:Nat} (hT:Lg (g.os.map Bp) T) (RP:T+oe JC (l.drop i)<=800000000)
   (hW:∀s' g',MU s g s' g'->g'.os.map Bp=itR sc JC (g.os.map Bp) (l.drop i)->Q (.tuple []) s'),
  OQ (.Im .Lp) Q (m+1) (.G5 g.gp 0) (.HC (l.map Aq)) mv (.G5 bx 0) (I i) s
 |0,i,hm,hi,s,hf,g,hg,hx,jG,T,hT,RP,hW=>by
  rw[CT AA]at hW;unfold OQ yl;refine Gu Aeu ?_;rw[BX];exact Agq
 |m+1,i,hm,hi,s,hf,g,hg,hx,jG,T,hT,RP,hW=>by
  have H5:i<l.length:=AA;rw[Bx H5]at hW RP;obtain⟨x,uA⟩:∃x,x=l[i]:=⟨_,rfl⟩
  rw[<- uA]at hW RP;have iG:l[i]?=some x:=by rw[uA];exact BZ H5
  have hxm:=Bt iG;have KH:=WA x hxm;have hwx:=hw x hxm;have hwe:x.e.WF/\x.G6.length<=100000:=by cases hwx with|mk _ _ _ _ h1 h2 _ _=>exact⟨h2,h1⟩
  have hxw:x.e.wt<=20000:=by
   have h1:=PJ (l:=l) (q:=i) H5;have h2:=Item.Io (l.take i) (l.drop i);rw[CP]at h2;rw[<- uA]at h1;obtain⟨a,b,c,d⟩:=x;simp only[BE]at h1;simp only[Item.e];omega
  have tx:=nW x.e;simp only[oe]at RP;obtain⟨s1,L9⟩:∃s1,s1=(s.new (.box [.nil,(I 0),(I 0),(.HK ⟨#[]⟩),(I 0),(I 0),(I 0),(I 0),.nil,(I 0),.nil,(I 0)])).set s.next (.box x.Gy):=⟨_,rfl⟩
  have Mv:∀b,b<s.next->s1.heap b=s.heap b:=λb hb=>by rw[L9,Ar AA,Av rfl AA]
  have Yz:s1.next=s.next+1:=by rw[L9];rfl
  have Nm:Ha s1:=by rw[L9];exact JH (IW hf) AI
  have hG1:IL s s1:=by rw[L9];exact I9.trans (JO AI)
  have hi1:s1.heap s.next=some (.box x.Gy):=by rw[L9];exact Ay
  obtain⟨s2,K9⟩:∃s2,s2=s1.new (.Hm ((O9 x.e).map Gv).length 1):=⟨_,rfl⟩
  have OK:Ha s2:=by rw[K9];exact IW Nm
  have Jr:∀b,b<s.next->s2.heap b=s.heap b:=λb hb=>by rw[K9,Av rfl AA];exact Mv b hb
  have sP:IL s s2:=by rw[K9];exact hG1.trans I9
  have O4:s2.heap s.next=some (.box x.Gy):=by rw[K9,Av rfl AA];exact hi1
  have T7:RS s2 g:=hg.Ir λb hb=>Jr b (hg.lt hf hb);unfold OQ yl;refine Gu Aeu ?_;rw[BX];refine Gu Adf ?_;refine ct ?_;refine Gu AeJ ?_;refine Gu (Jo x.HJ) ?_;refine Gu (bW rfl) ?_;refine Gu (LY (A3 rfl) x.HJ AdQ rfl) ?_;rw[<- L9];refine Gu JD ?_;refine Gu (Ph hi1 (ADQ x)) ?_;refine wY (AHV hwe.1 hxw) VN rfl rfl rfl ?_;simp only[LZ,Lu];rw[<- K9];refine Gu RW ?_;refine⟨_,wq OS AA me KH hwe.2 x.G6.length 0 AA AA OK T7 (hx.AUb hf Jr) (.new hf hg (Bd _) O4) (jG x hxm) hT AA λs3 g3 b1 b2=>?_⟩;have AWp:MU s g s3 g3:=b1.MZ hf hg sP Jr;have hi3:WH s3 g3 s.next x.Gy:=(WH.new hf hg (Bd _) O4:WH s2 g s.next x.Gy).ZI OK b1;rw[<- b1.gp];refine ALN KH me hml (i:=i) AA b1.Lq b1.gs hi3 λs4 c1 c2 c3 c4=>?_;have AWq:MU s3 g3 s4 g3:=(MU.refl c4 c1).MZ b1.Lq b1.gs c3 c2;have AOu:=AWp.trans AWq;refine wo OS me hml hl hw Pe WA m (i+1) AA H5 c4 c1 (hx.ZI hf AOu) (λy hy n hn=>by rw[AOu.len];exact jG y hy n hn) (T:=T+x.G6.length*((O9 x.e).length+JC.length)) (by rw[b2,Cv];exact cO hT) AA λs5 g5 d1 d2=>hW s5 g5 (AOu.trans d1) (by rw[d2,b2,Cv];rfl)
def ADy{sc:XW}(OS:sc.length<=100000){mv:PV}{JC:LI}(me:mv.G1=some (Ku JC))(hml:JC.length<=1000000){l:List Item}(hl:l.length<=100000)(hw:∀x,x∈l->x.WF)(Pe:As l<=20000)(WA:∀x,x∈l->x.G0=[]){s:St}(hf:Ha s){g:L4}(hg:RS s g)(jG:∀x,x∈l->∀n,n∈x.G6->∃k:Nat,NC sc n=k/\k<g.os.length){T:Nat}(hT:Lg (g.os.map Bp) T)(RP:T+oe JC l<=800000000):
  SW .Lp BW 50 [.G5 g.gp 0,.HC (l.map Aq),.agg (fl sc),mv] s λr s'=>r=.tuple []/\∃g',MU s g s' g'/\g'.os.map Bp=itR sc JC (g.os.map Bp) l:=by
 refine(AOZ (.Im .Lp) _ _ _ _ ?_).sw hf;obtain⟨s1,L9⟩:∃s1,s1=s.new (.box (fl sc)):=⟨_,rfl⟩
 have Nm:Ha s1:=by rw[L9];exact IW hf
 have Mv:∀b,b<s.next->s1.heap b=s.heap b:=λb hb=>by rw[L9,Av rfl AA]
 have TM:RS s1 g:=hg.Ir λb hb=>Mv b (hg.lt hf hb);unfold g50;refine Gu Ae6 ?_;rw[<- L9];exact⟨_,wo OS me hml hl hw Pe WA l.length 0 AA AA Nm TM (.new hf hg (Bd _) AdC) jG hT RP λs' g' h1 h2=>⟨rfl,g',h1.MZ hf hg AdD Mv,h2⟩⟩
end
section
open Go.Proofs
def AEv{s:St}(hf:Ha s){o:ON}{l xs:List BA}(ho:jX s (o,l)){x:PV}(hx:x.G1=some (xs.map Gv))(hn:l.length+xs.length<=1000000000):
  ∃o' s',I0 (IT 1 16 (QH (o,l)) x) s (QH (some o',l++xs)) s' [] o.toList/\s'.heap o'=some (.Hm (l++xs).length 1)/\(∀b,b≠o'->s'.heap b=s.heap b)/\((o=some o'/\s'.next=s.next)\/(o=none/\o'=s.next/\s'.next=s.next+1))/\Ha s'/\IL s s':=by
 have Jg:∀l:List BA,(l.map Gv).all (λr=>Bo r.length 1)=true:=λl=>by
  exact Ah8
 have II:∀l:List BA,(l.map Gv).length=l.length:=λl=>BX _;cases o with
 |none=>
  have hl:l=[]:=ho;subst hl;refine⟨s.next,s.new (.Hm xs.length 1),?_,by rw[BN];simp,λb hb=>Av rfl hb,.inr ⟨rfl,rfl,rfl⟩,IW hf,I9⟩;have h:=Nd (bytes:=16) (size:=1) (s:=s) hx (Jg xs) (by rw[II];exact Jd Ab1 AS) rfl;rw[II]at h;exact h
 |some c=>
  have hc:s.heap c=some (.Hm l.length 1):=ho;refine⟨c,s.set c (.Hm (l++xs).length 1),?_,Ay,λb hb=>Ar hb,.inl ⟨rfl,rfl⟩,JH hf Ab3,JO Ab3⟩;have h:=KG (bytes:=16) (size:=1) (s:=s) (b:=c) (G1:=l.map Gv) (e':=1) hx (Jg xs) (by rw[II,II];exact Jd hn AS) (Jg l) (by rw[II];exact hc) (.inr rfl);rw[II,II]at h;show I0 (IT 1 16 (.H6 c (l.map Gv)) x) s (.H6 c ((l++xs).map Gv)) _ _ _;rw[Br,Bf];exact h
structure dj (s:St) (g:L4) (s':St) (g':L4):Prop where
 gs:RS s' g'
 gp:g'.gp=g.gp
 It:∀b,b∈g'.It->b∈g.It\/s.next<=b
 Ir:∀b,b∉g.It->b<s.next->s'.heap b=s.heap b
 Ki:IL s s'
 Lq:Ha s'
def dj.trans{s1 s2 s3:St}{g1 g2 g3:L4}(h:dj s1 g1 s2 g2)(k:dj s2 g2 s3 g3):dj s1 g1 s3 g3:=
 have hn:=h.Ki.next
 ⟨k.gs,k.gp.trans h.gp,λb hb=>by
  rcases k.It b hb with h1|h1
  .exact h.It b h1
  .exact .inr AA,λb h1 h2=>by
  rw[k.Ir b (λhm=>by
   rcases h.It b hm with h3|h3
   .exact h1 h3
   .omega) AA]
  exact h.Ir b h1 h2,h.Ki.trans k.Ki,k.Lq⟩
def MU.ey{s s':St}{g g':L4}(h:MU s g s' g'):dj s g s' g':=⟨h.gs,h.gp,λb hb=>h.It hb,λb hb hl=>h.HI hb hl,h.Ki,h.Lq⟩
def RS.nL{s:St}{g:L4}(h:RS s g):g.It.Nodup:=by
 obtain⟨n1,n2,n3⟩:=B3.1 h.nd;obtain⟨m1,m2,m3⟩:=B3.1 n2
 have ho:∀d,d∈g.nb.toList++(g.ba.toList++g.Hm)->∃n,s.heap d=some (.Hm n 1):=λd hd=>by
  have hi:d∈g.It:=by
   simp only[L4.It,Bz,Bg]at hd⊢;rcases hd with h|h|h
   .exact .inr (.inl h)
   .exact .inr (.inr (.inr (.inl h)))
   .exact .inr (.inr (.inr (.inr h)))
  simp only[Bg,Dr,L4.Hm,B6]at hd;rcases hd with hd|hd|⟨p,hp,hd⟩
  .have:=h.nm;unfold jX at this;simp only[hd]at this;exact⟨_,this⟩
  .have:=h.KO;unfold LK at this;simp only[hd]at this;exact⟨_,this⟩
  .have:=h.Hm p hp;unfold LK at this;rw[hd]at this;exact⟨_,this⟩
 have dX:∀d,d∈g.bo.toList->s.heap d=some (.LM 1 (g.os.map IV)):=λd hd=>by
  have:=h.on;unfold Ti at this;rw[Dr.1 hd]at this;exact this
 refine CY.2 ⟨λhm=>?_,B3.2 ⟨n1,B3.2 ⟨?_,n2,λa ha b hb=>?_⟩,λa ha b hb=>?_⟩⟩
 .simp only[Bg]at hm;rcases hm with hm|hm|hm
  .obtain⟨n,hn⟩:=ho g.gp (by simp only[Bg];exact .inl hm);rw[h.box]at hn;cases hn
  .have:=dX _ hm;rw[h.box]at this;cases this
  .obtain⟨n,hn⟩:=ho g.gp (by simp only[Bg];exact .inr hm);rw[h.box]at hn;cases hn
 .cases g.bo<;>simp
 .rintro rfl;obtain⟨n,hn⟩:=ho a (Bg.2 (.inr hb));rw[dX a ha]at hn;cases hn
 .rintro rfl;rcases Bg.1 hb with hb|hb
  .obtain⟨n,hn⟩:=ho a (Bg.2 (.inl ha));rw[dX a hb]at hn;cases hn
  .exact n3 a ha a hb rfl
def ALO{s:St}(hf:Ha s){g:L4}(hg:RS s g)(n:BA)(hn:g.G6.length<=100000):
  ∃y s1 s2 c,I0 (IT 1 16 (QH (g.nb,g.G6)) (.HC [[.HK n]])) s y s1 [] g.nb.toList/\y.Iu=true/\I0 (HQ 1 y (.G5 g.gp 0)) s1 .undef s2 [] [g.gp]/\dj s g s2 {g with nb:=some c,G6:=g.G6++[n]}/\s.next<=s1.next:=by
 obtain⟨c,s1,a1,a2,a3,a4,a5,a6⟩:=AEv hf hg.nm (x:=.HC [[.HK n]]) (xs:=[n]) rfl AB;have L6:=hg.nL
 have MT:∀d,d∈g.It->g.nb≠some d->d≠c:=λd hd h1=>by
  exact AiJ
 have key:∀d,d∈g.gp::(g.bo.toList++(g.ba.toList++g.Hm))->d∈g.It/\g.nb≠some d:=λd hd=>by
  unfold L4.It at L6⊢;obtain⟨h1,h2⟩:=CY.1 L6;rcases Bz.1 hd with rfl|hd
  .exact⟨C8,λh=>h1 (Bg.2 (.inl Al))⟩
  .exact⟨Co _ (Bg.2 (.inr hd)),λh=>(B3.1 h2).2.2 d Al d hd rfl⟩
 have hgp:=MT _ (key g.gp C8).1 (key g.gp C8).2;have MR:s1.heap g.gp=some (.box [QH (g.nb,g.G6),IV (g.ba,g.KO),oM g.bo g.os.length]):=(a3 _ hgp).trans hg.box;obtain⟨s2,K9⟩:∃s2,s2=s1.set g.gp (.box [QH (some c,g.G6++[n]),IV (g.ba,g.KO),oM g.bo g.os.length]):=⟨_,rfl⟩
 have hk:∀d,d≠c->d≠g.gp->s2.heap d=s.heap d:=λd h1 h2=>by rw[K9,Ar h2,a3 d h1]
 have Jr:∀d,d∈g.bo.toList++(g.ba.toList++g.Hm)->s2.heap d=s.heap d:=λd hd=>by
  obtain⟨h1,h2⟩:=key d (Co _ hd);refine hk d (MT d h1 h2) ?_;rintro rfl;unfold L4.It at L6;exact(CY.1 L6).1 (Bg.2 (.inr hd))
 have AFx:c∈g.It\/s.next<=c:=by
  exact Akx
 refine⟨_,s1,s2,c,a1,eX,?_,⟨⟨?_,?_,hg.KO.Ir λd hd=>Jr d ?_,hg.on.Ir λd hd=>Jr d ?_,λp hp=>(hg.Hm p hp).Ir λd hd=>Jr d ?_,?_⟩,rfl,λb hb=>?_,λb h1 h2=>hk b ?_ ?_,?_,?_⟩,a6.next⟩
 .rw[K9];exact Nf MR eX rfl rfl
 .rw[K9];exact Ay
 .exact AkO
 .have hd:g.ba=some d:=hd;simp[hd]
 .simp[hd]
 .exact Aju
 .show([c]++(g.ba.toList++g.Hm)).Nodup;refine B3.2 ⟨AD,(B3.1 hg.nd).2.1,λa ha b hb=>?_⟩;simp at ha;subst ha;obtain⟨h1,h2⟩:=key b (Co _ (Bg.2 (.inr hb)));exact(MT b h1 h2).symm
 .have hb:b∈g.gp::([c]++(g.bo.toList++(g.ba.toList++g.Hm))):=hb;simp only[Bz,Bg,DY,or_false]at hb;rcases hb with rfl|rfl|hb
  .exact .inl Abk
  .exact AFx
  .exact .inl (key b (Co _ (by simpa only[Bg]using hb))).1
 .exact Ajj
 .rintro rfl;exact h1 Abk
 .exact Ajz
 .rw[K9];exact JH a5 AP
def AUy{s:St}(hf:Ha s){g:L4}(hg:RS s g)(a:Int)(hn:g.KO.length<=100000):
  ∃y s1 s2 c,I0 (IT 1 8 (IV (g.ba,g.KO)) (.HC [[I a]])) s y s1 [] g.ba.toList/\y.Iu=true/\I0 (HQ 1 y (.G5 g.gp 1)) s1 .undef s2 [] [g.gp]/\dj s g s2 {g with ba:=some c,KO:=g.KO++[a]}/\s.next<=s1.next:=by
 obtain⟨c,s1,a1,a2,a3,a4,a5,a6⟩:=Zj hf hg.KO (x:=.HC [[I a]]) (xs:=[a]) rfl AB;have L6:=hg.nL
 have MT:∀d,d∈g.It->g.ba≠some d->d≠c:=λd hd h1=>by
  exact AiJ
 have key:∀d,d∈g.gp::(g.nb.toList++(g.bo.toList++g.Hm))->d∈g.It/\g.ba≠some d:=λd hd=>by
  unfold L4.It at L6⊢;obtain⟨h1,h2⟩:=CY.1 L6;obtain⟨_,h3,h4⟩:=B3.1 h2;obtain⟨_,h5,h6⟩:=B3.1 h3;obtain⟨_,_,h7⟩:=B3.1 h5;simp only[Bz,Bg]at hd⊢;rcases hd with rfl|hd|hd|hd
  .exact⟨.inl rfl,λh=>h1 Al⟩
  .exact AkZ
  .exact⟨.inr (.inr (.inl hd)),λh=>h6 d hd d Al rfl⟩
  .exact⟨.inr (.inr (.inr (.inr hd))),λh=>h7 d Al d hd rfl⟩
 have hgp:=MT _ (key g.gp C8).1 (key g.gp C8).2;have MR:s1.heap g.gp=some (.box [QH (g.nb,g.G6),IV (g.ba,g.KO),oM g.bo g.os.length]):=(a3 _ hgp).trans hg.box;obtain⟨s2,K9⟩:∃s2,s2=s1.set g.gp (.box [QH (g.nb,g.G6),IV (some c,g.KO++[a]),oM g.bo g.os.length]):=⟨_,rfl⟩
 have hk:∀d,d≠c->d≠g.gp->s2.heap d=s.heap d:=λd h1 h2=>by rw[K9,Ar h2,a3 d h1]
 have Jr:∀d,d∈g.nb.toList++(g.bo.toList++g.Hm)->s2.heap d=s.heap d:=λd hd=>by
  obtain⟨h1,h2⟩:=key d (Co _ hd);refine hk d (MT d h1 h2) ?_;rintro rfl;unfold L4.It at L6;refine(CY.1 L6).1 ?_;simp only[Bg]at hd⊢;rcases hd with h|h|h
  .exact .inl h
  .exact .inr (.inl h)
  .exact AkS
 have AFx:c∈g.It\/s.next<=c:=by
  exact Akx
 refine⟨_,s1,s2,c,a1,M6,?_,⟨⟨?_,hg.nm.Ir λd hd=>Jr d ?_,?_,hg.on.Ir λd hd=>Jr d ?_,λp hp=>(hg.Hm p hp).Ir λd hd=>Jr d ?_,?_⟩,rfl,λb hb=>?_,λb h1 h2=>hk b ?_ ?_,?_,?_⟩,a6.next⟩
 .rw[K9];exact Nf MR M6 rfl rfl
 .rw[K9];exact Ay
 .have hd:g.nb=some d:=hd;simp[hd]
 .exact AkO
 .simp[hd]
 .exact Aju
 .show(g.nb.toList++([c]++g.Hm)).Nodup;obtain⟨n1,n2,n3⟩:=B3.1 hg.nd;refine B3.2 ⟨n1,B3.2 ⟨AD,(B3.1 n2).2.1,λx hx b hb=>?_⟩,λx hx b hb=>?_⟩
  .simp at hx;subst hx;obtain⟨h1,h2⟩:=key b AY;exact(MT b h1 h2).symm
  .rcases Bg.1 hb with h|h
   .simp at h;subst h;obtain⟨h1,h2⟩:=key x (by simp only[Bz,Bg];exact .inr (.inl hx));exact MT x h1 h2
   .exact n3 x hx b (Bg.2 (.inr h))
 .have hb:b∈g.gp::(g.nb.toList++(g.bo.toList++([c]++g.Hm))):=hb;simp only[Bz,Bg,DY,or_false]at hb;rcases hb with rfl|hb|hb|rfl|hb
  .exact .inl Abk
  .exact .inl (key b AcE).1
  .exact .inl (key b Abx).1
  .exact AFx
  .exact .inl (key b AY).1
 .exact Ajj
 .rintro rfl;exact h1 Abk
 .exact Ajz
 .rw[K9];exact JH a5 AP
def AUz{s:St}(hf:Ha s){g:L4}(hg:RS s g)(hn:g.os.length<=100000):
  ∃y s1 s2 c,I0 (Jk 1 24 (oM g.bo g.os.length) (.HC [[.nil]])) s y s1 [] g.bo.toList/\y.Iu=true/\I0 (HQ 1 y (.G5 g.gp 2)) s1 .undef s2 [] [g.gp]/\dj s g s2 {g with bo:=some c,os:=g.os++[(none,[])]}:=by
 obtain⟨s1,a1,a2,a3,a4,a5,a6⟩:=AEw hf hg.on hn;have L6:=hg.nL;have hgl:=hg.lt hf (b:=g.gp) Abk;have MT:∀d,d∈g.It->d≠s.next:=λd hd=>by have:=hg.lt hf hd;omega
 have key:∀d,d∈g.gp::(g.nb.toList++(g.ba.toList++g.Hm))->d∈g.It/\g.bo≠some d:=λd hd=>by
  unfold L4.It at L6⊢;obtain⟨h1,h2⟩:=CY.1 L6;obtain⟨_,h3,h4⟩:=B3.1 h2;obtain⟨_,h5,h6⟩:=B3.1 h3;simp only[Bz,Bg]at hd⊢;rcases hd with rfl|hd|hd|hd
  .exact⟨.inl rfl,λh=>h1 Al⟩
  .exact AkZ
  .exact⟨.inr (.inr (.inr (.inl hd))),λh=>h6 d Al d (Bg.2 (.inl hd)) rfl⟩
  .exact⟨.inr (.inr (.inr (.inr hd))),λh=>h6 d Al d (Bg.2 (.inr hd)) rfl⟩
 have MR:s1.heap g.gp=some (.box [QH (g.nb,g.G6),IV (g.ba,g.KO),oM g.bo g.os.length]):=(a3 _ AA (key g.gp C8).2).trans hg.box;obtain⟨s2,K9⟩:∃s2,s2=s1.set g.gp (.box [QH (g.nb,g.G6),IV (g.ba,g.KO),.LQ s.next (g.os.length+1)]):=⟨_,rfl⟩
 have Jr:∀d,d∈g.nb.toList++(g.ba.toList++g.Hm)->s2.heap d=s.heap d:=λd hd=>by
  obtain⟨h1,h2⟩:=key d (Co _ hd);rw[K9,Ar λhe=>?_,a3 d (MT d h1) h2];subst he;unfold L4.It at L6;refine(CY.1 L6).1 ?_;simp only[Bg]at hd⊢;rcases hd with h|h|h
  .exact .inl h
  .exact .inr (.inr (.inl h))
  .exact AkS
 have hbn:s2.heap s.next=some (.LM 1 ((g.os++[(none,[])]).map IV)):=by rw[K9,Ar AA];exact a2
 have hfm:(g.os++[(none,[])]).filterMap CO=g.Hm:=by simp[L4.Hm]
 refine⟨_,s1,s2,s.next,a1,rfl,?_,⟨⟨?_,hg.nm.Ir λd hd=>Jr d ?_,hg.KO.Ir λd hd=>Jr d ?_,hbn,λp hp=>?_,?_⟩,rfl,λb hb=>?_,λb h1 h2=>?_,?_,?_⟩⟩
 .rw[K9];exact Nf MR rfl rfl rfl
 .show s2.heap g.gp=some (.box [QH (g.nb,g.G6),IV (g.ba,g.KO),.LQ s.next (g.os++[(none,[])]).length]);rw[K9,Ay,Bf];rfl
 .have hd:g.nb=some d:=hd;simp[hd]
 .have hd:g.ba=some d:=hd;simp[hd]
 .rcases Bg.1 hp with hp|hp
  .exact(hg.Hm p hp).Ir λd hd=>Jr d (by simp only[L4.Hm,Bg,B6];exact .inr (.inr ⟨p,hp,hd⟩))
  .simp at hp;subst hp;rfl
 .show(g.nb.toList++(g.ba.toList++(g.os++[(none,[])]).filterMap CO)).Nodup;rw[hfm];exact hg.nd
 .have hb:b∈g.gp::(g.nb.toList++([s.next]++(g.ba.toList++(g.os++[(none,[])]).filterMap CO))):=hb;rw[hfm]at hb;simp only[Bz,Bg,DY,or_false]at hb;rcases hb with rfl|hb|rfl|hb|hb
  .exact .inl Abk
  .exact .inl (key b AcE).1
  .exact .inr (Bd _)
  .exact .inl (key b Abx).1
  .exact .inl (key b AY).1
 .rw[K9,Ar (by rintro rfl;exact h1 Abk),a3 b AA (λh=>h1 Acl)]
 .exact Ajz
 .rw[K9];exact JH a5 AP
end
section
open Go.Proofs
structure TS (s:St) (g:L4) (tb o1 o2:Nat) (sc:XW):Prop where
 box:s.heap tb=some (.box [.H6 o1 ((sc.map CO).map Gv),.H6 o2 (Ku (sc.map Bp))])
 nm:s.heap o1=some (.Hm sc.length 1)
 is:s.heap o2=some (.Hm sc.length 1)
 ne:o1≠o2
 It:tb∉g.It/\o1∉g.It/\o2∉g.It
def TS.ey{s s':St}{g g':L4}{tb o1 o2:Nat}{sc:XW}(h:TS s g tb o1 o2 sc)(hf:Ha s)(k:dj s g s' g'):TS s' g' tb o1 o2 sc:=by
 have h1:=HT hf h.box;have h2:=HT hf h.nm;have h3:=HT hf h.is
 have ZB:∀b,b∉g.It->b<s.next->b∉g'.It:=λb hb hl hm=>by
  rcases k.It b hm with h|h
  .exact hb h
  .omega
 exact⟨(k.Ir tb h.It.1 h1).trans h.box,(k.Ir o1 h.It.2.1 h2).trans h.nm,(k.Ir o2 h.It.2.2 h3).trans h.is,h.ne,ZB _ h.It.1 h1,ZB _ h.It.2.1 h2,ZB _ h.It.2.2 h3⟩
def Vy(sc:XW)(k:Nat):List HM->XW
 |[]=>sc
 |v::r=>Vy (sc++[(v.name,(k:Int))]) (k+1) r
def qT:∀{l:List HM} {sc:XW} {k:Nat},(Vy sc k l).length=sc.length+l.length
 |[],_,_=>rfl
 |v::r,sc,k=>by simp only[Vy,qT,Bf,CG,List.length_nil];omega
def nM(l:List BA):(l.map Gv).all (λr=>Bo r.length 1)=true:=Ah8
def AAA{s:St}(hf:Ha s){g:L4}(hg:RS s g)(hn:g.G6.length<=100000)(ha:g.KO.length=g.G6.length)(ho:g.os.length=g.G6.length){tb o1 o2:Nat}{sc:XW}(hT:TS s g tb o1 o2 sc)(OS:sc.length<=100000){l:List HM}(hl:l.length<=100000){i:Nat}{v:HM}(hv:l[i]?=some v):
  ∃s' g',RS s' g'/\g'.gp=g.gp/\g'.G6=g.G6++[v.name]/\g'.KO=g.KO++[v.HI]/\g'.os=g.os++[(none,[])]/\(∀b,b∈g'.It->b∈g.It\/s.next<=b)/\TS s' g' tb o1 o2 (sc++[(v.name,(g.G6.length:Int))])/\(∀b,b∉g.It->b≠tb->b≠o1->b≠o2->b<s.next->s'.heap b=s.heap b)/\IL s s'/\Ha s'/\
   ∀{Q:F1} {W:PV->PV->PV->PV->F1} {rb:PV},W (.G5 g.gp 0) (.HC (l.map Ao)) rb (.G5 tb 0) (I (i+1:Nat)) s'->j7 (.Im .Lp) Q W (.G5 g.gp 0) (.HC (l.map Ao)) rb (.G5 tb 0) (I i) s:=by
 have SX:=(Bn.1 hv).1;have htl:=HT hf hT.box;have h1l:=HT hf hT.nm;have h2l:=HT hf hT.is;have APd:tb≠o1:=Ip hT.box hT.nm AD;have APe:tb≠o2:=Ip hT.box hT.is AD;have hgl:=HT hf hg.box;have y4:g.gp≠tb:=by rintro h;exact hT.It.1 Acl
 have Pz:((sc.map CO).map Gv).length=sc.length:=AD;have tx:(Ku (sc.map Bp)).length=sc.length:=by simp[Ku]
 obtain⟨k,hk⟩:∃k:Int,k=(g.G6.length:Int):=⟨_,rfl⟩
 obtain⟨sa,hsa⟩:∃sa,sa=s.set o1 (.Hm (((sc.map CO).map Gv).length+[[PV.HK v.name]].length) 1):=⟨_,rfl⟩
 have hka:∀b,b≠o1->sa.heap b=s.heap b:=λb hb=>by rw[hsa,Ar hb]
 have hna:sa.next=s.next:=by rw[hsa];rfl
 have hfa:Ha sa:=by rw[hsa];exact JH hf (by rw[hT.nm];simp)
 have hta:=(hka tb APd).trans hT.box;obtain⟨sb,mj⟩:∃sb,sb=sa.set tb (.box [.H6 o1 ((sc.map CO).map Gv++[[PV.HK v.name]]),.H6 o2 (Ku (sc.map Bp))]):=⟨_,rfl⟩
 have hkb:∀b,b≠o1->b≠tb->sb.heap b=s.heap b:=λb h1 h2=>by rw[mj,Ar h2,hka b h1]
 have hnb:sb.next=s.next:=by rw[mj];exact hna
 have hfb:Ha sb:=by rw[mj];exact JH hfa (by rw[hta];simp)
 have htb:sb.heap tb=some (.box [.H6 o1 ((sc.map CO).map Gv++[[PV.HK v.name]]),.H6 o2 (Ku (sc.map Bp))]):=by rw[mj];exact Ay
 have h2b:sb.heap o2=some (.Hm sc.length 1):=(hkb o2 hT.ne.symm APe.symm).trans hT.is;have oK:sb.heap g.gp=some (.box g.box):=(hkb g.gp (by rintro h;exact hT.It.2.1 (by simp[L4.It,<- h])) y4).trans hg.box;obtain⟨sc1,zD⟩:∃sc1,sc1=sb.set o2 (.Hm ((Ku (sc.map Bp)).length+[[PVI k]].length) 1):=⟨_,rfl⟩
 have AXZ:sc1.next=s.next:=by rw[zD];exact hnb
 have AW6:Ha sc1:=by rw[zD];exact JH hfb (by rw[h2b];simp)
 have AUI:sc1.heap tb=some (.box [.H6 o1 ((sc.map CO).map Gv++[[PV.HK v.name]]),.H6 o2 (Ku (sc.map Bp))]):=by rw[zD,Ar APe];exact htb
 obtain⟨sd,hsd⟩:∃sd,sd=sc1.set tb (.box [.H6 o1 ((sc.map CO).map Gv++[[PV.HK v.name]]),.H6 o2 (Ku (sc.map Bp)++[[PVI k]])]):=⟨_,rfl⟩
 have L6:sd.next=s.next:=by rw[hsd];exact AXZ
 have hfd:Ha sd:=by rw[hsd];exact JH AW6 (by rw[AUI];simp)
 have y7:∀b,b≠o1->b≠tb->b≠o2->sd.heap b=s.heap b:=λb h1 h2 h3=>by rw[hsd,Ar h2,zD,Ar h3,hkb b h1 h2]
 have hgd:RS sd g:=hg.Ir λb hb=>y7 b (by rintro rfl;exact hT.It.2.1 hb) (by rintro rfl;exact hT.It.1 hb) (by rintro rfl;exact hT.It.2.2 hb)
 have hTd:TS sd g tb o1 o2 (sc++[(v.name,k)]):=by
  refine⟨?_,?_,?_,hT.ne,hT.It⟩
  .rw[hsd,Ay];simp[Ku,Gv]
  .rw[hsd,Ar APd.symm,zD,Ar hT.ne,mj,Ar APd.symm,hsa,Ay,Pz];simp
  .rw[hsd,Ar APe.symm,zD,Ay,tx];simp
 have hGd:IL s sd:=⟨AA,λb _ hh=>by
  rw[y7 b (by rintro rfl;rw[hT.nm]at hh;cases hh) (by rintro rfl;rw[hT.box]at hh;cases hh) (by rintro rfl;rw[hT.is]at hh;cases hh)];exact hh⟩
 obtain⟨y1,e1,e2,c1,p1,p2,p3,p4,p5⟩:=ALO hfd hgd v.name hn;obtain⟨g1,TM⟩:∃g1:L4,g1={g with nb:=some c1,G6:=g.G6++[v.name]}:=⟨_,rfl⟩
 rw[<- TM]at p4;obtain⟨y2,e3,e4,c2,q1,q2,q3,q4,q5⟩:=AUy p4.Lq p4.gs v.HI (by rw[TM];show g.KO.length<=_;omega);obtain⟨g2,T7⟩:∃g2:L4,g2={g1 with ba:=some c2,KO:=g1.KO++[v.HI]}:=⟨_,rfl⟩
 rw[<- T7]at q4;obtain⟨y3,e5,e6,c3,r1,r2,r3,r4⟩:=AUz q4.Lq q4.gs (by rw[T7,TM];show g.os.length<=_;omega);obtain⟨g3,xV⟩:∃g3:L4,g3={g2 with bo:=some c3,os:=g2.os++[(none,[])]}:=⟨_,rfl⟩
 rw[<- xV]at r4;have hG:=p4.trans (q4.trans r4);have Yv:g1.gp=g.gp:=by rw[TM]
 have AKC:g2.gp=g.gp:=by rw[T7];exact Yv
 have MK:e2.heap g.gp=some (.box g1.box):=by rw[<- Yv];exact p4.gs.box
 have pV:e4.heap g.gp=some (.box g2.box):=by rw[<- AKC];exact q4.gs.box
 rw[Yv]at q3;rw[AKC]at r3;refine⟨e6,g3,hG.gs,hG.gp,by rw[xV,T7,TM],by rw[xV,T7,TM],by rw[xV,T7,TM],λb hb=>?_,by rw[<- hk];exact hTd.ey hfd hG,λb h1 h2 h3 h4 h5=>?_,hGd.trans hG.Ki,hG.Lq,λ{Q W rb} hW=>?_⟩
 .rcases hG.It b hb with h|h
  .exact .inl h
  .exact AiM
 .rw[hG.Ir b h1 AA,y7 b h3 h2 h4]
 .unfold j7;refine Gu Ad4 ?_;rw[BX];refine Gu Adf ?_;refine ct ?_;refine HA JD ?_;refine HA (G2 hT.box rfl) ?_;refine HA Adm ?_;refine HA ZQ ?_;refine HA AeZ ?_;refine HA Aec ?_;refine HA (KG (xs:=[[PV.HK v.name]]) rfl rfl (Jd (by simp only[Pz,CZ];omega) AA) (nM _) (by rw[Pz];exact hT.nm) (.inr rfl)) ?_;rw[<- hsa];refine HA JD ?_;refine HA (Nf (NL:=[.H6 o1 ((sc.map CO).map Gv++[[PV.HK v.name]]),.H6 o2 (Ku (sc.map Bp))]) hta rfl rfl rfl) ?_;rw[<- mj];refine⟨?_,?_⟩
  .simp[Ih,I6,Jv,It]
   (repeat' apply And.intro)<;>first|exact KU AF|kernel_rfl
  refine HA JD ?_;refine HA (G2 htb rfl) ?_;refine HA Kg ?_;refine HA JD ?_;refine HA (G2 oK rfl) ?_;refine HA (Iy (RM hg.nm)) ?_;rw[BX,<- hk];refine HA (ZP (G1:=[[I k]]) rfl) ?_;refine HA (KG (xs:=[[PVI k]]) rfl rfl (Jd (by simp only[tx,CZ];omega) AA) Vx (by rw[tx];exact h2b) (.inr rfl)) ?_;rw[<- zD];refine HA JD ?_;refine HA (Nf (NL:=[.H6 o1 ((sc.map CO).map Gv++[[PV.HK v.name]]),.H6 o2 (Ku (sc.map Bp)++[[PVI k]])]) AUI rfl rfl rfl) ?_;rw[<- hsd];refine⟨?_,?_⟩
  .simp[Ih,I6,Jv,It]
   (repeat' apply And.intro)<;>first|exact KU AF|kernel_rfl
  refine HA Kg ?_;refine HA JD ?_;refine HA (G2 hgd.box rfl) ?_;refine HA Adm ?_;refine HA ZQ ?_;refine HA AeZ ?_;refine HA Aec ?_;refine HA p1 ?_;refine HA Kg ?_;refine HA JD ?_;refine HA p3 ?_;refine⟨?_,?_⟩
  .simp[Ih,I6,Jv,It]
   (repeat' apply And.intro)<;>first|exact KU AF|kernel_rfl
  refine HA Kg ?_;refine HA JD ?_;refine HA (G2 MK rfl) ?_;refine HA Adm ?_;refine HA ZQ ?_;refine HA (IM (v:=I v.HI) rfl) ?_;refine HA (ZP (G1:=[[I v.HI]]) rfl) ?_;refine HA q1 ?_;refine HA Kg ?_;refine HA JD ?_;refine HA q3 ?_;refine⟨?_,?_⟩
  .simp[Ih,I6,Jv,It]
   (repeat' apply And.intro)<;>first|exact KU AF|kernel_rfl
  refine Gu Kg ?_;refine Gu JD ?_;refine Gu (G2 pV rfl) ?_;refine Gu (zk (G1:=[[.nil]]) rfl) ?_;refine Gu r1 ?_;refine Gu Kg ?_;refine Gu JD ?_;refine Gu r3 ?_;refine Gu Adc ?_;refine Gu Jb ?_;exact hW
end
section
open Go.Proofs
structure ANG (s:St) (g:L4) (l:List HM) (s':St) (g':L4):Prop where
 gs:RS s' g'
 gp:g'.gp=g.gp
 G6:g'.G6=g.G6++l.map Ap
 KO:g'.KO=g.KO++l.map HM.HI
 os:g'.os=g.os++l.map λ_=>(none,[])
 It:∀b,b∈g'.It->b∈g.It\/s.next<=b
 Ki:IL s s'
 Lq:Ha s'
attribute [local irreducible] mP
def qN{tb o1 o2:Nat}{l:List HM}(hl:l.length<=50000){rb:PV}{Q:F1}:∀(m i:Nat),l.length-i=m->i<=l.length->
  ∀{s:St} (hf:Ha s) {g:L4} (hg:RS s g) (hn:g.G6.length+m<=100000) (ha:g.KO.length=g.G6.length) (ho:g.os.length=g.G6.length) {sc:XW} (hT:TS s g tb o1 o2 sc) (OS:sc.length+m<=100000)
   (hW:∀s' g',ANG s g (l.drop i) s' g'->TS s' g' tb o1 o2 (Vy sc g.G6.length (l.drop i))->(∀b,b∉g.It->b≠tb->b≠o1->b≠o2->b<s.next->s'.heap b=s.heap b)->mP (.Im .Lp) Q rb (.G5 tb 0) s'),
  hY (.Im .Lp) Q (m+1) (.G5 g.gp 0) (.HC (l.map Ao)) rb (.G5 tb 0) (I i) s
 |0,i,hm,hi,s,hf,g,hg,hn,ha,ho,sc,hT,OS,hW=>by
  rw[CT AA]at hW;unfold hY j7;refine Gu Ad4 ?_;rw[BX];refine Gu Ade ?_;refine cf ?_;exact hW s g ⟨hg,rfl,AD,AD,AD,λb hb=> .inl hb,.refl _,hf⟩ hT λ_ _ _ _ _ _=>rfl
 |m+1,i,hm,hi,s,hf,g,hg,hn,ha,ho,sc,hT,OS,hW=>by
  have H5:i<l.length:=AA;obtain⟨v,cZ⟩:∃v,v=l[i]:=⟨_,rfl⟩
  have hv:l[i]?=some v:=by rw[cZ];exact BZ H5
  rw[Bx H5,<- cZ]at hW;obtain⟨s1,g1,a1,a2,a3,a4,a5,a6,a7,a8,a9,uK,a11⟩:=AAA hf hg AA ha ho hT AA (l:=l) AA hv;have hnx:=a9.next;unfold hY;refine a11 ?_;rw[<- a2];refine qN hl m (i+1) AA H5 uK a1 (by rw[a3];simp;omega) (by rw[a4,a3];simp[ha]) (by rw[a5,a3];simp[ho]) a7 AB λs2 g2 b1 b2 b3=>hW s2 g2 ⟨b1.gs,b1.gp.trans a2,?_,?_,?_,λb hb=>?_,a9.trans b1.Ki,b1.Lq⟩ ?_ λb h1 h2 h3 h4 h5=>?_
  .rw[b1.G6,a3];simp
  .rw[b1.KO,a4];simp
  .rw[b1.os,a5];simp
  .rcases b1.It b hb with h|h
   .exact a6 b h
   .exact AiM
  .have Yz:g1.G6.length=g.G6.length+1:=by rw[a3];simp
   rw[Yz]at b2;exact b2
  .rw[b3 b (λh=>by
    rcases a6 b h with h|h
    .exact h1 h
    .omega) h2 h3 h4 AA,a8 b h1 h2 h3 h4 h5]
def ALG{s:St}(hf:Ha s){g:L4}(hg:RS s g){sc:XW}{l:List HM}(hl:l.length<=50000)(hn:g.G6.length<=50000)(ha:g.KO.length=g.G6.length)(ho:g.os.length=g.G6.length)(OS:sc.length<=50000):
  SW .Lp BW 48 [.G5 g.gp 0,.agg (fl sc),.HC (l.map Ao)] s λr s'=>∃o1 o2 g',r=.agg [.H6 o1 (((Vy sc g.G6.length l).map CO).map Gv),.H6 o2 (Ku ((Vy sc g.G6.length l).map Bp))]/\ANG s g l s' g'/\∀b,b∉g.It->b<s.next->s'.heap b=s.heap b:=by
 refine(AOX (.Im .Lp) _ _ _ ?_).sw hf;have Pz:((sc.map CO).map Gv).length=sc.length:=AD;have tx:(Ku (sc.map Bp)).length=sc.length:=by simp[Ku]
 obtain⟨s1,L9⟩:∃s1,s1=(s.new (.box (fl sc))).new (.box [.nil,.nil]):=⟨_,rfl⟩
 have Yz:s1.next=s.next+2:=by rw[L9];rfl
 have Nm:Ha s1:=by rw[L9];exact IW (IW hf)
 have hx1:s1.heap s.next=some (.box (fl sc)):=by rw[L9,Av (n:=s.next+1) rfl AA];exact A3 rfl
 have VJ:s1.heap (s.next+1)=some (.box [.nil,.nil]):=by rw[L9];exact A3 rfl
 have Mv:∀b,b<s.next->s1.heap b=s.heap b:=λb hb=>by rw[L9,Av (n:=s.next+1) rfl AA,Av rfl AA]
 obtain⟨s2,K9⟩:∃s2,s2=s1.new (.Hm ((sc.map CO).map Gv).length 1):=⟨_,rfl⟩
 have fE:s2.next=s.next+3:=by rw[K9];show s1.next+1=_;omega
 have hx2:s2.heap s.next=some (.box (fl sc)):=by rw[K9,Av rfl AA];exact hx1
 obtain⟨s3,UA⟩:∃s3,s3=s2.new (.Hm (Ku (sc.map Bp)).length 1):=⟨_,rfl⟩
 have hn3:s3.next=s.next+4:=by rw[UA];show s2.next+1=_;omega
 obtain⟨s4,bQ⟩:∃s4,s4=s3.new (.box [.nil,.nil]):=⟨_,rfl⟩
 have pV:s4.heap (s.next+4)=some (.box [.nil,.nil]):=by rw[bQ];exact A3 hn3
 have hn4:s4.next=s.next+5:=by rw[bQ];show s3.next+1=_;omega
 obtain⟨s5,hs5⟩:∃s5,s5=s4.set (s.next+4) (.box [.H6 (s.next+2) ((sc.map CO).map Gv),.H6 (s.next+3) (Ku (sc.map Bp))]):=⟨_,rfl⟩
 have hf5:Ha s5:=by
  rw[hs5,bQ,UA,K9];refine JH (IW (IW (IW Nm))) ?_;rw[<- K9,<- UA,<- bQ,pV];simp
 have hn5:s5.next=s.next+5:=by rw[hs5,bQ];show s3.next+1=_;omega
 have AKG:∀b,b<s.next+4->s5.heap b=s3.heap b:=λb hb=>by rw[hs5,Ar AA,bQ,Av rfl AA]
 have hk5:∀b,b<s.next->s5.heap b=s.heap b:=λb hb=>by rw[AKG b AA,UA,Av rfl AA,K9,Av rfl AA,Mv b hb]
 have hr5:s5.heap (s.next+1)=some (.box [.nil,.nil]):=by rw[AKG _ AA,UA,Av rfl AA,K9,Av rfl AA];exact VJ
 have hg5:RS s5 g:=hg.Ir λb hb=>hk5 b (hg.lt hf hb);have ZB:∀b,s.next<=b->b∉g.It:=λb hb hm=>by have:=hg.lt hf hm;omega
 have hT5:TS s5 g (s.next+4) (s.next+2) (s.next+3) sc:=by
  refine⟨?_,?_,?_,AA,ZB _ AA,ZB _ AA,ZB _ AA⟩
  .rw[hs5];exact Ay
  .rw[AKG _ AA,UA,Av rfl AA,K9,A3 AA,Pz]
  .rw[AKG _ AA,UA,A3 AA,tx]
 have hG5:IL s s5:=by
  rw[hs5,bQ,UA,K9,L9];refine(I9.trans (I9.trans (I9.trans (I9.trans I9)))).trans (JO ?_);rw[<- L9,<- K9,<- UA,<- bQ,pV];simp
 unfold g48;refine Gu Ae6 ?_;refine Gu (bW (n:=s.next+1) rfl) ?_;rw[<- L9];refine HA JD ?_;refine HA (G2 hx1 rfl) ?_;refine HA (Nd (xs:=(sc.map CO).map Gv) rfl (nM _) (Jd (by rw[Pz];omega) AA) (n:=s.next+2) AA) ?_;rw[<- K9];refine HA JD ?_;refine HA (G2 hx2 rfl) ?_;refine HA (Nd (xs:=Ku (sc.map Bp)) rfl Vx (Jd (by rw[tx];omega) AA) (n:=s.next+3) AA) ?_;rw[<- UA];refine HA (kF (l:=[.H6 (s.next+2) ((sc.map CO).map Gv),.H6 (s.next+3) (Ku (sc.map Bp))]) rfl rfl) ?_;refine HA (bW (n:=s.next+4) AA) ?_;rw[<- bQ];refine HA (LY pV rfl rfl rfl) ?_;rw[<- hs5];refine⟨?_,?_⟩
 .simp[Ih,I6,Jv,It]
  (repeat' apply And.intro)<;>first|(intros;omega)|exact KU AF|kernel_rfl
 .refine⟨_,qN hl l.length 0 AA AA hf5 hg5 AA ha ho hT5 AA λs6 g6 b1 b2 b3=>?_⟩;rw[Cv]at b1 b2;have hr6:s6.heap (s.next+1)=some (.box [.nil,.nil]):=by rw[b3 _ (ZB _ AA) AA AA AA AA];exact hr5
  unfold mP;refine Gu (Ii b2.box rfl) ?_;refine Gu (LY hr6 rfl rfl rfl) ?_;refine Ls (Q:=λr s'=>∃o1 o2 g',r=.agg [.H6 o1 (((Vy sc g.G6.length l).map CO).map Gv),.H6 o2 (Ku ((Vy sc g.G6.length l).map Bp))]/\ANG s g l s' g'/\∀b,b∉g.It->b<s.next->s'.heap b=s.heap b) (JK (Hk (Ii Ay rfl))) ⟨_,_,g6,rfl,?_,λb h1 h2=>?_⟩
  .have hrb:s.next+1∉g6.It:=λhm=>by
    rcases b1.It _ hm with h|h
    .exact ZB _ AA h
    .omega
   refine⟨b1.gs.Ir λb hb=>?_,b1.gp,b1.G6,b1.KO,b1.os,λb hb=>?_,hG5.trans (b1.Ki.trans (JO (by rw[hr6];simp))),JH b1.Lq (by rw[hr6];simp)⟩
   .rw[Ar (by rintro rfl;exact hrb hb)]
   .rcases b1.It b hb with h|h
    .exact .inl h
    .exact AiM
  .rw[Ar AA,b3 b h1 AA AA AA AA,hk5 b h2]
end
section
open Go.Proofs
def wv:∀{l:List HM} {sc:XW} {k i:Nat},(Vy sc k l)[i]?=if i<sc.length then sc[i]? else(l[i-sc.length]?).map λv=>(v.name,((k+(i-sc.length):Nat):Int))
 |[],sc,k,i=>by
  simp only[Vy,List.getElem?_nil,Option.map_none];split
  .rfl
  .exact CA AA
 |v::r,sc,k,i=>by
  simp only[Vy];rw[wv,Bf,CZ];by_cases h1:i<sc.length
  .rw[Ps AA,Ps h1,B5 h1]
  .rw[Ng h1];by_cases h2:i=sc.length
   .subst h2;rw[Ps AA,CU (Bd _)];simp
   .rw[Ng AA];have:i-sc.length=(i-(sc.length+1))+1:=AA;rw[this,List.getElem?_cons_succ];congr 2;funext v;congr 2;omega
def rsc(l:List HM):XW:=Vy [] 0 l
def ACC{l:List HM}:(rsc l).length=l.length:=by rw[rsc,qT];simp
def AQa{l:List HM}{i:Nat}:(rsc l)[i]?=(l[i]?).map λv=>(v.name,(i:Int)):=by rw[rsc,wv];simp
def AB8{l:List HM}{n:BA}:∀{k:Nat},k<=l.length->(∃(j:Nat) (v:HM),j<k/\l[j]?=some v/\v.name=n/\rfd (rsc l) n k=j)\/(rfd (rsc l) n k= -1/\∀(j:Nat) (v:HM),j<k->l[j]?=some v->v.name≠n)
 |0,_=> .inr ⟨rfl,λ_ _ h=>Zq h (Nat.not_lt_zero _)⟩
 |k+1,hk=>by
  obtain⟨v,hv⟩:∃v,l[k]?=some v:=⟨_,BZ AA⟩
  have he:rfd (rsc l) n (k+1)=if v.name.toList==n.toList then(k:Int)else rfd (rsc l) n k:=by
   simp only[rfd,AQa,hv,Option.map_some]
  by_cases c:v.name=n
  .exact .inl ⟨k,v,AA,hv,c,by rw[he,c];simp⟩
  .have c':(v.name.toList==n.toList)=false:=by
    rw[beq_eq_false_iff_ne];exactλh=>c (toList_inj h)
   rw[he,c'];rcases AB8 (l:=l) (n:=n) (k:=k) AA with⟨j,u,h1,h2,h3,h4⟩|⟨h1,h2⟩
   .exact .inl ⟨j,u,AA,h2,h3,by simpa using h4⟩
   .refine .inr ⟨by simpa using h1,λj u hj hu=>?_⟩;by_cases cj:j=k
    .subst cj;rw[hv]at hu;cases hu;exact c
    .exact h2 j u AA hu
def qR{l:List HM}{n:BA}(h:n∈l.map Ap):∃(j:Nat) (v:HM),NC (rsc l) n=j/\j<l.length/\l[j]?=some v/\v.name=n:=by
 have e:NC (rsc l) n=rfd (rsc l) n l.length:=by rw[NC,ACC]
 rcases AB8 (l:=l) (n:=n) (Bd _)with⟨j,v,h1,h2,h3,h4⟩|⟨_,h2⟩
 .exact⟨j,v,by rw[e,h4],h1,h2,h3⟩
 .obtain⟨v,hv,rfl⟩:=B8.1 h;obtain⟨j,hj⟩:=Dm.1 hv;exact Zq rfl (h2 j v (Bn.1 hj).1 hj)
def mW{S:List BA}{w:BA}(h:Mf S w=true):w∈S:=by obtain⟨x,hx,he⟩:=SF.1 h;rw[<- toList_inj he];exact hx
def G8.sc(n:G8):XW:=rsc n.all
def G8.onR(n:G8):LLI:=itR n.sc [] (Zu n.sc (n.all.map λ_=>[]) n.Gx) n.HE
structure ALu (s:St) (n:G8) (r:PV) (s':St) (g:L4):Prop where
 res:r=.G5 g.gp 0
 gs:RS s' g
 G6:g.G6=n.all.map Ap
 on:g.os.map Bp=n.onR
 Ir:∀b,b<s.next->s'.heap b=s.heap b
 new:∀b,b∈g.It->s.next<=b
def AHY{n:G8}(hn:n.WF)(WA:∀x,x∈n.HE->x.G0=[])(Pe:n.wt<=20000)(sX:∀x,x∈n.HE->∀m,m∈x.G6->m∈n.all.map Ap){s:St}(hf:Ha s):
  SW .Lp BW 30 [.agg n.Gy] s λr s'=>∃g,ALu s n r s' g:=by
 refine(AOT (.Im .Lp) _ ?_).sw hf;unfold G8.wt at Pe;have Jg:n.all.length=n.Je.length+n.Ic.length+n.Gx.length:=by simp[BM];omega
 have hnr:n.Gy=[.HK n.name,.HC (n.Je.map Ao),.HC (n.Ic.map Ao),.HC (n.Gx.map Ao),.HC (n.HE.map Aq),I n.HI]:=n.ZV;have OS:n.sc.length<=100000:=by rw[G8.sc,ACC];omega
 have vT:∀m,m∈n.all.map Ap->∃k:Nat,NC n.sc m=k/\k<n.all.length:=λm hm=>by
  obtain⟨j,_,h1,h2,_,_⟩:=qR hm;exact⟨j,h1,h2⟩
 obtain⟨s1,L9⟩:∃s1,s1=(s.new (.box n.Gy)).new (.box [.nil,.nil,.nil]):=⟨_,rfl⟩
 have Yz:s1.next=s.next+2:=by rw[L9];rfl
 have Nm:Ha s1:=by rw[L9];exact IW (IW hf)
 have MR:s1.heap s.next=some (.box n.Gy):=by rw[L9,Av (n:=s.next+1) rfl AA];exact A3 rfl
 have Mv:∀b,b<s.next->s1.heap b=s.heap b:=λb hb=>by rw[L9,Av (n:=s.next+1) rfl AA,Av rfl AA]
 have TM:RS s1 {gp:=s.next+1,nb:=none,G6:=[],ba:=none,KO:=[],bo:=none,os:=[]}:=⟨by rw[L9];exact A3 rfl,rfl,rfl,rfl,λp hp=>by simp at hp,by simp[L4.Hm]⟩
 have hG1:IL s s1:=by rw[L9];exact I9.trans I9
 unfold g30;refine Gu (Ny (l:=n.Gy) (by rw[hnr];rfl) rfl) ?_;refine Gu (kF (l:=[.nil,.nil,.nil]) rfl rfl) ?_;refine Gu (Ny (n:=s.next+1) rfl rfl) ?_;rw[<- L9];refine Gu iT ?_;refine Gu (kF (l:=[.nil,.nil]) rfl rfl) ?_;refine Gu (Ii MR n.HJ) ?_;refine wY (xo n [] AB) (args:=[.agg n.oo,.HC ([].map Ao)]) (by rw[hnr];rfl) rfl rfl rfl ?_;rw[CL];simp only[Mk,Lu];refine UT ((ALG (sc:=[]) (l:=n.all) Nm TM AA AD rfl rfl AD).Im (.cons (Q9 _) (.cons (AH9 (.cons (fg rfl) (.cons (fg rfl) (.refl [])))) (.refl _)))) λv s2 T7 OK hq=>?_;obtain⟨o1,o2,g2,rfl,a1,a2⟩:=hq;have Jr:∀b,b<=s.next->s2.heap b=s1.heap b:=λb hb=>a2 b (by simp[L4.It,L4.Hm];omega) AA;have AX1:Vy [] ([]:List BA).length n.all=n.sc:=rfl;simp only[AX1]
 have O4:∀b,b∈g2.It->s.next<b:=λb hb=>by
  rcases a1.It b hb with h|h
  .simp[L4.It,L4.Hm]at h;omega
  .omega
 have MK:WH s2 g2 s.next n.Gy:=⟨(Jr _ (Bd _)).trans MR,λhm=>by have:=O4 _ hm;omega⟩
 have AT1:g2.os.length=n.all.length:=by rw[a1.os];simp
 have AXd:=T7.next;have AKC:g2.gp=s.next+1:=a1.gp;obtain⟨s3,UA⟩:∃s3,s3=(s2.new (.box [.nil,.nil])).set s2.next (.box [.H6 o1 ((n.sc.map CO).map Gv),.H6 o2 (Ku (n.sc.map Bp))]):=⟨_,rfl⟩
 have bP:∀b,b<s2.next->s3.heap b=s2.heap b:=λb hb=>by rw[UA,Ar AA,Av rfl AA]
 have aO:Ha s3:=by rw[UA];exact JH (IW OK) AI
 have hG3:IL s2 s3:=by rw[UA];exact I9.trans (JO AI)
 have hx3:s3.heap s2.next=some (.box [.H6 o1 ((n.sc.map CO).map Gv),.H6 o2 (Ku (n.sc.map Bp))]):=by rw[UA];exact Ay
 have hK3:MU s2 g2 s3 g2:=(MU.refl aO (a1.gs.Ir λb hb=>bP b (a1.gs.lt OK hb))).MZ OK a1.gs hG3 bP;have Xp:=MK.ZI OK hK3;rw[hnr]at Xp;have AWt:WH s3 g2 s2.next [.H6 o1 ((n.sc.map CO).map Gv),.H6 o2 (Ku (n.sc.map Bp))]:=⟨hx3,λhm=>by have:=a1.gs.lt OK hm;omega⟩
 have hwk:∀m v,VR m (.agg [.H6 o1 ((n.sc.map CO).map Gv),.H6 o2 (Ku (n.sc.map Bp))]) v->VR m (.agg (fl n.sc)) v:=AH9 (.cons (fg rfl) (.cons (fg rfl) (.refl [])));refine Gu (bW rfl) ?_;refine Gu (LY (A3 rfl) rfl rfl rfl) ?_;rw[<- UA];refine Gu (Ii hx3 rfl) ?_;refine Gu JD ?_;refine Gu (G2 Xp.HI (v:=.HC (n.Gx.map Ao)) rfl) ?_;have hlm:∀v,v∈n.Gx->v.name∈n.all.map Ap:=λv hv=>B8.2 ⟨v,by simp[BM,hv],rfl⟩;have ADG:g2.os.map Bp=n.all.map λ_=>[]:=by rw[a1.os];simp
 have RP:Lg (g2.os.map Bp) 0:=by rw[ADG];intro l hl;obtain⟨_,_,rfl⟩:=B8.1 hl;simp
 rw[<- AKC];refine UT ((AAB OS (l:=n.Gx) AA (λv hv=>(hn.Gx.all v hv).HH) aO hK3.gs (λv hv=>by rw[AT1];exact vT _ (hlm v hv)) RP AA).Im (.cons (Q9 _) (.cons hwk (.refl _)))) λv s4 hg4 hf4 hq=>?_;obtain⟨rfl,g4,b1,b2⟩:=hq;have pV:=Xp.ZI aO b1;have AWu:=AWt.ZI aO b1;refine Gu JD ?_;refine Gu (G2 pV.HI (v:=.HC (n.HE.map Aq)) rfl) ?_;refine Gu (Ii AWu.HI rfl) ?_;have hT4:Lg (g4.os.map Bp) (0+17*n.Gx.length):=by rw[b2];exact Wl (λv hv=>(hn.Gx.all v hv).HH) RP
 have SX:oe [] n.HE<=400000000:=by
  exact Ahs
 rw[<- b1.gp];refine UT ((ADy OS (mv:=.nil) (JC:=[]) rfl AD hn.len hn.HE AA WA b1.Lq b1.gs (λx hx m hm=>by rw[b1.len,AT1];exact vT m (sX x hx m hm)) hT4 AA).Im (.cons (Q9 _) (.cons (Q9 _) (.cons hwk (.refl _))))) λv s5 hg5 hf5 hq=>?_;obtain⟨rfl,g5,c1,c2⟩:=hq;refine Gu iT ?_;refine Ls (Q:=λr s'=>∃g,ALu s n r s' g) rfl ⟨g5,by rw[c1.gp];rfl,c1.gs,?_,?_,λb hb=>?_,λb hb=>?_⟩
 .rw[c1.G6,b1.G6,a1.G6];simp
 .rw[c2,b2,ADG];rfl
 .have hk:=(hK3.trans (b1.trans c1)).HI (b:=b) (λhm=>by have:=O4 b hm;omega) AA;rw[hk,Jr b AA,Mv b hb]
 .rcases(hK3.trans (b1.trans c1)).It hb with h|h
  .have:=O4 b h;omega
  .omega
end
section
theorem dg.AZF{t:List BA}(h:dg t):∀{i j:Nat} {a:BA},t[i]?=some a->t[j]?=some a->i=j:=by
 have key:∀{i j:Nat} {a:BA},i<j->t[i]?=some a->t[j]?=some a->False:=by
  intro i j a sS hi hj;obtain⟨WB,hja⟩:=Bn.1 hj;have:=h j WB;rw[hja,ABR]at this
  .cases this
  .exact Dm.2 ⟨i,by rw[Ek sS];exact hi⟩
 intro i j a hi hj;rcases Nat.lt_trichotomy i j with h|h|h
 .exact(key h hi hj).elim
 .exact h
 .exact(key h hj hi).elim
theorem AB2:∀{l:List HM} {M:ML} {k:Nat} {n:BA} {i:Int},Ko (.s n) (Q6 M k l)=some i->Ko (.s n) M=some i\/∃(j:Nat) (v:HM),l[j]?=some v/\v.name=n/\i=((k+j:Nat):Int)
 |[],M,k,n,i,h=> .inl h
 |v::l,M,k,n,i,h=>by
  rw[Q6]at h;rcases AB2 h with h1|⟨j,u,h1,h2,h3⟩
  .rw[Vp]at h1;split at h1
   .rename_i he;simp only[Ba]at h1;exact .inr ⟨0,v,rfl,he.symm,AA⟩
   .exact AiL
  .exact .inr ⟨j+1,u,by simpa using h1,h2,AA⟩
section
variable{n:G8} (hd:dg n.vars)
include hd
theorem ACP{j:Nat}{v:HM}(h:n.all[j]?=some v):n.vars[j]?=some v.name:=by unfold G8.vars;rw[CH,h];rfl
theorem ABi{m:BA}(hm:m∈n.vars):∃j:Nat,NC n.sc m=j/\j<n.all.length/\(n.Je.length<=j->Ko (.s m) n.map=some ((j-n.Je.length:Nat):Int))/\(j<n.Je.length->Ko (.s m) n.map=none):=by
 obtain⟨j,v,h1,h2,h3,h4⟩:=qR (l:=n.all) hm;have Jg:n.all=n.Je++n.Hm:=by simp[BM,BV]
 refine⟨j,h1,h2,λhj=>?_,λhj=>?_⟩
 .have ho:n.Hm[j-n.Je.length]?=some v:=by
   rw[Jg,CU hj]at h3;exact h3
  obtain⟨j',_,_,k3⟩:=fT (l:=n.Hm) (M:=[]) (k:=0) (Bt ho);rw[h4]at k3;rcases AB2 k3 with h|⟨i,u,e1,e2,e3⟩
  .cases h
  .have hi:n.all[n.Je.length+i]?=some u:=by rw[Jg,CU AA];simpa using e1
   have hu:=ACP hd hi;have hv:=ACP hd h3;rw[e2]at hu;rw[h4]at hv;have:=hd.AZF hu hv;show Ko (.s m) (Q6 [] 0 n.Hm)=_;rw[k3,e3];congr 1;omega
 .refine XJ (M:=[]) (k:=0) λu hu he=>?_
  have hv:v∈n.Je:=by
   rw[Jg,B5 hj]at h3;exact Bt h3
  exact G8.hd hd v hv u hu (by rw[he,h4])
end
structure Nw (n:G8) (P R:List (List Int)):Prop where
 lp:P.length=n.Hm.length
 lr:R.length=n.all.length
 is:∀u,u<n.Hm.length->∀x:Int,0<=x->(x∈P.getD u []<->x+n.Je.length∈R.getD (u+n.Je.length) [])
 rng:∀u w,w∈R.getD u []->0<=w/\w<n.all.length
theorem Tm{on:LLI}{v u:Nat}{xs:LI}:(NT on v xs).getD u []=if u=v/\v<on.length then on.getD u []++xs else on.getD u []:=by
 unfold NT;rw[Bq,DQ];by_cases h:v=u
 .subst h;by_cases hl:v<on.length
  .simp[hl]
  .rw[Ps rfl,Ng hl,Ng (by simp[hl]),Bq,CA AA]
 .rw[Ng h,Ng λe=>h e.1.symm,Bq]
section
variable{n:G8} {P R:LLI} (hd:dg n.vars)
include hd
theorem qs:n.all.length=n.Je.length+n.Hm.length:=by simp[BM,BV]
theorem Nw.step(h:Nw n P R){v:Nat}(hv:v<n.Hm.length){m:BA}(hm:m∈n.vars):Nw n (NT P v (pX (Rq m [(0,0,n.map)]))) (NT R (v+n.Je.length) [NC n.sc m]):=by
 obtain⟨j,h1,h2,h3,h4⟩:=ABi hd hm;have hao:=qs hd;refine⟨by rw[TX];exact h.lp,by rw[TX];exact h.lr,λu hu x hx=>?_,λu w hw=>?_⟩
 .rw[Tm,Tm];by_cases c:u=v
  .subst c;rw[Ps ⟨rfl,by rw[h.lp];exact hu⟩,Ps ⟨rfl,by rw[h.lr];omega⟩,Bg,Bg,h.is u hu x hx,h1]
   have key:x∈pX (Rq m [(0,0,n.map)])<->x+(n.Je.length:Int)∈[(j:Int)]:=by
    unfold pX;rw[CS];by_cases hj:n.Je.length<=j
    .have e1:Rq m [(0,0,n.map)]=((j-n.Je.length:Nat):Int):=by simp only[Rq,h3 hj]
     rw[e1,Ps AA,CS];omega
    .have e1:Rq m [(0,0,n.map)]= -1:=by simp only[Rq,h4 AA]
     rw[e1,Ng AA];simp;omega
   rw[key]
  .rw[Ng λe=>c e.1,Ng (λe=>c AA)];exact h.is u hu x hx
 .exact Agk
theorem Nw.skip(h:Nw n P R){v:Nat}(hv:v<n.Je.length){m:BA}(hm:m∈n.vars):Nw n P (NT R v [NC n.sc m]):=by
 obtain⟨j,h1,h2,_,_⟩:=ABi hd hm;refine⟨h.lp,by rw[TX];exact h.lr,λu hu x hx=>?_,λu w hw=>?_⟩
 .rw[Tm,Ng (λe=>by omega)];exact h.is u hu x hx
 .exact Agk
theorem Nw.ATE{v:Nat}(hv:v<n.Hm.length):∀{ns:List BA} {P R:LLI},Nw n P R->(∀m,m∈ns->m∈n.vars)->Nw n (Wv [(0,0,n.map)] v P ns) (fA n.sc (v+n.Je.length) R ns)
 |[],_,_,h,_=>h
 |m::ns,_,_,h,hm=>Nw.ATE hv (ns:=ns) (h.step hd hv (hm m AD)) λk hk=>hm k Acx
theorem Nw.vO{v:Nat}(hv:v<n.Je.length):∀{ns:List BA} {P R:LLI},Nw n P R->(∀m,m∈ns->m∈n.vars)->Nw n P (fA n.sc v R ns)
 |[],_,_,h,_=>h
 |m::ns,_,_,h,hm=>Nw.vO hv (ns:=ns) (h.skip hd hv (hm m AD)) λk hk=>hm k Acx
theorem Nw.clk{v:Nat}(hv:v<n.Hm.length):∀{l:List Edge} {P R:LLI},Nw n P R->(∀e,e∈l->e.name∈n.vars)->Nw n (iy [(0,0,n.map)] v P l) (AFF n.sc (v+n.Je.length) R l)
 |[],_,_,h,_=>h
 |e::l,_,_,h,hm=>Nw.clk hv (l:=l) (h.step hd hv (hm e AD)) λk hk=>hm k Acx
theorem AQS{v:HM}(hv:v∈n.Hm):∃k:Nat,k<n.Hm.length/\NC n.sc v.name=((k+n.Je.length:Nat):Int)/\Ko (.s v.name) n.map=some (k:Int):=by
 have Jg:n.all=n.Je++n.Hm:=by simp[BM,BV]
 have hao:=qs hd;have hm:v.name∈n.vars:=B8.2 ⟨v,by rw[Jg];simp[hv],rfl⟩;obtain⟨j,h1,h2,h3,h4⟩:=ABi hd hm
 have hj:n.Je.length<=j:=Nat.le_of_not_lt λH5=>by
  obtain⟨k,_,_,k3⟩:=fT (l:=n.Hm) (M:=[]) (k:=0) hv;have:=h4 H5;unfold G8.map at this;rw[k3]at this;cases this
 exact⟨j-n.Je.length,AA,by rw[h1];congr 1;omega,h3 hj⟩
theorem Nw.AFG:∀{l:List HM} {P R:LLI},Nw n P R->(∀v,v∈l->v∈n.Hm/\∀e,e∈v.HH->e.name∈n.vars)->Nw n (Sh [(0,0,n.map)] n.map P l) (Zu n.sc R l)
 |[],_,_,h,_=>h
 |v::l,P,R,h,hm=>by
  obtain⟨k,k1,k2,k3⟩:=AQS hd (hm v AD).1;refine Nw.AFG (l:=l) (P:=iy [(0,0,n.map)] (vq n.map v.name) P v.HH) (R:=AFF n.sc (NC n.sc v.name).toNat R v.HH) ?_ λu hu=>hm u AdT;have e1:vq n.map v.name=k:=by unfold vq;rw[k3];simp
  have e2:(NC n.sc v.name).toNat=k+n.Je.length:=by rw[k2,Ce]
  rw[e1,e2];exact h.clk hd k1 (hm v AD).2
theorem Nw.nm{e:Hh}(he:∀m,m∈O9 e->m∈n.vars){m:BA}(hm:m∈n.vars)(h:Nw n P R):Nw n (XL [(0,0,n.map)] [] e P m) (nmR n.sc [] e R m):=by
 obtain⟨j,h1,h2,h3,h4⟩:=ABi hd hm;have hao:=qs hd;have e2:(NC n.sc m).toNat=j:=by rw[h1];simp
 unfold XL nmR;rw[fw,fw,e2];by_cases hj:n.Je.length<=j
 .have e1:Rq m [(0,0,n.map)]=((j-n.Je.length:Nat):Int):=by simp only[Rq,h3 hj]
  rw[e1,Ng AA,Ce];have:=h.ATE hd (v:=j-n.Je.length) AA he;rwa [show j-n.Je.length+n.Je.length=j by omega]at this
 .have e1:Rq m [(0,0,n.map)]= -1:=by simp only[Rq,h4 AA]
  rw[e1,Ps AA];exact h.vO hd AA he
theorem Nw.nms{e:Hh}(he:∀m,m∈O9 e->m∈n.vars):∀{l:List BA} {P R:LLI},Nw n P R->(∀m,m∈l->m∈n.vars)->Nw n (l.foldl (XL [(0,0,n.map)] [] e) P) (l.foldl (nmR n.sc [] e) R)
 |[],_,_,h,_=>h
 |m::l,_,_,h,hm=>Nw.nms he (l:=l) (h.nm hd he (hm m AD)) λk hk=>hm k Acx
theorem Nw.its:∀{l:List Item} {P R:LLI},Nw n P R->(∀x,x∈l->(∀m,m∈x.G6->m∈n.vars)/\∀m,m∈O9 x.e->m∈n.vars)->Nw n (zO [(0,0,n.map)] [] P l) (itR n.sc [] R l)
 |[],_,_,h,_=>h
 |x::l,P,R,h,hm=>Nw.its (l:=l) (P:=x.G6.foldl (XL [(0,0,n.map)] [] x.e) P) (R:=x.G6.foldl (nmR n.sc [] x.e) R) (h.nms hd (hm x AD).2 (hm x AD).1) λk hk=>hm k Acx
end
theorem AV9{n:G8}(hd:dg n.vars)(hi:∀x,x∈n.HE->(∀m,m∈x.G6->m∈n.vars)/\∀m,m∈O9 x.e->m∈n.vars)(hc:∀v,v∈n.Gx->∀e,e∈v.HH->e.name∈n.vars):Nw n n.qE n.onR:=by
 refine Nw.its hd (Nw.AFG hd ⟨AD,AD,λu hu x hx=>?_,λu w hw=>?_⟩ λv hv=>⟨by simp[BV,hv],hc v hv⟩) hi
 .have e:∀(l:List HM) (k:Nat),(l.map λ_=>([]:LI)).getD k []=[]:=λl k=>by
   rw[Bq,CH];cases l[k]?<;>rfl
  rw[e,e];simp
 .have e:∀(l:List HM) (k:Nat),(l.map λ_=>([]:LI)).getD k []=[]:=λl k=>by
   rw[Bq,CH];cases l[k]?<;>rfl
  rw[e]at hw;simp at hw
end
section
open Go.Proofs
def dn(I:Nat)(out:LI)(w:Int):Bool:=decide (w<I)||out.contains (w-I)
def uD(s:St)(db L I:Nat)(out:LI):Prop:=s.heap db=some (.LM 1 ((Bw L).map λ(k:Nat)=>BG (dn I out k)))
def rdR(R:LLI)(I:Nat)(out:LI)(k:Nat):Bool:= !dn I out k&&(R.getD k []).all (dn I out)
def tO{n:G8}{P R:LLI}(h:Nw n P R)(hp:xS P n.Hm.length)(hao:n.all.length=n.Je.length+n.Hm.length){out:LI}{v:Nat}(hv:v<n.Hm.length):rdR R n.Je.length out (v+n.Je.length)=true<->Rdy P out v:=by
 unfold rdR Rdy dn;simp only[Bk,DO,Cn,decide_eq_false_iff_not,CV,DU,decide_eq_true_iff,DJ];have e:((v+n.Je.length:Nat):Int)-n.Je.length=v:=AA;rw[e,h.lp];have hc:out.contains (v:Int)=false<->(v:Int)∉out:=AD;rw[hc];constructor
 .rintro⟨⟨_,h1⟩,h2⟩;refine⟨hv,h1,λw hw=>?_⟩
  have Kk:P.getD v []∈P:=by
   rw[Bq,BZ (by rw[h.lp];exact hv)];exact Bl _
  have hw0:=hp _ Kk w hw;rcases h2 _ ((h.is v hv w hw0.1).1 hw)with h3|h3
  .omega
  .rwa [show w+(n.Je.length:Int)-n.Je.length=w by omega]at h3
 .rintro⟨_,h1,h2⟩;refine⟨⟨AA,h1⟩,λw hw=>?_⟩;by_cases c:w<n.Je.length
  .exact .inl c
  .refine .inr (h2 _ ((h.is v hv (w-n.Je.length) AA).2 ?_));rwa [show w-(n.Je.length:Int)+n.Je.length=w by omega]
attribute [local irreducible] ei Wq aG
def nY{s:St}{g:L4}(hg:RS s g){db L I:Nat}{out:LI}(hd:uD s db L I out)(hR:∀u w,w∈(g.os.map Bp).getD u []->0<=w/\w<L){k:Nat}(hk:k<g.os.length){p:OLI}(hp:g.os[k]?=some p)(au:p.2.length<=900000000)
  {Q:F1}{w38:PV->PV->PV->F1}{AVC:PV->PV->PV->PV->PV->F1}{nv ov next:PV}:∀(m j:Nat),p.2.length-j=m->j<=p.2.length->∀{b:Bool},
   ei (.Im .Lp) Q w38 AVC nv (.G5 g.gp 0) (.LQ db L) ov next (.int .i64 k) (.bool (b&&(p.2.drop j).all (dn I out))) s->
   aH (.Im .Lp) Q w38 AVC (m+1) nv (.G5 g.gp 0) (.LQ db L) ov next (.int .i64 k) (.bool b) (.int .i64 j) s
 |0,j,hm,hj,b,hW=>by
  obtain⟨bo,hb,dX⟩:=hg.WJ hk;rw[CT AA]at hW;unfold aH mG;refine Gu Kg ?_;refine Gu JD ?_;refine Gu Ad1 ?_;rw[hb];refine Gu (LA AA Ag) ?_;refine Gu Ad8 ?_;refine Gu (Iy (Wk (hg.Hm p (Bt hp)))) ?_;rw[MY];refine Gu Ade ?_;refine cf ?_;rw[List.all_nil,Bool.and_true]at hW;exact hW
 |m+1,j,hm,hj,b,hW=>by
  obtain⟨bo,hb,dX⟩:=hg.WJ hk;have WB:j<p.2.length:=AA;have OA:p.2[j]?=some p.2[j]:=BZ WB;obtain⟨w,hwd⟩:∃w,w=p.2[j]:=⟨_,rfl⟩
  rw[<- hwd]at OA;have mg:p∈g.os:=Bt hp
  have zK:=hR k w (by
   rw[Bq,CH,hp];exact Bt OA)
  rw[Bx WB,<- hwd,Cl,<- Bool.and_assoc]at hW
  have hdw:((Bw L).map λ(k:Nat)=>BG (dn I out k))[w.toNat]?=some (.bool (dn I out w)):=by
   rw[SQ AA];congr 3;omega
  unfold aH mG;refine Gu Kg ?_;refine Gu JD ?_;refine Gu Ad1 ?_;rw[hb];refine Gu (LA AA Ag) ?_;refine Gu Ad8 ?_;refine Gu (Iy (Wk (hg.Hm p mg))) ?_;rw[MY];refine Gu Adf ?_;refine ct ?_;cases b with
  |false=>
   iterate 13 refine iC ?_
   refine Gu TP ?_;refine Gu OM ?_;refine Gu Adc ?_;refine Gu Jb ?_;exact AkT
  |true=>
   refine mS ?_;refine mS ?_;refine OJ Kg ?_;refine OJ JD ?_;refine OJ Ad1 ?_;rw[hb];refine mS ?_;refine OJ (LA AA Ag) ?_;refine OJ Ad8 ?_;refine mS ?_;refine OJ (ABt (hg.Hm p mg) OA) ?_;refine OJ (IM rfl) ?_;refine OJ (LA zK.1 AA) ?_;refine OJ (Lw hd hdw) ?_;refine Gu Uw ?_;refine Gu OM ?_;refine Gu Adc ?_;refine Gu Jb ?_;rw[Bool.true_and]at hW;exact AkT
end
section
open Go.Proofs
attribute [local irreducible] Wq
def qX{s:St}{g:L4}(hg:RS s g){L:Nat}(hL:g.G6.length=L){Q:F1}{w38:PV->PV->PV->F1}{nv dv ov:PV}{next:Int}{k:Nat}{m:Nat}(h:0<=next\/L<=k)(hW:Wq (.Im .Lp) Q w38 nv (.G5 g.gp 0) dv ov (.int .i64 next) s):
  Rl (.Im .Lp) Q w38 (m+1) nv (.G5 g.gp 0) dv ov (.int .i64 next) (.int .i64 k) s:=by
 unfold Rl mF;refine Gu Kg ?_;refine Gu JD ?_;refine Gu Ad1 ?_;refine Gu (Iy (RM hg.nm)) ?_;rw[BX,hL];by_cases hk:k<L
 .have hn:0<=next:=h.resolve_right AA;refine Gu Adf ?_;refine mS ?_;refine OJ Ade ?_;refine Gu Uw ?_;refine cf ?_;exact hW
 .refine Gu Ade ?_;refine iC ?_;refine iC ?_;refine Gu TP ?_;refine cf ?_;exact hW
def qY{s:St}{g:L4}(hg:RS s g){db L I:Nat}(hL:g.G6.length=L)(hoL:g.os.length=L)(hLn:L<=100000){out:LI}(hd:uD s db L I out)(hR:∀u w,w∈(g.os.map Bp).getD u []->0<=w/\w<L)(au:∀p,p∈g.os->p.2.length<=900000000)
  {Q:F1}{w38:PV->PV->PV->F1}{nv ov:PV}
  (hF:∀k:Nat,k<L->I<=k->rdR (g.os.map Bp) I out k=true->(∀u:Nat,I<=u->u<k->rdR (g.os.map Bp) I out u=false)->Wq (.Im .Lp) Q w38 nv (.G5 g.gp 0) (.LQ db L) ov (.int .i64 k) s)
  (hN:(∀u:Nat,I<=u->u<L->rdR (g.os.map Bp) I out u=false)->Wq (.Im .Lp) Q w38 nv (.G5 g.gp 0) (.LQ db L) ov (.int .i64 (-1)) s):∀(m k:Nat),L-k=m->k<=L->I<=k->(∀u:Nat,I<=u->u<k->rdR (g.os.map Bp) I out u=false)->
   Rl (.Im .Lp) Q w38 (m+2) nv (.G5 g.gp 0) (.LQ db L) ov (.int .i64 (-1)) (.int .i64 k) s
 |0,k,hm,hk,hI,hu=>qX hg hL (.inr AA) (hN λu h1 h2=>hu u h1 AA)
 |m+1,k,hm,hk,hI,hu=>by
  have fk:k<L:=AA;obtain⟨p,hp⟩:∃p,g.os[k]?=some p:=⟨_,BZ AA⟩
  have hpk:(g.os.map Bp).getD k []=p.2:=by rw[Bq,CH,hp];rfl
  unfold Rl mF;refine Gu Kg ?_;refine Gu JD ?_;refine Gu Ad1 ?_;refine Gu (Iy (RM hg.nm)) ?_;rw[BX,hL];refine Gu Adf ?_;refine mS ?_;refine OJ AeG ?_;refine Gu Uw ?_;refine ct ?_;refine Gu (LA AA (by simpa using fk)) ?_;refine Gu (Lw hd (v:=.bool (dn I out k)) (by rw[Ce,SQ fk])) ?_;refine Gu bX ?_;refine Gu OM ?_;refine⟨_,nY hg hd hR AA hp (au p (Bt hp)) p.2.length 0 AA AA ?_⟩;rw[Cv];have hr:(!dn I out k&&p.2.all (dn I out))=rdR (g.os.map Bp) I out k:=by unfold rdR;rw[hpk]
  rw[hr];unfold ei;refine Gw (λh=>?_) λh=>?_
  .refine Gu Jb ?_;unfold aG;refine Gu Adc ?_;refine Gu Jb ?_;exact qX (k:=k+1) hg hL (.inl AA) (hF k fk hI h hu)
  .unfold aG;refine Gu Adc ?_;refine Gu Jb ?_;refine qY hg hL hoL hLn hd hR au hF hN m (k+1) AA fk AA λu h1 h2=>?_;by_cases c:u=k
   .subst c;exact h
   .exact hu u h1 AA
end
section
open Go.Proofs
def Nh(n:G8)(out:LI):List BA:=out.map λi=>(n.Hm.map Ap).getD i.toNat default
structure OI (n:G8) (s:St) (g:L4) (nb db c e:Nat) (out:List Int):Prop where
 gs:RS s g
 bx:s.heap nb=some (.box n.Gy)
 done:uD s db n.all.length n.Je.length out
 H6:s.heap c=some (.Hm (Nh n out).length e)
 e1:(Nh n out).length=0\/e=1
 It:db∉g.It/\c∉g.It
def AJj{I:Nat}{out:LI}{v k:Nat}:dn I (out++[(v:Int)]) k=if k=v+I then true else dn I out k:=by
 unfold dn;by_cases c:k=v+I
 .rw[Ps c]
  have:(out++[(v:Int)]).contains ((k:Int)-I)=true:=by
   rw[DJ];simp;omega
  rw[this,Bool.or_true]
 .rw[Ng c]
  have:(out++[(v:Int)]).contains ((k:Int)-I)=out.contains ((k:Int)-I):=by
   rw[De];simp;omega
  rw[this]
attribute [local irreducible] ry
def AD1{n:G8}{g0:L4}(hb:Nw n n.qE (g0.os.map Bp))(au:∀p,p∈g0.os->p.2.length<=900000000)(sX:g0.G6=n.all.map Ap)(hLn:n.all.length<=100000)(WA:∀x,x∈n.HE->x.G0=[])
  {Q:F1}(hQ:∀s c l ok,OO n l ok->Q (.tuple [.H6 c (l.map Gv),.bool ok]) s){nb db c:Nat}:∀(m:Nat) {out:LI},n.Hm.length-out.length=m->RB n.qE out->∀{s:St} {e:Nat},OI n s g0 nb db c e out->
   Qw (.Im .Lp) Q (m+1) (.G5 nb 0) (.G5 g0.gp 0) (.LQ db n.all.length) (.H6 c ((Nh n out).map Gv)) s:=by
 have hao:n.all.length=n.Je.length+n.Hm.length:=by simp[BM,BV]
 have Pz:g0.G6.length=n.all.length:=by rw[sX,BX]
 have jb:g0.os.length=n.all.length:=by have:=hb.lr;simpa using this
 have hnr:n.Gy=[.HK n.name,.HC (n.Je.map Ao),.HC (n.Ic.map Ao),.HC (n.Gx.map Ao),.HC (n.HE.map Aq),.int .i64 n.HI]:=n.ZV;intro m
 induction m with
 |zero=>
  intro out hm hk s e hO;have fk:=hk.len;rw[hb.lp]at fk;have sh:((Nh n out).map Gv).length=out.length:=by simp[Nh]
  have hbx:=hO.bx;rw[hnr]at hbx;unfold Qw rz;refine HA Ae2 ?_;rw[sh];refine HA Kg ?_;refine HA JD ?_;refine HA (G2 hO.gs.box rfl) ?_;refine HA (Iy (RM hO.gs.nm)) ?_;rw[BX,Pz];refine HA JD ?_;refine HA (G2 hbx rfl) ?_;refine HA Adw ?_;rw[BX];apply HA
  .exact AhA
  refine HA Ade ?_;refine⟨by simp[Ih,I6,Jv,It],?_⟩;refine cf ?_;unfold ry;refine Gu RW ?_;refine Ls rfl (hQ s c _ true (.inr ⟨WA,out,hk,λu hu=>?_,?_,by rw[Ps rfl];rfl⟩))
  .have h2:(out++[(u:Int)]).length<=n.qE.length:=QL (B3.2 ⟨hk.nL,AD,λx hx y hy=>by
    simp at hy;subst hy;rintro rfl;exact hu.2.1 hx⟩) λx hx=>by
     rcases Bg.1 hx with h|h
     .exact AkF
     .simp at h;exact⟨u,h,hu.1⟩
   rw[hb.lp]at h2;simp at h2;omega
  .symm;rw[beq_iff_eq,hb.lp];omega
 |succ m ih=>
  intro out hm hk s e hO;have sh:((Nh n out).map Gv).length=out.length:=by simp[Nh]
  have hbx:=hO.bx;rw[hnr]at hbx;have hrx:=@G8.ABv n;unfold Qw rz;refine HA Ae2 ?_;rw[sh];refine HA Kg ?_;refine HA JD ?_;refine HA (G2 hO.gs.box rfl) ?_;refine HA (Iy (RM hO.gs.nm)) ?_;rw[BX,Pz];refine HA JD ?_;refine HA (G2 hbx rfl) ?_;refine HA Adw ?_;rw[BX];apply HA
  .exact AhA
  refine HA Adf ?_;refine⟨by simp[Ih,I6,Jv,It],?_⟩;refine ct ?_;refine Gu JD ?_;refine Gu (G2 hbx rfl) ?_;refine Gu Adw ?_;rw[BX];refine Gu Jb ?_;refine⟨_,qY hO.gs Pz jb hLn hO.done hb.rng au (λk hkL hkI hr hu=>?_) (λhu=>?_) _ n.Je.length rfl AA (Bd _) λu h1 h2=>by omega⟩
  .obtain⟨v,rfl⟩:∃v,k=v+n.Je.length:=⟨k-n.Je.length,AA⟩
   have hvl:v<n.Hm.length:=AA;have hrd:Rdy n.qE out v:=(tO hb hrx hao hvl).1 hr
   have Jr:RB n.qE (out++[(v:Int)]):=.ta out v hk hrd λu hu1 hu2=>by
    have:=(tO hb hrx hao (by omega:u<n.Hm.length)).2 hu2;exact AkB
   obtain⟨x,hx⟩:∃x,n.Hm[v]?=some x:=⟨_,BZ hvl⟩
   have hax:n.all[v+n.Je.length]?=some x:=by
    have:n.all=n.Je++n.Hm:=by simp[BM,BV]
    rw[this,CU AA];simpa using hx
   have va:Nh n (out++[(v:Int)])=Nh n out++[x.name]:=by
    unfold Nh;rw[Br];congr 1;simp[Bq,hx]
   have bM:=hO.done;unfold uD at bM;obtain⟨s1,L9⟩:∃s1,s1=s.set db (.LM 1 ((Bw n.all.length).map λ(k:Nat)=>BG (dn n.Je.length (out++[(v:Int)]) k))):=⟨_,rfl⟩
   have Mv:∀b,b≠db->s1.heap b=s.heap b:=λb hb=>by rw[L9,Ar hb]
   have ml:((Bw n.all.length).map λ(k:Nat)=>BG (dn n.Je.length out k)).set (v+n.Je.length) (.bool true)=(Bw n.all.length).map λ(k:Nat)=>BG (dn n.Je.length (out++[(v:Int)]) k):=by
    rw[Vt];congr 1;funext k;rw[AJj];split<;>rfl
   have TM:RS s1 g0:=hO.gs.Ir λb hb=>Mv b (by rintro rfl;exact hO.It.1 hb);have fB:s1.heap c=some (.Hm (Nh n out).length e):=(Mv c (Ip hO.H6 bM AD)).trans hO.H6;have MR:s1.heap nb=some (.box n.Gy):=(Mv nb (Ip hO.bx bM AD)).trans hO.bx;have aq:uD s1 db n.all.length n.Je.length (out++[(v:Int)]):=by rw[L9];exact Ay
   obtain⟨s2,K9⟩:∃s2,s2=s1.set c (.Hm (((Nh n out).map Gv).length+[[PV.HK x.name]].length) 1):=⟨_,rfl⟩
   have AO8:∀b,b≠c->s2.heap b=s1.heap b:=λb hb=>by rw[K9,Ar hb]
   have vg:((Nh n out).map Gv).length=(Nh n out).length:=AD;have AXj:(Nh n out).length=out.length:=by simp[Nh]
   have fk:=hk.len;rw[hb.lp]at fk;unfold Wq;refine Gu Ade ?_;refine cf ?_;refine Gu (LA AA AA) ?_;refine Gu (SN bM rfl AB) ?_;rw[Ce,ml,<- L9];refine Gu Kg ?_;refine Gu JD ?_;refine Gu (G2 TM.box rfl) ?_;apply Gu
   .exact(show I0 (Jq 1 (QH (g0.nb,g0.G6)) (.int .i64 ((v+n.Je.length:Nat):Int))) s1 (.M8 (Gv x.name) 0) s1 [] [] by
     have HV:(g0.G6.map Gv)[v+n.Je.length]?=some (Gv x.name):=by rw[sX];simp[hax]
     have APS:=TM.nm;unfold jX at APS;unfold QH;split
     .rename_i he;simp only at he;simp only[he]at APS;rw[APS]at HV;simp at HV
     .exact Ju AA (by rw[Ce];exact HV) rfl)
   refine Gu (IM (v:=.HK x.name) rfl) ?_;refine Gu (ZP (G1:=[[.HK x.name]]) rfl) ?_;refine Gu (KG (xs:=[[PV.HK x.name]]) rfl rfl (Jd (by simp only[vg,AXj,CZ];omega) AA) (nM _) (by rw[vg];exact fB) (by rw[vg];exact hO.e1.imp id λh=>h.symm)) ?_;rw[<- K9];refine Gu RW ?_;have Nq:(Nh n out).map Gv++[[PV.HK x.name]]=(Nh n (out++[(v:Int)])).map Gv:=by rw[va];simp[Gv]
   rw[Nq];refine ih (out:=out++[(v:Int)]) AB Jr (e:=1) ⟨TM.Ir λb hb=>AO8 b (by rintro rfl;exact hO.It.2 hb),(AO8 nb (Ip MR fB AD)).trans MR,(AO8 db (Ip aq fB AD)).trans aq,?_,.inr rfl,hO.It⟩;rw[K9,Ay,vg,va];simp
  .unfold Wq;refine Gu AeG ?_;refine ct ?_;refine Gu (Xd rfl) ?_;refine Ls rfl (hQ _ _ [] false (.inr ⟨WA,out,hk,λu hu1=>?_,?_,rfl⟩))
   .have hul:u<n.Hm.length:=by have:=hu1.1;rw[hb.lp]at this;exact this
    have:=(tO hb hrx hao hul).2 hu1;exact AkB
   .symm;rw[beq_eq_false_iff_ne,hb.lp];omega
end
section
open Go.Proofs
mutual
def AAD {N:List G8} {S:List ByteArray} {nd:Int}:∀(e:Hh),Qc N S nd e->∀m,m∈O9 e->m∈S
 | .mk form sub name tk tl i j G9 a,h,m,hm=>by
  obtain⟨h1,_,_,h2⟩:=h.pw;simp only[O9]at hm;split at hm
  .simp at hm
  .rcases Bg.1 hm with hm|hm
   .split at hm
    .rename_i hc;simp at hm;subst hm;exact mW (h1 hc)
    .simp at hm
   .split at hm
    .exact ALL G9 h2 m hm
    .exact AB6 G9 h2 m hm
def AB6 {N:List G8} {S:List ByteArray} {nd:Int}:∀(l:List Hh),(∀k,k∈l->Qc N S nd k)->∀m,m∈UG l->m∈S
 |[],_,m,hm=>by simp[UG]at hm
 |k::r,h,m,hm=>by
  simp only[UG]at hm;rcases Bg.1 hm with hm|hm
  .exact AAD k (h k AD) m hm
  .exact AB6 r (λx hx=>h x (by simp[hx])) m hm
def ALL {N:List G8} {S:List ByteArray} {nd:Int}:∀(l:List Hh),(∀k,k∈l->Qc N S nd k)->∀m,m∈rdH l->m∈S
 |[],_,m,hm=>by simp[rdH]at hm
 |k::r,h,m,hm=>by
  simp only[rdH]at hm;exact AAD k (h k AD) m hm
end
def lu{N:List G8}{i:Nat}{n:G8}(hn:Sq N i n){x:Item}(hx:x∈n.HE)(WA:x.G0=[]):(∀m,m∈x.G6->m∈n.vars)/\∀m,m∈O9 x.e->m∈n.vars:=by
 have h:=hn.HE x hx;cases h with
 |eq _ _ G6 e HI h1 h2=>
  exact⟨λm hm=>List.mem_of_mem_drop (mW (h1 m hm)),λm hm=>AAD e h2 m hm⟩
 |AIk _ _ G6 e st G0 HI _=>exact Zq WA AcD
def ADf{N:List G8}{i:Nat}{n:G8}(hn:Sq N i n)(WA:∀x,x∈n.HE->x.G0=[]):Nw n n.qE n.onR:=AV9 hn.ASd (λx hx=>lu hn hx (WA x hx)) λv hv e he=>mW (hn.clk v hv e he)
def G8.AHD{n:G8}(hn:n.WF)(Pe:n.wt<=20000):Lg n.onR 900000000:=by have h1:oe [] n.HE<=As n.HE*20000:=my AT;have h2:As n.HE*20000<=20000*20000:=Cf _ AT;refine(wC (Wl (T:=0) (λv hv=>(hn.Gx.all v hv).HH) λl hl=>?_)).mono AT;obtain⟨_,_,rfl⟩:=B8.1 hl;simp
attribute [local irreducible] vH mE
def nf{n:G8}(hn:n.WF){Q:F1}{bn:Nat}(hQ0:(∃x,x∈n.HE/\x.G0≠[])->∀s c,Q (.tuple [.H6 c [],.bool false]) s){s:St}(hb:s.heap bn=some (.box n.Gy))(hQ1:(∀x,x∈n.HE->x.G0=[])->vH (.Im .Lp) Q (.G5 bn 0) s):∀(m i:Nat),n.HE.length-i=m->i<=n.HE.length->
  (∀(q:Nat) (h:q<n.HE.length),q<i->n.HE[q].G0=[])->aJ (.Im .Lp) Q (m+1) (.G5 bn 0) (I i) s
 |0,i,hm,hi,KH=>by
  have II:=hn.len;have h4:n.Gy[4]?=some (.HC (n.HE.map Aq)):=by rw[n.ZV];rfl
  unfold aJ mI;refine Gu JD ?_;refine Gu (G2 hb h4) ?_;refine Gu Aen ?_;rw[BX];refine Gu Ade ?_;refine cf ?_;refine hQ1 λx hx=>?_;exact Akb
 |m+1,i,hm,hi,KH=>by
  have SX:i<n.HE.length:=AA;have II:=hn.len;have h4:n.Gy[4]?=some (.HC (n.HE.map Aq)):=by rw[n.ZV];rfl
  obtain⟨x,uA⟩:∃x,x=n.HE[i]:=⟨_,rfl⟩
  have iG:n.HE[i]?=some x:=by rw[uA];exact BZ SX
  have hxm:=Bt iG;have jD:x.Gy[10]?=some (.HC (x.G0.map BC)):=by rw[Item.JP,Hh.JP];rfl
  unfold aJ mI;refine Gu JD ?_;refine Gu (G2 hb h4) ?_;refine Gu Aen ?_;rw[BX];refine Gu Adf ?_;refine ct ?_;refine Gu JD ?_;refine Gu (G2 hb h4) ?_;refine Gu AeJ ?_;refine Gu ZQ ?_;refine Gu (IM jD) ?_;refine Gu (Iy (G1:=x.G0.map BC) rfl) ?_;rw[BX];refine Gu AeO ?_;refine Gw (λh=>?_) λh=>?_
  .exact Ahz
  .have Uv:x.G0=[]:=by
    cases hs:x.G0 with
    |nil=>rfl
    |cons a l=>rw[hs]at h;simp at h
   refine Gu Adc ?_;refine Gu Jb ?_;refine nf hn hQ0 hb hQ1 m (i+1) AA SX λq h hq=>?_;exact Ai7
def vw{n:G8}(hn:n.WF){L:Nat}(hL:n.Je.length<=L){bn db:Nat}{gv:PV}{Q:F1}:∀(m i:Nat),n.Je.length-i=m->i<=n.Je.length->∀{s:St} (hf:Ha s),s.heap bn=some (.box n.Gy)->s.heap db=some (.LM 1 ((Bw L).map λ(k:Nat)=>BG (decide (k<i))))->
  (∀s',Ha s'->IL s s'->(∀b,b≠db->s'.heap b=s.heap b)->s'.heap db=some (.LM 1 ((Bw L).map λ(k:Nat)=>BG (decide (k<n.Je.length))))->mE (.Im .Lp) Q (.G5 bn 0) gv (.LQ db L) s')->
  aI (.Im .Lp) Q (m+1) (.G5 bn 0) gv (.LQ db L) (I i) s
 |0,i,hm,hi,s,hf,hb,hd,hW=>by
  have h1:n.Gy[1]?=some (.HC (n.Je.map Ao)):=by rw[n.ZV];rfl
  have:i=n.Je.length:=AA;subst this;unfold aI mH;refine Gu JD ?_;refine Gu (G2 hb h1) ?_;refine Gu Adw ?_;rw[BX];refine Gu Ade ?_;refine cf ?_;exact hW s hf (.refl _) (λ_ _=>rfl) hd
 |m+1,i,hm,hi,s,hf,hb,hd,hW=>by
  have h1:n.Gy[1]?=some (.HC (n.Je.map Ao)):=by rw[n.ZV];rfl
  have II:=hn.Je.len
  have ml:((Bw L).map λ(k:Nat)=>BG (decide (k<i))).set i (.bool true)=(Bw L).map λ(k:Nat)=>BG (decide (k<i+1)):=by
   rw[Vt];congr 1;funext k;by_cases c:k=i
   .rw[Ps c];simp[c]
   .rw[Ng c];congr 1;rw[decide_eq_decide];omega
  unfold aI mH;refine Gu JD ?_;refine Gu (G2 hb h1) ?_;refine Gu Adw ?_;rw[BX];refine Gu Adf ?_;refine ct ?_;refine Gu (LA AA AA) ?_;refine Gu (SN hd rfl AB) ?_;rw[Ce,ml];refine Gu Adc ?_;refine Gu Jb ?_;refine vw hn hL m (i+1) AA AA (JH hf (by rw[hd];simp)) ((Ar (Ip hb hd AD)).trans hb) Ay λs' k1 k2 k3 k4=>hW s' k1 ((JO (by rw[hd];simp)).trans k2) (λb hb=>?_) k4;rw[k3 b hb,Ar hb]
def AD3{N:List G8}{i:Nat}{n:G8}(hn:n.WF)(jK:Sq N i n)(Pe:n.wt<=20000){s:St}(hf:Ha s):
  SW .Lp BW 23 [.agg n.Gy] s λr _=>∃c l ok,r=.tuple [.H6 c (l.map Gv),.bool ok]/\OO n l ok:=by
 refine(AOR (.Im .Lp) _ ?_).sw hf;have AGK:=Pe;unfold G8.wt at AGK;have Jg:n.all.length=n.Je.length+n.Ic.length+n.Gx.length:=by simp[BM];omega
 obtain⟨s1,L9⟩:∃s1,s1=(s.new (.box n.Gy)).new (.Hm 0 0):=⟨_,rfl⟩
 have Yz:s1.next=s.next+2:=by rw[L9];rfl
 have Nm:Ha s1:=by rw[L9];exact IW (IW hf)
 have MR:s1.heap s.next=some (.box n.Gy):=by rw[L9,Av (n:=s.next+1) rfl AA];exact A3 rfl
 unfold g23;refine Gu (Ny (l:=n.Gy) AdR rfl) ?_;refine Gu (Xd rfl) ?_;rw[<- L9];refine⟨_,nf (Q:=λr _=>∃c l ok,r=.tuple [.H6 c (l.map Gv),.bool ok]/\OO n l ok) hn (λh s c=>⟨c,[],false,rfl,.inl ⟨h,rfl,rfl⟩⟩) MR (λWA=>?_) n.HE.length 0 AA AA λq h hq=>by omega⟩;have sX:∀x,x∈n.HE->∀m,m∈x.G6->m∈n.all.map Ap:=λx hx m hm=>(lu jK hx (WA x hx)).1 m hm;have hbt:=ADf jK WA;have hln:=G8.AHD hn Pe;unfold vH;refine Gu (Ii MR n.HJ) ?_;refine UT (AHY hn WA Pe sX Nm) λv s2 T7 OK hq=>?_;obtain⟨g,hM⟩:=hq;rw[hM.res];have AXd:=T7.next;have MK:s2.heap s.next=some (.box n.Gy):=(hM.Ir _ AA).trans MR;rw[<- hM.on]at hbt hln;have Pz:g.G6.length=n.all.length:=by rw[hM.G6,BX]
 obtain⟨s3,UA⟩:∃s3,s3=s2.new (.LM 1 (C2 n.all.length [BG false]).flatten):=⟨_,rfl⟩
 have aO:Ha s3:=by rw[UA];exact IW OK
 have bP:∀b,b<s2.next->s3.heap b=s2.heap b:=λb hb=>by rw[UA,Av rfl AA]
 have hd3:s3.heap s2.next=some (.LM 1 ((Bw n.all.length).map λ(k:Nat)=>BG (decide (k<0)))):=by
  rw[UA,BN];congr 2;rw[Ds];apply Dc;intro j;by_cases hj:j<n.all.length
  .simp[hj]
  .rw[CA AB,CA AB]
 refine Gu iT ?_;refine Gu Kg ?_;refine Gu JD ?_;refine Gu (G2 hM.gs.box rfl) ?_;refine Gu (Iy (RM hM.gs.nm)) ?_;rw[BX,Pz];refine Gu (zm AA (Jd AB AA) rfl) ?_;refine Gu tI ?_;rw[Ce,<- UA];refine⟨_,vw hn AA n.Je.length 0 AA AA aO ((bP _ AA).trans MK) hd3 λs4 k1 k2 k3 k4=>?_⟩;have hn3:s3.next=s2.next+1:=by rw[UA];rfl
 have hnx4:=k2.next;obtain⟨s5,hs5⟩:∃s5,s5=s4.new (.Hm 0 0):=⟨_,rfl⟩
 have hk5:∀b,b<s4.next->s5.heap b=s4.heap b:=λb hb=>by rw[hs5,Av rfl AA]
 have ATo:∀b,b<s2.next->s5.heap b=s2.heap b:=λb hb=>by rw[hk5 b AA,k3 b AA,bP b hb]
 unfold mE;refine Gu (Xd rfl) ?_;rw[<- hs5];refine⟨_,AD1 hbt (λp hp=>hln p.2 (B8.2 ⟨p,hp,rfl⟩)) hM.G6 AA WA (λs c l ok h=>⟨c,l,ok,rfl,h⟩) _ (out:=[]) rfl .nil (e:=0) ⟨hM.gs.Ir λb hb=>ATo b (hM.gs.lt OK hb),(ATo _ AA).trans MK,?_,?_,.inl rfl,λhm=>by have:=hM.gs.lt OK hm;omega,λhm=>by have:=hM.gs.lt OK hm;omega⟩⟩
 .show s5.heap s2.next=_;rw[hk5 _ AA,k4];congr 2;apply Ej;intro k _;simp[dn]
 .rw[hs5];exact BN
end
def RB.Jp{on:LLI}:∀{b:LI},RB on b->∀{a:LI},RB on a->a.length<=b.length->a=b.take a.length:=by
 intro b hb
 induction hb with
 |nil=>
  intro a ha hl;have:a=[]:=List.eq_nil_of_length_eq_zero AZ;subst this;rfl
 |ta out v hk hr hm ih=>
  intro a ha hl;by_cases h:a.length<=out.length
  .rw[DI h];exact ih ha h
  .have hla:a.length=out.length+1:=by simp at hl;omega
   cases ha with
   |nil=>simp at hla
   |ta AHK v' Ta XB hm'=>
    have oZ:AHK.length=out.length:=by simpa using hla
    have he:=ih Ta AA;rw[oZ,DG]at he;subst he
    have:v'=v:=by
     rcases Nat.lt_trichotomy v' v with h1|h1|h1
     .exact Zq XB (hm v' h1)
     .exact h1
     .exact Zq hr (hm' v h1)
    subst this;rw[CJ AD]
def RB.one{on:LLI}{a b:LI}(ha:RB on a)(hb:RB on b)(sa:∀u,¬Rdy on a u)(sb:∀u,¬Rdy on b u):a=b:=by
 have key:∀{a b:LI},RB on a->RB on b->(∀u,¬Rdy on a u)->a.length<=b.length->a=b:=by
  intro a b ha hb sa hl;have hp:=hb.Jp ha hl;rcases Nat.lt_or_ge a.length b.length with h|h
  .exfalso
   have:∀{b:LI},RB on b->a.length<b.length->a=b.take a.length->False:=by
    intro b hb
    induction hb with
    |nil=>intro h;simp at h
    |ta out v hk hr hm ih=>
     intro h he;by_cases H5:a.length<out.length
     .rw[DI AA]at he;exact ih H5 he
     .have hle:a.length=out.length:=by simp at h;omega
      rw[hle,DI (Bd _),DG]at he;subst he;exact sa v hr
   exact this hb h hp
  .rw[hp,CJ AA]
 rcases Nat.le_total a.length b.length with h|h
 .exact key ha hb sa h
 .exact(key hb ha sb h).symm
def OO.one{n:G8}{l l':List BA}{ok ok':Bool}(h:OO n l ok)(h':OO n l' ok'):l=l'/\ok=ok':=by
 rcases h with⟨⟨x,hx,hs⟩,rfl,rfl⟩|⟨hf,out,k,s,e1,e2⟩<;>rcases h' with⟨⟨x',US,vj⟩,rfl,rfl⟩|⟨dY,AHK,k',s',e1',pM⟩
 .exact⟨rfl,rfl⟩
 .exact Zq (dY x hx) hs
 .exact Zq (hf x' US) vj
 .have:=k.one k' s s';subst this;rw[e1,e1']at*;exact⟨by rw[e2,pM],rfl⟩
section
open Go.Proofs
def gl{IC:LLP}:Ha (Ol IC):=λb hb=>by
 exact AjB
def nS{P:Cc}{f:CE}{args:LP}{Q:F1}(h:SW .Lp P f args (Ol []) Q){x:PV}(hQ:∀r s,Q r s->QG r=some x):PC P f args [] x []:=by
 intro K w Bs HW hK hC L6 Ok;have hr:=vu hK hC L6;have Mi:=qz Ok;cases hC;refine(h _ w HW trivial hr Mi).mono ?_;rintro e w' ⟨m',v,r,s',rfl,e2,r2,hv,_,_,hq⟩;refine⟨m'.K,v,rfl,e2.le.K,r2.an,λB ks Jr H5=>?_,.nil,e2.size,λB H5 hn=>e2.Kv B H5 ?_,e2.os,e2.output,e2.M4,oz hv (hQ r s' hq) _⟩
 .exact AiQ
 .rintro(⟨b,hb⟩|⟨b,n,e,t,hb⟩)
  .cases hb
  .cases hb
def AMn{p:Nat->Prop}:∀n,p n->∃k,p k/\∀u,u<k->¬p u:=by
 intro n
 induction n using Nat.strongRecOn with
 |ind n ih=>
  intro hp;by_cases h:∃u,u<n/\p u
  .obtain⟨u,hu,hpu⟩:=h;exact ih u hu hpu
  .exact⟨n,hp,λu hu hpu=>h ⟨u,hu,hpu⟩⟩
def ABc{on:LLI}:∀(m:Nat) {out:LI},on.length-out.length=m->RB on out->∃AHK,RB on AHK/\∀u,¬Rdy on AHK u
 |0,out,hm,hk=>by
  refine⟨out,hk,λu hu=>?_⟩;obtain⟨v,hv,APK⟩:=AMn u hu;have:=(RB.ta out v hk hv APK).len;simp at this;omega
 |m+1,out,hm,hk=>by
  by_cases h:∃u,Rdy on out u
  .obtain⟨u,hu⟩:=h;obtain⟨v,hv,APK⟩:=AMn u hu;exact ABc m (out:=out++[(v:Int)]) AB (.ta out v hk hv APK)
  .exact⟨out,hk,λu hu=>h ⟨u,hu⟩⟩
def AHH(n:G8):∃l ok,OO n l ok:=by
 by_cases h:∃x,x∈n.HE/\x.G0≠[]
 .exact⟨[],false,.inl ⟨h,rfl,rfl⟩⟩
 .obtain⟨out,h1,h2⟩:=ABc (on:=n.qE) _ rfl .nil;exact⟨_,_,.inr ⟨λx hx=>Classical.byContradiction λhs=>h ⟨x,hx,hs⟩,out,h1,h2,rfl,rfl⟩⟩
def AHI{N:List G8}{n:G8}(hn:n.WF)(hd:dg n.vars)(Pe:n.wt<=20000){l:List BA}{ok:Bool}(ho:OO n l ok):PC BW 22 [.agg [.HC (N.map A2)],.agg n.Gy] [] (.tuple [.HC (l.map Gv),.bool ok]) []:=
 nS (AHJ hn hd Pe gl) λr s ⟨c,l',ok',hr,Xb⟩=>by
  obtain⟨rfl,rfl⟩:=ho.one Xb;rw[hr];rfl
def AD2{N:List G8}{i:Nat}{n:G8}(hn:n.WF)(jK:Sq N i n)(Pe:n.wt<=20000){l:List BA}{ok:Bool}(ho:OO n l ok):PC BW 23 [.agg n.Gy] [] (.tuple [.HC (l.map Gv),.bool ok]) []:=
 nS (AD3 hn jK Pe gl) λr s ⟨c,l',ok',hr,Xb⟩=>by
  obtain⟨rfl,rfl⟩:=ho.one Xb;rw[hr];rfl
end
end Go.Vi
