/- Part of the proof of CauseOrders (own work, made small). -/
import Derived.Test.YtlonlfiaclacdaaGreatE1
import Derived.WalkKit
import Derived.OneCell
import Derived.Deep.LoopGhost
import Derived.Deep.QuietTactic
import Derived.BigQuiet
import Derived.StillTailTactics
import Derived.BigRegion
import Derived.Deep.AppendLies
set_option linter.all false
set_option maxRecDepth 100000
section
variable{p:Prop}
def AfI(q:p:=by
 clear Af;obtain⟨d,rfl,hd9,hki,B⟩:=hrel;obtain⟨htc,htf⟩:=PA B.out.cell;by_cases T9:d<r.length
 .have Lr:=B.out.i.Hm;obtain⟨gk,cap,hv,oK,yz⟩:=Lr.form AA;obtain⟨rfl,rfl⟩:a0=some ⟨gk,0,none⟩/\cp=cap:=by injection hv with h1 h2 h3;exact⟨h1,h3⟩
  have Ja:=SO Lr (g:=gk) rfl;obtain⟨v1,fB⟩:=(Ja ((m+d)*5+1) AA).1;obtain⟨v2,Ro⟩:=(Ja ((m+d)*5+2) AA).1;have Nm:=(Ja ((m+d)*5+1) AA).2;have OK:=(Ja ((m+d)*5+2) AA).2;have cU:((m+d:Nat):Int)<(m+r.length:Nat):=AA;have MT:wb.heap.size≠gk:=λe=>B.out.ne AcM;have B2:B9 _:=Td (kd:=kd) (ln:=ln) hx5 T9▸(B.out.set hB (g:=gk) rfl ((m+d)*5+1) (.int .i64 kd)).set hB (g:=gk) rfl ((m+d)*5+2) (.int .i64 ln);clear Lr Ja hv;go_wp2
  go_roundg (r.length-(d+1))
  case measure=>omega
  case rel=>exact⟨d+1,by go_num,AA,AA,B2⟩
 .have cU:¬((m+d:Nat):Int)<(m+r.length:Nat):=AA;obtain rfl:d=r.length:=AA;go_wp2
  go_ret
  exact⟨Kt,_,rfl,by have h9:=B.out.i;rw[Tc]at h9;exact h9⟩):=q
def AfJ(q:p:=by
 clear Ad;obtain⟨d,rfl,hd9,hki,B⟩:=hrel;obtain⟨htc,htf⟩:=PA B.out.cell;by_cases T9:d<r.length
 .have Lr:=B.out.i.Hm;obtain⟨gk,cap,hv,oK,yz⟩:=Lr.form AA;obtain⟨rfl,rfl⟩:a0=some ⟨gk,0,none⟩/\cp=cap:=by injection hv with h1 h2 h3;exact⟨h1,h3⟩
  have Ja:=SO Lr (g:=gk) rfl;obtain⟨v1,fB⟩:=(Ja ((m+d)*5+1) AA).1;obtain⟨v2,Ro⟩:=(Ja ((m+d)*5+2) AA).1;have Nm:=(Ja ((m+d)*5+1) AA).2;have OK:=(Ja ((m+d)*5+2) AA).2;have cU:((m+d:Nat):Int)<(m+r.length:Nat):=AA;have MT:wb.heap.size≠gk:=λe=>B.out.ne AcM;have B2:B9 _:=Td (kd:=kd) (ln:=0) hx5 T9▸(B.out.set hB (g:=gk) rfl ((m+d)*5+1) (.int .i64 kd)).set hB (g:=gk) rfl ((m+d)*5+2) (.int .i64 0);clear Lr Ja hv;go_wp2
  go_roundg (r.length-(d+1))
  case measure=>omega
  case rel=>exact⟨d+1,by go_num,AA,AA,B2⟩
 .have cU:¬((m+d:Nat):Int)<(m+r.length:Nat):=AA;obtain rfl:d=r.length:=AA;go_wp2
  go_ret
  exact⟨Kt,_,rfl,by have h9:=B.out.i;rw[Tc]at h9;exact h9⟩):=q
def Akd(q:p:=by
 refine(aq A5.out.hd fG (.HK _)).mono ?_;rintro _ w6 ⟨K6,_,rfl,hd6,st6,hv6⟩;obtain rfl:=MP hv6;have A6:B9 _:=A5.out.step hl hB hd6 st6;have hmr:m+dn.length+1=m+r.length:=AA;rw[<- XB.out,hmr]at A6;rw[hmr];clear hd6 st6 hv6 A5 An xY Ab Aa A A1 aN hmr XB hlb;generalize(some (⟨gk,0,none⟩:EW))=a0 at*;generalize cap=cp at*;clear II;rcases ht.pw with⟨rfl,a2,e2,b2,cW,fG,ve⟩|⟨a2,e2,b2,a3,e3,b3,a4,cW,fG,ve,hp4⟩
 .go_wp2_with (fail)
  refine(aq A6.out.hd cW (.HK _)).mono ?_;rintro _ wa ⟨Ka,_,rfl,Wz,bf,bR⟩;obtain rfl:=Rt bR;have Aa:B9 _:=A6.out.step hl hB Wz bf;go_wp2_with (fail)
  refine(Xq Aa.out.hd fG).mono ?_;rintro _ wb ⟨Kb,_,rfl,V0,jU,cY⟩;obtain rfl:=XQ cY;have Ab:B9 _:=Aa.out.step hl hB V0 jU;have Ac:B9 _:=Ab.out.t hl hB kd 0;go_wp2_with (fail)
  refine(aq Ac.out.i.hd ve (.HK _)).mono ?_;rintro _ wc ⟨Kt,_,rfl,Yu,fa,ZD⟩;obtain rfl:=MP ZD;have Ad:B9 _:=Ac.out.step hl hB Yu fa;clear Wz bf bR V0 jU cY Yu fa ZD Aa Ab Ac A6
  try clear A
  go_wp2
  go_loopg [12] (r.length) (λkx s12 wr=>∃d:Nat,s12=.int .i64 ((m+d:Nat):Int)/\d<=r.length/\r.length-d<=kx/\B9 (xQ L n lo B0 K w Kt wr a' e' b' (.slice a0 (m+r.length) cp) (m+r.length) (Vo xs r kd 0 d) wb.heap.size kd 0))
  case atStart=>exact⟨0,rfl,AA,AA,by rw[aT];exact Ad.out⟩
  case round=>
   exact AfJ
 .go_wp2_with (fail)
  refine(aq A6.out.hd cW (.HK _)).mono ?_;rintro _ wa ⟨Ka,_,rfl,Wz,bf,bR⟩;obtain rfl:=Rt bR;have Aa:B9 _:=A6.out.step hl hB Wz bf;go_wp2_with (fail)
  refine(Xq Aa.out.hd fG).mono ?_;rintro _ wb ⟨Kb,_,rfl,V0,jU,cY⟩;obtain rfl:=XQ cY;have Ab:B9 _:=Aa.out.step hl hB V0 jU;have Ac:B9 _:=Ab.out.t hl hB kd 0;go_wp2_with (fail)
  refine(aq Ac.out.i.hd ve (.HK _)).mono ?_;rintro _ wc ⟨Kc2,_,rfl,Yu,fa,ZD⟩;obtain rfl:=MP ZD;have Ad:B9 _:=Ac.out.step hl hB Yu fa;go_wp2_with (fail)
  refine(Xq Ad.out.i.hd hp4).mono ?_;rintro _ wd ⟨Kt,_,rfl,oH,qZ,cZ⟩;obtain rfl:=XQ cZ;have Ae:B9 _:=Ad.out.step hl hB oH qZ;have Af:B9 _:=Ae.out.AQg hB ln;obtain⟨htc,htf⟩:=PA Ae.out.cell;have htl:=Dt Ae.out.cell;clear Wz bf bR V0 jU cY Yu fa ZD oH qZ cZ Aa Ab Ac Ad Ae A6
  try clear A
  go_wp2
  go_loopg [12] (r.length) (λkx s12 wr=>∃d:Nat,s12=.int .i64 ((m+d:Nat):Int)/\d<=r.length/\r.length-d<=kx/\B9 (xQ L n lo B0 K w Kt wr a' e' b' (.slice a0 (m+r.length) cp) (m+r.length) (Vo xs r kd ln d) wb.heap.size kd ln))
  case atStart=>exact⟨0,rfl,AA,AA,by rw[aT];exact Af.out⟩
  case round=>
   exact AfI):=q
end
open Array renaming getElem?_eq_getElem->Bv
open ByteArray renaming size_extract->Dg
open Go renaming Obj->EN,Addr->EW,Aside->B9,Calls->E8,TypeId->Bm,Value->Bc,callsIn_wide->EM,cell_of_row->Db,lt_of_block->Dt,wpList_append_lies->Df
open Go.Instr renaming field->FO
open Go.Proofs.Tryz renaming prog->BW,underlying45->E4,underlying75->Gd
open Go.RowKit.Below renaming heap_alloc->DX,heap_setCell->Dl
open Go.Value renaming ownBlock->GK
open Go.Vi.At renaming QS->BP
open Go.Vi.Edge renaming Gy->A9
open Go.Vi.G8 renaming Gy->A2,Il->A8
open Go.Vi.HF renaming Gy->BC,wt->BK,Il->A7
open Go.Vi.HM renaming Gy->Ao
open Go.Vi.Hc renaming Gy->Ax
open Go.Vi.Hh renaming G1->A4
open Go.Vi.Item renaming Gy->Aq,wt->BE,Il->As
open Go.Vi.PT renaming Gy->BH
open Go.World renaming cell?->GJ,frozen?->Du,news_of_block->Ei,ownsRow_nil->E5
open Go.World.ownsRow renaming alloc->Eh,lt->D9
open Int renaming le_refl->C3,not_le->EF
open List renaming all_cons->Cl,append_assoc->CN,append_nil->CL,drop_drop->D6,drop_eq_getElem_cons->Bx,drop_length->Gi,drop_zero->Cv,flatMap_cons->Gc,getD_eq_getElem?_getD->Bq,getElem?_append_left->B5,getElem?_append_right->CU,getElem?_eq_getElem->BZ,getElem?_eq_some_iff->Bn,length_append->Bf,length_cons->CG,length_eq_zero_iff->Dd,length_map->BX,length_take->C1,map_append->Br,map_nil->Fz,mem_append->Bg,mem_map->B8,mem_singleton->CS,nil_append->CX,prefix_refl->C4,range->Bw,take_append_drop->CP,take_length->DG,take_of_length_le->CJ,take_prefix->Gh,take_succ_eq_append_getElem->Cp
open Nat renaming add_mul->CW,add_sub_cancel_left->Ew,beq->Bo,le_refl->Bd,le_trans->CD,lt_of_lt_of_le->Cw,mul_le_mul_right->Cf,one_mul->Eu,zero_add->CR
open Option.some renaming injEq->Ba
open Prod.mk renaming injEq->CM
namespace Go.Vi
attribute [local irreducible] Iq IJ Hf Ij HS Ik G3 G4 HQ IA H7 KV Hx Ig Ie Iz LH LS Jq Kp LG Hw Hg IT pQ Jy JZ Hb HP He H2 IN I0 Int.instDecidableEq Int.decEq instBEqOfDecidableEq
section
open Go.Proofs
def PIt(L:List PT)(a0 e0 b0 n0:Int):Prop:=PQ BW 162 [.G5 0 0] [cells L a0 e0 b0 n0] λr c=>∃a' e' b' n',c=[cells L a' e' b' n']/\∃G6 f s nm tk tl i m G9 Nx G0 HI,r=.agg [.HC (G6.map Gv),I f,I s,.HK nm,I tk,I tl,I i,I m,.HC (A4 G9),I Nx,.HC (G0.map BC),I HI]/\(Item.mk G6 (.mk f s nm tk tl i m G9 Nx) G0 HI).WF/\At L a'/\((Item.mk G6 (.mk f s nm tk tl i m G9 Nx) G0 HI).wt:Int)+mu L a' e'<=mu L a0 e0/\mu L a' e'<mu L a0 e0
def o4{s:St}{f s1 tk tl i m Nx HI:Int}{nm:BA}{nv kv sv:PV}{rn rk rs:LLP}(hn:nv.data=some (.HC rn))(hk:kv.data=some (.HC rk))(hs:sv.data=some (.HC rs)):
  (bif Bo 0 0 then QG (NF [.agg [nv,I f,I s1,.HK nm,I tk,I tl,I i,I m,kv,I Nx,sv,I HI]])else VO 0 s (NF [.agg [nv,I f,I s1,.HK nm,I tk,I tl,I i,I m,kv,I Nx,sv,I HI]]))=
   some (.agg [.HC rn,I f,I s1,.HK nm,I tk,I tl,I i,I m,.HC rk,I Nx,.HC rs,I HI]):=by
 have:KR [nv,I f,I s1,.HK nm,I tk,I tl,I i,I m,kv,I Nx,sv,I HI]=some [.HC rn,I f,I s1,.HK nm,I tk,I tl,I i,I m,.HC rk,I Nx,.HC rs,I HI]:=by
  simp only[KR,hn,hk,hs];rfl
 exact AhP
def TW{nm:BA}{Lm LR:List Hc}{Gx:List HM}{HE:List Item}{HI:Int}:(HF.mk nm Lm LR Gx HE HI).Gy=[.HK nm,.HC (Lm.map Ax),.HC (LR.map Ax),.HC (Gx.map Ao),.HC (HE.map Aq),I HI]:=by rw[HF.JP];rfl
def nq{l:List HF}:∀r∈l.map BC,r.length=6:=by intro r hr;exact Ahx
def Hi{l:List BA}:∀r∈l.map Gv,r.length=1:=AhU
section
variable{L:List PT} {a e b n a0 e0:Int}
def R0(hL:JM L)(ha:At L a){G0:List HF}{sv:PV}(hsv:sv.data=some (.HC (G0.map BC)))(oL:sv.Iu=true)(hw:∀x∈G0,x.WF)(II:G0.length<=16)(hW:(A7 G0:Int)+mu L a e<=mu L a0 e0)(hP:mu L a e<mu L a0 e0)
  {Ou:LP}(Jw:Ou.length=12){hp:HO}{nx:Nat}{aj:Int}:
  NQ 0 1 (λr c=>∃a' e' b' n',c=[cells L a' e' b' n']/\∃G6 f s nm tk tl i m G9 Nx G0 HI,r=.agg [.HC (G6.map Gv),I f,I s,.HK nm,I tk,I tl,I i,I m,.HC (A4 G9),I Nx,.HC (G0.map BC),I HI]/\(Item.mk G6 (.mk f s nm tk tl i m G9 Nx) G0 HI).WF/\At L a'/\((Item.mk G6 (.mk f s nm tk tl i m G9 Nx) G0 HI).wt:Int)+mu L a' e'<=mu L a0 e0/\mu L a' e'<mu L a0 e0)
   (.G5 0 0) (.G5 1 0) (.G5 2 0) (SU [.box (cells L a e b n),.box Ou,.box [.nil,I 0,I 0,.HK ⟨#[]⟩,I 0,I 0,I 0,I 0,.nil,I 0,sv,I aj]] hp nx):=by
 unfold NQ;refine Ib hL rfl ha λa1 e1 b1 h1=>?_;have sT:=h1.le ha;refine zv ?_;refine Gu (LY rfl rfl (by simp only[Cl,oL];rfl) Jw) ?_;refine HB Adp (o4 (rk:=[]) rfl rfl hsv) rfl ⟨_,_,_,_,rfl,[],0,0,⟨#[]⟩,0,0,0,0,[],0,G0,aj,rfl,.mk _ _ _ _ AD PI AA hw,h1.1,?_,AA⟩;simp[BE,Hh.wt,Hh.Il];omega
def AAR(hL:JM L){M:Int}(KH:∀a e b n,At L a->mu L a e<=M->e=0->PSt L a e b n){aj:Int}:∀(c:Nat) {a e b n:Int} (ha:At L a) (hm:mu L a e<=M) (hc:mu L a e<=c) (l:List HF) (hw:∀x∈l,x.WF) (II:l.length<=16) (hW:(A7 l:Int)+mu L a e<=mu L a0 e0) (hP:mu L a e<mu L a0 e0),
   ∃k,∀(hp:HO) (Ou:LP) (Jw:Ou.length=12),S2 0 1 (λr c=>∃a' e' b' n',c=[cells L a' e' b' n']/\∃G6 f s nm tk tl i m G9 Nx G0 HI,r=.agg [.HC (G6.map Gv),I f,I s,.HK nm,I tk,I tl,I i,I m,.HC (A4 G9),I Nx,.HC (G0.map BC),I HI]/\(Item.mk G6 (.mk f s nm tk tl i m G9 Nx) G0 HI).WF/\At L a'/\((Item.mk G6 (.mk f s nm tk tl i m G9 Nx) G0 HI).wt:Int)+mu L a' e'<=mu L a0 e0/\mu L a' e'<mu L a0 e0) k (.G5 0 0) (.G5 1 0) (.G5 2 0)
    (SU [.box (cells L a e b n),.box Ou,.box [.nil,I 0,I 0,.HK ⟨#[]⟩,I 0,I 0,I 0,I 0,.nil,I 0,.H6 3 (l.map BC),I aj],.Hm (l.map BC).length 6] hp 4):=by
 intro c
 induction c with
 |zero=>
  intro a e b n ha hm hc l hw II hW hP;have he:e≠0:=λh=>by have:=P9 ha h;omega
  exact AgG
 |succ c ih=>
  intro a e b n ha hm hc l hw II hW hP;by_cases he:e=0
  case neg=>
   exact AgG
  case pos=>
   have h2:=jM (e:=e) (b:=b) (n:=n) ha ⟨#[115,116,97,116,101]⟩;cases Yx:VC L a e ⟨#[115,116,97,116,101]⟩with
   |false=>
    rw[Yx]at h2;refine⟨1,λhp Ou Jw=>?_⟩;show Li _ _ _ _ _ _ _ _;unfold Li;refine zv ?_;refine Gw (λh=>?_) Ada;refine AbZ h2 ?_;refine Gw (λh=>?_) λh=>?_
    .obtain⟨r,c0,se,a1,e1,b1,n1,rfl,rfl,rfl,OR,rfl⟩:=Z0 (b:=b) (n:=n) (e:=e) hL ha (x:=12) AA;refine AbY se ?_;unfold SA;exact Aho
    .unfold SA;exact I3 (NQ 0 1 _ _ _ _) rfl rfl rfl rfl λK3=>R0 hL ha (G0:=l) rfl rfl hw II hW hP Jw
   |true=>
    rw[Yx]at h2;by_cases LL:(16:Int)<=((l.map BC).length:Int)
    .obtain⟨e1,b1,OR,K4⟩:=Oj (b:=b) (n:=n) (e:=e) hL ha LL;refine⟨1,λhp Ou Jw=>?_⟩;show Li _ _ _ _ _ _ _ _;unfold Li;refine zv ?_;refine Gw (λh=>?_) Ada;refine AbZ h2 ?_;refine AbZ K4 ?_;exact Aho
    .have K4:=Oi (b:=b) (n:=n) (e:=e) hL ha (EF.1 LL);obtain⟨r,cc,Jh,a2,e2,b2,n2,rfl,nm,Lm,LR,Gx,HE,OV,rfl,Uu,My,NZ⟩:=KH a e b n ha hm he;have AKK:e2=0->mu L a2 e2<mu L a e:=λh=>by simp only[BK]at NZ;omega
     have HV:(l++[HF.mk nm Lm LR Gx HE OV]).map BC=l.map BC++[[.HK nm,.HC (Lm.map Ax),.HC (LR.map Ax),.HC (Gx.map Ao),.HC (HE.map Aq),I OV]]:=by
      rw[Br,<- TW];rfl
     have fK:A7 (l++[HF.mk nm Lm LR Gx HE OV])=A7 l+(HF.mk nm Lm LR Gx HE OV).wt:=by rw[HF.Io];simp[A7]
     have Qy:∀x∈l++[HF.mk nm Lm LR Gx HE OV],x.WF:=λx hx=>by
      exact Afq
     obtain⟨k,hk⟩:=ih (e:=e2) (b:=b2) (n:=n2) My AcF Abw (l++[HF.mk nm Lm LR Gx HE OV]) Qy AcL AdS AdA;refine⟨k+1,λhp Ou Jw=>?_⟩;show Li _ _ _ _ _ _ _ _;unfold Li;refine zv ?_;refine Gw (λh=>?_) Ada;refine AbZ h2 ?_;refine AbZ K4 ?_;refine AYj Jh ?_;refine Aba (KG rfl rfl (Hl AB AA) (H8 nq) zh (.inr rfl)) ?_;refine⟨by kernel_rfl,?_⟩;rw[<- HV];exact Mc (S2 0 1 _ k _ _ _) rfl rfl rfl Abs rfl λK3=>hk K3 Ou Jw
def AAS(hL:JM L){M:Int}(KH:∀a e b n,At L a->mu L a e<=M->e=0->PSt L a e b n){aj:Int}:∀(c:Nat) {a e b n:Int} (ha:At L a) (hm:mu L a e<=M) (hc:mu L a e<=c) (hW:(A7 ([]:List HF):Int)+mu L a e<=mu L a0 e0) (hP:mu L a e<mu L a0 e0),
  ∃k,∀(hp:HO) (Ou:LP) (Jw:Ou.length=12),S2 0 1 (λr c=>∃a' e' b' n',c=[cells L a' e' b' n']/\∃G6 f s nm tk tl i m G9 Nx G0 HI,r=.agg [.HC (G6.map Gv),I f,I s,.HK nm,I tk,I tl,I i,I m,.HC (A4 G9),I Nx,.HC (G0.map BC),I HI]/\(Item.mk G6 (.mk f s nm tk tl i m G9 Nx) G0 HI).WF/\At L a'/\((Item.mk G6 (.mk f s nm tk tl i m G9 Nx) G0 HI).wt:Int)+mu L a' e'<=mu L a0 e0/\mu L a' e'<mu L a0 e0) k (.G5 0 0) (.G5 1 0) (.G5 2 0)
   (SU [.box (cells L a e b n),.box Ou,.box [.nil,I 0,I 0,.HK ⟨#[]⟩,I 0,I 0,I 0,I 0,.nil,I 0,.nil,I aj]] hp 3):=by
 intro c;intro a e b n ha hm hc hW hP;by_cases he:e=0
 case neg=>
  refine⟨1,λhp Ou Jw=>?_⟩;show Li _ _ _ _ _ _ _ _;unfold Li;refine zv ?_;refine Gw Ado λh=>?_;exact I3 (NQ 0 1 _ _ _ _) rfl rfl rfl rfl λK3=>R0 hL ha (G0:=[]) rfl rfl AD AD hW hP Jw
 case pos=>
  have h2:=jM (e:=e) (b:=b) (n:=n) ha ⟨#[115,116,97,116,101]⟩;cases Yx:VC L a e ⟨#[115,116,97,116,101]⟩with
  |false=>
   rw[Yx]at h2;obtain⟨r,c0,se,a1,e1,b1,n1,rfl,rfl,rfl,OR,rfl⟩:=Z0 (b:=b) (n:=n) (e:=e) hL ha (x:=12) AA;refine⟨1,λhp Ou Jw=>?_⟩;show Li _ _ _ _ _ _ _ _;unfold Li;refine zv ?_;refine Gw (λh=>?_) Ada;refine AbZ h2 ?_;refine Gw (λh=>?_) (λh=>by simp at h);refine AbY se ?_;unfold SA;exact Ahl
  |true=>
   rw[Yx]at h2;by_cases LL:(16:Int)<=(0:Int)
   .obtain⟨e1,b1,OR,K4⟩:=Oj (b:=b) (n:=n) (e:=e) hL ha LL;refine⟨1,λhp Ou Jw=>?_⟩;show Li _ _ _ _ _ _ _ _;unfold Li;refine zv ?_;refine Gw (λh=>?_) Ada;refine AbZ h2 ?_;refine AbZ K4 ?_;exact Ahl
   .have K4:=Oi (b:=b) (n:=n) (e:=e) hL ha (EF.1 LL);obtain⟨r,cc,Jh,a2,e2,b2,n2,rfl,nm,Lm,LR,Gx,HE,OV,rfl,Uu,My,NZ⟩:=KH a e b n ha hm he;have AKK:e2=0->mu L a2 e2<mu L a e:=λh=>by simp only[BK]at NZ;omega
    have HV:(([]:List HF)++[HF.mk nm Lm LR Gx HE OV]).map BC=[[.HK nm,.HC (Lm.map Ax),.HC (LR.map Ax),.HC (Gx.map Ao),.HC (HE.map Aq),I OV]]:=by
     rw[Br,<- TW];rfl
    have fK:A7 (([]:List HF)++[HF.mk nm Lm LR Gx HE OV])=A7 ([]:List HF)+(HF.mk nm Lm LR Gx HE OV).wt:=by rw[HF.Io];simp[A7]
    have Qy:∀x∈([]:List HF)++[HF.mk nm Lm LR Gx HE OV],x.WF:=λx hx=>by
     exact Ai9
    obtain⟨k,hk⟩:=AAR (a0:=a0) (e0:=e0) (aj:=aj) hL KH (mu L a2 e2).toNat (e:=e2) (b:=b2) (n:=n2) My AcF Abw (([]:List HF)++[HF.mk nm Lm LR Gx HE OV]) Qy AD (by rw[fK];simp only[A7];omega) AdA;refine⟨k+1,λhp Ou Jw=>?_⟩;show Li _ _ _ _ _ _ _ _;unfold Li;refine zv ?_;refine Gw (λh=>?_) Ada;refine AbZ h2 ?_;refine AbZ K4 ?_;refine AYj Jh ?_;refine Aba AeK ?_;refine⟨by kernel_rfl,?_⟩;rw[<- HV];exact Mc (S2 0 1 _ k _ _ _) rfl rfl rfl rfl rfl λK3=>hk K3 Ou Jw
end
end
section
open Go.Proofs
attribute [local irreducible] Ml Pb NW NQ SA
section
variable{L:List PT} {a e b n a0 e0:Int}
def Vl(hL:JM L)(ha:At L a){G6:List BA}{nv:PV}(hnv:nv.data=some (.HC (G6.map Gv)))(hns:nv.Iu=true)(h20:mu L a0 e0<=20000)(hW:(G6.length:Int)+mu L a e<=mu L a0 e0)(hP:mu L a e<mu L a0 e0)
  {Ou:LP}(Jw:Ou.length=12){hp:HO}{nx:Nat}{aj:Int}:
  NW 0 1 (λr c=>∃a' e' b' n',c=[cells L a' e' b' n']/\∃G6 f s nm tk tl i m G9 Nx G0 HI,r=.agg [.HC (G6.map Gv),I f,I s,.HK nm,I tk,I tl,I i,I m,.HC (A4 G9),I Nx,.HC (G0.map BC),I HI]/\(Item.mk G6 (.mk f s nm tk tl i m G9 Nx) G0 HI).WF/\At L a'/\((Item.mk G6 (.mk f s nm tk tl i m G9 Nx) G0 HI).wt:Int)+mu L a' e'<=mu L a0 e0/\mu L a' e'<mu L a0 e0)
   (.G5 0 0) (.G5 1 0) (.G5 2 0) (SU [.box (cells L a e b n),.box Ou,.box [nv,I 0,I 0,.HK ⟨#[]⟩,I 0,I 0,I 0,I 0,.nil,I 0,.nil,I aj]] hp nx):=by
 unfold NW;refine Ib hL rfl ha λa1 e1 b1 h1=>?_;have sT:=h1.le ha;refine(AA5 hL _ a1 e1 b1 n h1.1 (C3 _)).call rfl rfl λf2 s2 ax az bA i2 m2 MV OV a2 e2 b2 n2 Uu My NZ=>?_;refine zv ?_;refine Ib hL rfl My λa3 e3 b3 h3=>?_;have sU:=h3.le My;refine zv ?_;refine Gu (LY rfl rfl (by simp only[List.take,List.drop,List.cons_append,CX,CG,List.length_nil,Cl,hns];rfl) Jw) ?_;refine HB Adp (o4 (rs:=[]) hnv rfl rfl) rfl ⟨_,_,_,_,rfl,G6,f2,s2,ax,az,bA,i2,m2,MV,OV,[],aj,rfl,.mk _ _ _ _ AK Uu AD AD,h3.1,?_,AA⟩;simp only[BE,A7];omega
def QD(ha:At L a):PC BW 119 [.G5 0 0] [cells L a e b n] (.agg (IG L a).Gy) [cells L a e b n]:=by obtain⟨r,c,I5,a',e',b',n',hc,hr,h1,h2,h3,h4⟩:=ti (b:=b) (n:=n) (e:=e) (a:=a) ha;exact Age
def ADc(hL:JM L)(h20:mu L a0 e0<=20000){aj:Int}:∀(c:Nat) {a e b n:Int} (ha:At L a) (hc:mu L a e<=c) (l:List BA) (hW:(l.length:Int)+mu L a e<=mu L a0 e0) (hP:mu L a e<mu L a0 e0),
   ∃k,∀(hp:HO) (Ou:LP) (Jw:Ou.length=12),Mm 0 1 (λr c=>∃a' e' b' n',c=[cells L a' e' b' n']/\∃G6 f s nm tk tl i m G9 Nx G0 HI,r=.agg [.HC (G6.map Gv),I f,I s,.HK nm,I tk,I tl,I i,I m,.HC (A4 G9),I Nx,.HC (G0.map BC),I HI]/\(Item.mk G6 (.mk f s nm tk tl i m G9 Nx) G0 HI).WF/\At L a'/\((Item.mk G6 (.mk f s nm tk tl i m G9 Nx) G0 HI).wt:Int)+mu L a' e'<=mu L a0 e0/\mu L a' e'<mu L a0 e0) k (.G5 0 0) (.G5 1 0) (.G5 2 0)
    (SU [.box (cells L a e b n),.box Ou,.box [.H6 3 (l.map Gv),I 0,I 0,.HK ⟨#[]⟩,I 0,I 0,I 0,I 0,.nil,I 0,.nil,I aj],.Hm (l.map Gv).length 1] hp 4):=by
 intro c
 induction c with
 |zero=>
  intro a e b n ha hc l hW hP;have he:e≠0:=λh=>by have:=P9 ha h;omega
  exact Afl
 |succ c ih=>
  intro a e b n ha hc l hW hP;by_cases he:e=0
  case neg=>
   exact Afl
  case pos=>
   have UB:=QD (e:=e) (b:=b) (n:=n) ha
   have Jl:∃k,∀(hp:HO) (Ou:LP) (Jw:Ou.length=12),Ml 0 1 (λr c=>∃a' e' b' n',c=[cells L a' e' b' n']/\∃G6 f s nm tk tl i m G9 Nx G0 HI,r=.agg [.HC (G6.map Gv),I f,I s,.HK nm,I tk,I tl,I i,I m,.HC (A4 G9),I Nx,.HC (G0.map BC),I HI]/\(Item.mk G6 (.mk f s nm tk tl i m G9 Nx) G0 HI).WF/\At L a'/\((Item.mk G6 (.mk f s nm tk tl i m G9 Nx) G0 HI).wt:Int)+mu L a' e'<=mu L a0 e0/\mu L a' e'<mu L a0 e0) (Mm 0 1 (λr c=>∃a' e' b' n',c=[cells L a' e' b' n']/\∃G6 f s nm tk tl i m G9 Nx G0 HI,r=.agg [.HC (G6.map Gv),I f,I s,.HK nm,I tk,I tl,I i,I m,.HC (A4 G9),I Nx,.HC (G0.map BC),I HI]/\(Item.mk G6 (.mk f s nm tk tl i m G9 Nx) G0 HI).WF/\At L a'/\((Item.mk G6 (.mk f s nm tk tl i m G9 Nx) G0 HI).wt:Int)+mu L a' e'<=mu L a0 e0/\mu L a' e'<mu L a0 e0) k) (.G5 0 0) (.G5 1 0) (.G5 2 0)
    (SU [.box (cells L a e b n),.box Ou,.box [.H6 3 (l.map Gv),I 0,I 0,.HK ⟨#[]⟩,I 0,I 0,I 0,I 0,.nil,I 0,.nil,I aj],.Hm (l.map Gv).length 1] hp 4):=by
    obtain⟨w,a3,e3,b3,VA,Yt⟩:=kE (b:=b) (n:=n) (e:=e) hL ha;have UP:=Yt.1;have sU:=Yt.2.1 he
    have HV:(l++[w]).map Gv=l.map Gv++[[.HK w]]:=by
     rw[Br];rfl
    have hW':((l++[w]).length:Int)+mu L a3 e3<=mu L a0 e0:=by simp at hW⊢;omega
    cases cV:VC L a3 e3 ⟨#[44]⟩with
    |false=>
     refine⟨0,λhp Ou Jw=>?_⟩;unfold Ml;refine zv ?_;refine AYj VA ?_;refine Aba AeW ?_;refine⟨by kernel_rfl,?_⟩;refine AbZ (O5 hL UP cV) ?_;rw[<- HV];unfold Pb;refine Ib hL rfl UP λa9 e9 b9 h9=>?_;have hl9:=h9.le UP;exact I3 (NW 0 1 _ _ _ _) rfl rfl rfl rfl λK3=>Vl hL h9.1 (G6:=(l++[w])) rfl rfl h20 AA AA Jw
    |true=>
     obtain⟨he3,tu⟩:=NA hL UP cV;have H5:mu L (a3+1) e3<mu L a3 e3:=by rw[IE he3,IE he3];omega
     obtain⟨k,hk⟩:=ih (e:=e3) (b:=b3) (n:=n) tu Acs (l++[w]) AA AA;refine⟨k,λhp Ou Jw=>?_⟩;unfold Ml;refine zv ?_;refine AYj VA ?_;refine Aba AeW ?_;refine⟨by kernel_rfl,?_⟩;refine AbZ (O6 hL UP cV) ?_;rw[<- HV];exact Mc (Mm 0 1 _ k _ _ _) rfl rfl rfl Abs rfl λK3=>hk K3 Ou Jw
   by_cases Mv:(IG L a).kind=1
   .by_cases LL:(16:Int)<=((l.map Gv).length:Int)
    .obtain⟨e1,b1,OR,K4⟩:=Oj (b:=b) (n:=n) (e:=e) hL ha LL;refine⟨1,λhp Ou Jw=>?_⟩;show KX _ _ _ _ _ _ _ _;unfold KX;refine zv ?_;refine Gw (λh=>?_) Ada;refine AbZ UB ?_;refine Gw (λh=>?_) Ae8;refine zv ?_;refine AbZ K4 ?_;refine HB Adp rfl rfl ⟨_,_,_,_,rfl,l,0,0,⟨#[]⟩,0,0,0,0,[],0,[],aj,rfl,.mk _ _ _ _ AK PI AD AD,BP hL,?_,by rw[Lk OR];have:=SL (e:=e) ha;omega⟩;simp[BE,A7,Hh.wt,Hh.Il];rw[Lk OR];have:=SL (e:=e) ha;skip;omega
    .have K4:=Oi (b:=b) (n:=n) (e:=e) hL ha (EF.1 LL);obtain⟨k,hk⟩:=Jl;refine⟨k+1,λhp Ou Jw=>?_⟩;show KX _ _ _ _ _ _ _ _;unfold KX;refine zv ?_;refine Gw (λh=>?_) Ada;refine AbZ UB ?_;refine Gw (λh=>?_) Ae8;refine zv ?_;refine AbZ K4 ?_;exact AiT
   .obtain⟨k,hk⟩:=Jl;refine⟨k+1,λhp Ou Jw=>?_⟩;show KX _ _ _ _ _ _ _ _;unfold KX;refine zv ?_;refine Gw (λh=>?_) Ada;refine AbZ UB ?_;refine Gw (λh=>Zq AE Mv) λh=>?_;exact AiT
def ADd(hL:JM L)(h20:mu L a0 e0<=20000){aj:Int}:∀(c:Nat) {a e b n:Int} (ha:At L a) (hc:mu L a e<=c) (hW:(([]:List BA).length:Int)+mu L a e<=mu L a0 e0) (hP:mu L a e<mu L a0 e0),
  ∃k,∀(hp:HO) (Ou:LP) (Jw:Ou.length=12),Mm 0 1 (λr c=>∃a' e' b' n',c=[cells L a' e' b' n']/\∃G6 f s nm tk tl i m G9 Nx G0 HI,r=.agg [.HC (G6.map Gv),I f,I s,.HK nm,I tk,I tl,I i,I m,.HC (A4 G9),I Nx,.HC (G0.map BC),I HI]/\(Item.mk G6 (.mk f s nm tk tl i m G9 Nx) G0 HI).WF/\At L a'/\((Item.mk G6 (.mk f s nm tk tl i m G9 Nx) G0 HI).wt:Int)+mu L a' e'<=mu L a0 e0/\mu L a' e'<mu L a0 e0) k (.G5 0 0) (.G5 1 0) (.G5 2 0)
   (SU [.box (cells L a e b n),.box Ou,.box [.nil,I 0,I 0,.HK ⟨#[]⟩,I 0,I 0,I 0,I 0,.nil,I 0,.nil,I aj]] hp 3):=by
 intro c;intro a e b n ha hc hW hP;by_cases he:e=0
 case neg=>
  refine⟨1,λhp Ou Jw=>?_⟩;show KX _ _ _ _ _ _ _ _;unfold KX;refine zv ?_;refine Gw Ado λh=>?_;unfold Pb;refine Ib hL rfl ha λa9 e9 b9 h9=>?_;have hl9:=h9.le ha;exact I3 (NW 0 1 _ _ _ _) rfl rfl rfl rfl λK3=>Vl hL h9.1 (G6:=[]) rfl rfl h20 AA AA Jw
 case pos=>
  have UB:=QD (e:=e) (b:=b) (n:=n) ha
  have Jl:∃k,∀(hp:HO) (Ou:LP) (Jw:Ou.length=12),Ml 0 1 (λr c=>∃a' e' b' n',c=[cells L a' e' b' n']/\∃G6 f s nm tk tl i m G9 Nx G0 HI,r=.agg [.HC (G6.map Gv),I f,I s,.HK nm,I tk,I tl,I i,I m,.HC (A4 G9),I Nx,.HC (G0.map BC),I HI]/\(Item.mk G6 (.mk f s nm tk tl i m G9 Nx) G0 HI).WF/\At L a'/\((Item.mk G6 (.mk f s nm tk tl i m G9 Nx) G0 HI).wt:Int)+mu L a' e'<=mu L a0 e0/\mu L a' e'<mu L a0 e0) (Mm 0 1 (λr c=>∃a' e' b' n',c=[cells L a' e' b' n']/\∃G6 f s nm tk tl i m G9 Nx G0 HI,r=.agg [.HC (G6.map Gv),I f,I s,.HK nm,I tk,I tl,I i,I m,.HC (A4 G9),I Nx,.HC (G0.map BC),I HI]/\(Item.mk G6 (.mk f s nm tk tl i m G9 Nx) G0 HI).WF/\At L a'/\((Item.mk G6 (.mk f s nm tk tl i m G9 Nx) G0 HI).wt:Int)+mu L a' e'<=mu L a0 e0/\mu L a' e'<mu L a0 e0) k) (.G5 0 0) (.G5 1 0) (.G5 2 0)
   (SU [.box (cells L a e b n),.box Ou,.box [.nil,I 0,I 0,.HK ⟨#[]⟩,I 0,I 0,I 0,I 0,.nil,I 0,.nil,I aj]] hp 3):=by
   obtain⟨w,a3,e3,b3,VA,Yt⟩:=kE (b:=b) (n:=n) (e:=e) hL ha;have UP:=Yt.1;have sU:=Yt.2.1 he
   have HV:(([]:List BA)++[w]).map Gv=[[.HK w]]:=by
    rfl
   have hW':((([]:List BA)++[w]).length:Int)+mu L a3 e3<=mu L a0 e0:=by simp at hW⊢;omega
   cases cV:VC L a3 e3 ⟨#[44]⟩with
   |false=>
    refine⟨0,λhp Ou Jw=>?_⟩;unfold Ml;refine zv ?_;refine AYj VA ?_;refine Aba AeK ?_;refine⟨by kernel_rfl,?_⟩;refine AbZ (O5 hL UP cV) ?_;rw[<- HV];unfold Pb;refine Ib hL rfl UP λa9 e9 b9 h9=>?_;have hl9:=h9.le UP;exact I3 (NW 0 1 _ _ _ _) rfl rfl rfl rfl λK3=>Vl hL h9.1 (G6:=(([]:List BA)++[w])) rfl rfl h20 AA AA Jw
   |true=>
    obtain⟨he3,tu⟩:=NA hL UP cV;have H5:mu L (a3+1) e3<mu L a3 e3:=by rw[IE he3,IE he3];omega
    obtain⟨k,hk⟩:=ADc (a0:=a0) (e0:=e0) (aj:=aj) hL h20 (mu L (a3+1) e3).toNat (e:=e3) (b:=b3) (n:=n) tu Acs (([]:List BA)++[w]) AA AA;refine⟨k,λhp Ou Jw=>?_⟩;unfold Ml;refine zv ?_;refine AYj VA ?_;refine Aba AeK ?_;refine⟨by kernel_rfl,?_⟩;refine AbZ (O6 hL UP cV) ?_;rw[<- HV];exact Mc (Mm 0 1 _ k _ _ _) rfl rfl rfl rfl rfl λK3=>hk K3 Ou Jw
  by_cases Mv:(IG L a).kind=1
  .by_cases LL:(16:Int)<=(0:Int)
   .obtain⟨e1,b1,OR,K4⟩:=Oj (b:=b) (n:=n) (e:=e) hL ha LL;refine⟨1,λhp Ou Jw=>?_⟩;show KX _ _ _ _ _ _ _ _;unfold KX;refine zv ?_;refine Gw (λh=>?_) Ada;refine AbZ UB ?_;refine Gw (λh=>?_) Ae8;refine zv ?_;refine AbZ K4 ?_;refine HB Adp rfl rfl ⟨_,_,_,_,rfl,([]:List BA),0,0,⟨#[]⟩,0,0,0,0,[],0,[],aj,rfl,.mk _ _ _ _ AD PI AD AD,BP hL,?_,by rw[Lk OR];have:=SL (e:=e) ha;omega⟩;simp[BE,A7,Hh.wt,Hh.Il];rw[Lk OR];have:=SL (e:=e) ha;simp at hW;omega
   .have K4:=Oi (b:=b) (n:=n) (e:=e) hL ha (EF.1 LL);obtain⟨k,hk⟩:=Jl;refine⟨k+1,λhp Ou Jw=>?_⟩;show KX _ _ _ _ _ _ _ _;unfold KX;refine zv ?_;refine Gw (λh=>?_) Ada;refine AbZ UB ?_;refine Gw (λh=>?_) Ae8;refine zv ?_;refine AbZ K4 ?_;exact Aim
  .obtain⟨k,hk⟩:=Jl;refine⟨k+1,λhp Ou Jw=>?_⟩;show KX _ _ _ _ _ _ _ _;unfold KX;refine zv ?_;refine Gw (λh=>?_) Ada;refine AbZ UB ?_;refine Gw (λh=>Zq AE Mv) λh=>?_;exact Aim
end
end
section
open Go.Proofs
attribute [local irreducible] Ml Pb NW NQ SA
section
variable{L:List PT} {a e b n:Int}
def ABk(hL:JM L)(ha:At L a):mu L a e<=20000:=by have:=hL.le;unfold mu;unfold At at ha;split<;>omega
def AKd(hL:JM L){M:Int}(KH:∀a e b n,At L a->mu L a e<M->e=0->PSt L a e b n)(ha:At L a)(hm:mu L a e<=M)(he:e=0):PIt L a e b n:=by
 have hs:=QC hL ha;have h20:=ABk (e:=e) hL ha;refine AJL 0 rfl _ ?_;unfold ASD;refine zv ?_;refine Of rfl ha ?_;refine zv ?_;refine Qo rfl ha ?_;cases hi:VC L a e ⟨#[97,117,116,111,109,97,116,111,110]⟩with
 |true=>
  obtain⟨_,Me⟩:=NA hL ha hi;have H5:mu L (a+1) e<mu L a e:=by rw[IE he,IE he];omega
  refine zv ?_;refine Gw (λh=>?_) λh=>?_
  .have he0:=he;refine K5 hL AA rfl ha λe' b' he=>?_;refine zv ?_;refine HB Adp rfl rfl ⟨_,_,_,_,rfl,[],0,0,⟨#[]⟩,0,0,0,0,[],0,[],_,rfl,.mk _ _ _ _ AD PI AD AD,BP hL,?_,by rw[Lk he];exact P9 ha he0⟩;simp[BE,A7,Hh.wt,Hh.Il];rw[Lk he];exact SL ha
  .refine zv ?_;obtain⟨k,hk⟩:=AAS (a0:=a) (e0:=e) (aj:=(IG L a).HI) hL (M:=mu L (a+1) e) (λa e b n h1 h2 h3=>KH a e b n h1 AA h3) (mu L (a+1) e).toNat (a:=IntKind.i64.wrap (a+1)) (e:=e) (b:=b) (n:=IntKind.i64.wrap (n+1)) AM AN (by rw[hs];have:=SL (e:=e) Me;omega) (by rw[hs];simp only[A7];omega) (by rw[hs];exact H5);refine⟨k,?_⟩;exact I3 (S2 0 1 _ k _ _ _) rfl rfl rfl rfl λK3=>hk K3 _ rfl
 |false=>
  refine zv ?_;refine Mp hL rfl ha (λYx=>?_) λYx he Me=>?_
  .refine zv ?_;refine O1 hL rfl ha λw a1 e1 b1 h1=>?_;have sT:=h1.2.1 he;refine zv ?_;exact I3 (NW 0 1 _ _ _ _) rfl rfl rfl rfl λK3=>Vl hL h1.1 (G6:=[w]) rfl rfl h20 AB AA rfl
  .have H5:mu L (a+1) e<mu L a e:=by rw[IE he,IE he];omega
   refine zv ?_;obtain⟨k,hk⟩:=ADd (a0:=a) (e0:=e) hL h20 (aj:=(IG L a).HI) (mu L (a+1) e).toNat (a:=a+1) (e:=e) (b:=b) (n:=n) Me (by have:=SL (e:=e) Me;omega) AB H5;refine⟨k,?_⟩;exact I3 (Mm 0 1 _ k _ _ _) rfl rfl rfl rfl λK3=>hk K3 _ rfl
def OF{l:List Item}:∀r∈l.map Aq,r.length=12:=by intro r hr;exact Ahx
def ACe(hL:JM L)(ha:At L a):∃g:Bool,PC BW 161 [.G5 0 0] [cells L a e b n] (.bool g) [cells L a e b n]/\(g=true->e=0):=by
 obtain⟨r,c,I5,a',e',b',n',hc,h1,h2,h3,h4,h5|⟨h5,h6⟩⟩:=ACf (b:=b) (n:=n) (e:=e) hL ha
 .rw[h1,h2,h3,h4]at hc;rw[h5,hc]at I5;exact⟨false,I5,AD⟩
 .rw[h1,h2,h3,h4]at hc;rw[h5,hc]at I5;exact⟨true,I5,λ_=>h6⟩
def wE{G6:List BA}{f s tk tl i m Nx HI:Int}{nm:BA}{G9:List Hh}{G0:List HF}:(Item.mk G6 (.mk f s nm tk tl i m G9 Nx) G0 HI).Gy=[.HC (G6.map Gv),I f,I s,.HK nm,I tk,I tl,I i,I m,.HC (A4 G9),I Nx,.HC (G0.map BC),I HI]:=by rw[Item.JP];simp only[Item.G6,Item.e,Item.G0,Item.HI,Hh.Gy];rfl
def zP(hL:JM L){M:Int}(hit:∀a e b n,At L a->mu L a e<=M->e=0->PIt L a e b n){Q:PV->Int->Int->Int->Int->Prop}:∀(c:Nat) {a e b n:Int} (ha:At L a) (hm:mu L a e<=M) (hc:mu L a e<=c) (l:List Item) (hw:∀x∈l,x.WF) (II:l.length<=200) {eo:Nat} (XA:l.map Aq=[]\/eo=12)
   (hQ:∀(l':List Item) a' e' b' n',(∀x∈l',x.WF)->l'.length<=200->At L a'->(As l':Int)+mu L a' e'<=As l+mu L a e->Q (.H6 12 (l'.map Aq)) a' e' b' n'),
   ∃k,∀(hp:HO) (o1:Obj),br 12 1 (λr c=>∃a' e' b' n',c=[cells L a' e' b' n']/\Q r a' e' b' n') k (.G5 0 0) (.H6 2 (l.map Aq))
    (SU [.box (cells L a e b n),o1,.Hm (l.map Aq).length eo] hp 3):=by
 intro c
 induction c with
 |zero=>
  intro a e b n ha hm hc l hw II eo XA hQ;have he:e≠0:=λh=>by have:=P9 ha h;omega
  exact AgO
 |succ c ih=>
  intro a e b n ha hm hc l hw II eo XA hQ;by_cases he:e=0
  case neg=>
   exact AgO
  case pos=>
   obtain⟨g,hg,hge⟩:=ACe (b:=b) (n:=n) (e:=e) hL ha;cases g with
   |false=>
    obtain⟨r,c0,se,a1,e1,b1,n1,rfl,rfl,rfl,OR,rfl⟩:=Z0 (b:=b) (n:=n) (e:=e) hL ha (x:=12) AA;refine⟨1,λhp o1=>?_⟩;show Qi _ _ _ _ _ _ _;unfold Qi;refine zv ?_;refine Gw Ada λh=>?_;refine AbZ hg ?_;refine Gw (λh=>?_) λh=>?_
    .refine AbY se ?_;unfold eB;refine zv ?_;exact Ai1
    .unfold eB;refine zv ?_;refine HB rfl Aex rfl ⟨_,_,_,_,rfl,hQ _ _ _ _ _ hw II ha (C3 _)⟩
   |true=>
    by_cases LL:(200:Int)<=((l.map Aq).length:Int)
    .obtain⟨e1,b1,OR,K4⟩:=Oj (b:=b) (n:=n) (e:=e) hL ha LL;refine⟨1,λhp o1=>?_⟩;show Qi _ _ _ _ _ _ _;unfold Qi;refine zv ?_;refine Gw Ada λh=>?_;refine AbZ hg ?_;refine AbZ K4 ?_;exact Ai1
    .have K4:=Oi (b:=b) (n:=n) (e:=e) hL ha (EF.1 LL);obtain⟨r,cc,Jh,a2,e2,b2,n2,rfl,G6,f,s,nm,tk,tl,i,m,G9,Nx,G0,OV,rfl,Uu,My,NZ,AKK⟩:=hit a e b n ha hm he
     have HV:(l++[Item.mk G6 (.mk f s nm tk tl i m G9 Nx) G0 OV]).map Aq=l.map Aq++[[.HC (G6.map Gv),I f,I s,.HK nm,I tk,I tl,I i,I m,.HC (A4 G9),I Nx,.HC (G0.map BC),I OV]]:=by
      rw[Br,<- wE];rfl
     have fK:As (l++[Item.mk G6 (.mk f s nm tk tl i m G9 Nx) G0 OV])=As l+(Item.mk G6 (.mk f s nm tk tl i m G9 Nx) G0 OV).wt:=by rw[Item.Io];simp[As]
     have Qy:∀x∈l++[Item.mk G6 (.mk f s nm tk tl i m G9 Nx) G0 OV],x.WF:=λx hx=>by
      exact Afq
     obtain⟨k,hk⟩:=ih (e:=e2) (b:=b2) (n:=n2) My AA AA (l++[Item.mk G6 (.mk f s nm tk tl i m G9 Nx) G0 OV]) Qy AcL (eo:=12) (.inr rfl) λl' a' e' b' n' h1 h2 h3 h4=>hQ l' a' e' b' n' h1 h2 h3 Acp;refine⟨k+1,λhp o1=>?_⟩;show Qi _ _ _ _ _ _ _;unfold Qi;refine zv ?_;refine Gw Ada λh=>?_;refine AbZ hg ?_;refine AbZ K4 ?_;refine AbZ Jh ?_;refine pQ_v (KG rfl rfl (Hl AB AA) (H8 OF) rfl (XA.imp (λh=>by rw[h];rfl) λh=>h.symm)) ?_;rw[<- HV];exact I3 (br 12 1 _ k _ _) rfl rfl Abs rfl λK3=>hk K3 _
def AGW(hL:JM L){M:Int}(hit:∀a e b n,At L a->mu L a e<=M->e=0->PIt L a e b n)(ha:At L a)(hm:mu L a e<=M):PIs L a e b n:=by
 obtain⟨k,hk⟩:=zP hL hit (mu L a e).toNat (a:=a) (e:=e) (b:=b) (n:=n) ha hm AK [] AD AD (eo:=0) (.inl rfl)
  (Q:=λr a' e' b' n'=>∃l:List Item,r=.H6 12 (l.map Aq)/\(∀x∈l,x.WF)/\l.length<=200/\At L a'/\(As l:Int)+mu L a' e'<=mu L a e) λl' a' e' b' n' h1 h2 h3 h4=>⟨l',rfl,h1,h2,h3,by simpa[As]using h4⟩
 refine AJE 12 rfl _ ?_;unfold AR6;refine zv ?_;refine⟨k,?_⟩;exact I3 (br 12 1 _ k _ _) rfl rfl rfl rfl λK3=>hk K3 _
def ADR(hL:JM L)(fD:∀a e b n,At L a->PLs L a e b n):∀c:Nat,∀a e b n,At L a->mu L a e<=c->PIs L a e b n:=by
 intro c
 induction c using Nat.strongRecOn with
 |ind c ih=>
  intro a e b n ha hm;refine AGW hL (M:=c) (λa e b n ha hm he=>?_) ha hm;refine AKd hL (M:=c) (λa e b n ha hm he=>?_) ha hm he;have:=SL (e:=e) ha;exact AHl hL (M:=mu L a e) (λa1 e1 b1 n1 Me Yx=>ih (mu L a e).toNat AA a1 e1 b1 n1 Me AA) fD ha (C3 _) he
end
end
section
open Go.Proofs
def ACd{s:St}{nm:BA}{HI:Int}{bi:Nat}{v1 v2 v3:PV}{r1 r2 r3 ri:LLP}(h1:v1.data=some (.HC r1))(h2:v2.data=some (.HC r2))(h3:v3.data=some (.HC r3)):
  (bif Bo 0 0 then QG (NF [.agg [.HK nm,v1,v2,v3,.H6 bi ri,I HI]])else VO 0 s (NF [.agg [.HK nm,v1,v2,v3,.H6 bi ri,I HI]]))=
   some (.agg [.HK nm,.HC r1,.HC r2,.HC r3,.HC ri,I HI]):=by
 have:KR [.HK nm,v1,v2,v3,.H6 bi ri,I HI]=some [.HK nm,.HC r1,.HC r2,.HC r3,.HC ri,I HI]:=by
  simp only[KR,h1,h2,h3];rfl
 exact AhP
def PNd(L:List PT)(a0 e0 b0 n0:Int):Prop:=PQ BW 123 [.G5 0 0] [cells L a0 e0 b0 n0] λr c=>∃a' e' b' n',c=[cells L a' e' b' n']/\∃nm Je Ic Gx HE HI,r=.agg [.HK nm,.HC (Je.map Ao),.HC (Ic.map Ao),.HC (Gx.map Ao),.HC (HE.map Aq),I HI]/\(G8.mk nm Je Ic Gx HE HI).WF/\At L a'/\((G8.mk nm Je Ic Gx HE HI).wt:Int)+mu L a' e'<=mu L a0 e0
attribute [local irreducible] Ua Ub
section
variable{L:List PT} {a e b n a0 e0:Int}
def nK(hL:JM L)(fD:∀a e b n,At L a->PLs L a e b n)(ha:At L a){nm:BA}{Je Ic Gx:List HM}{v1 v2 v3:PV}(h1:v1.data=some (.HC (Je.map Ao)))(h2:v2.data=some (.HC (Ic.map Ao)))(h3:v3.data=some (.HC (Gx.map Ao)))
  (s1:v1.Iu=true)(s2:v2.Iu=true)(s3:v3.Iu=true)(w1:fu.WF Je)(w2:fu.WF Ic)(w3:fu.WF Gx)(fB:∀v∈Je,v.HH=[])(Ro:∀v∈Ic,v.HH=[])(hW:(1:Int)+Je.length+Ic.length+Gx.length+mu L a e<=mu L a0 e0){aj:Int}{hp:HO}{nx:Nat}{Ou:LP}(Jw:Ou.length=6):
  Ub 0 1 (λr c=>∃a' e' b' n',c=[cells L a' e' b' n']/\∃nm Je Ic Gx HE HI,r=.agg [.HK nm,.HC (Je.map Ao),.HC (Ic.map Ao),.HC (Gx.map Ao),.HC (HE.map Aq),I HI]/\(G8.mk nm Je Ic Gx HE HI).WF/\At L a'/\((G8.mk nm Je Ic Gx HE HI).wt:Int)+mu L a' e'<=mu L a0 e0)
   (.G5 0 0) (.G5 1 0) (.G5 2 0) (SU [.box (cells L a e b n),.box Ou,.box [.HK nm,v1,v2,v3,.nil,I aj]] hp (nx+3)):=by
 unfold Ub;refine Ib hL rfl ha λa1 e1 b1 h4=>?_;have sT:=h4.le ha;refine(ADR hL fD (mu L a1 e1).toNat a1 e1 b1 n h4.1 (by have:=SL (e:=e1) h4.1;omega)).call rfl rfl λr a2 e2 b2 n2 h5=>?_;obtain⟨l,rfl,hwl,II,My,NZ⟩:=h5;refine zv ?_;refine Ib hL rfl My λa3 e3 b3 h6=>?_;have sU:=h6.le My;refine zv ?_;refine Gu (LY rfl rfl (by simp only[Cl,s1,s2,s3];rfl) Jw) ?_;refine HB Adp (ACd h1 h2 h3) rfl ⟨_,_,_,_,rfl,nm,Je,Ic,Gx,l,aj,rfl,⟨w1,w2,w3,(show l.length<=100000 by omega),hwl,fB,Ro⟩,h6.1,?_⟩;simp only[G8.wt];omega
def p9(hL:JM L)(fD:∀a e b n,At L a->PLs L a e b n)(hds:∀a e b n,At L a->PDs L a e b n)(ha:At L a){nm:BA}{Je:List HM}{v1:PV}(h1:v1.data=some (.HC (Je.map Ao)))(s1:v1.Iu=true)(w1:fu.WF Je)(fB:∀v∈Je,v.HH=[])
  (hW:(1:Int)+Je.length+mu L a e<=mu L a0 e0){aj:Int}{hp:HO}{nx:Nat}{Ou:LP}(Jw:Ou.length=6):
  Ua 0 1 (λr c=>∃a' e' b' n',c=[cells L a' e' b' n']/\∃nm Je Ic Gx HE HI,r=.agg [.HK nm,.HC (Je.map Ao),.HC (Ic.map Ao),.HC (Gx.map Ao),.HC (HE.map Aq),I HI]/\(G8.mk nm Je Ic Gx HE HI).WF/\At L a'/\((G8.mk nm Je Ic Gx HE HI).wt:Int)+mu L a' e'<=mu L a0 e0)
   (.G5 0 0) (.G5 1 0) (.G5 2 0) (SU [.box (cells L a e b n),.box Ou,.box [.HK nm,v1,.nil,.nil,.nil,I aj]] hp (nx+3)):=by
 unfold Ua;refine Ib hL rfl ha λa1 e1 b1 h4=>?_;have sT:=h4.le ha;refine Ib hL rfl h4.1 λa2 e2 b2 h5=>?_;have jI:=h5.le h4.1;refine Ib hL rfl h5.1 λa3 e3 b3 h6=>?_;have sU:=h6.le h5.1;refine(hds a3 e3 b3 n h6.1).call rfl rfl λr a4 e4 b4 n4 h7=>?_;obtain⟨Ic,rfl,w2,Ro,tu,APN⟩:=h7;refine zv ?_;refine Ib hL rfl tu λa5 e5 b5 h8=>?_;have hl5:=h8.le tu;refine Mp hL rfl h8.1 (λYx=>?_) λYx he ha6=>?_
 .refine zv ?_;exact I3 (Ub 0 1 _ _ _ _) rfl rfl rfl rfl λK3=>nK hL fD h8.1 (Gx:=[]) h1 rfl rfl s1 rfl rfl w1 w2 ⟨AD,AD⟩ fB Ro AB Jw
 .have H5:mu L (a5+1) e5<mu L a5 e5:=by rw[IE he,IE he];omega
  refine zv ?_;refine(fD (a5+1) e5 b5 n4 ha6).call rfl rfl λr a7 e7 b7 n7 h9=>?_;obtain⟨Gx,rfl,w3,ha7,APO⟩:=h9;refine zv ?_;exact I3 (Ub 0 1 _ _ _ _) rfl rfl rfl rfl λK3=>nK hL fD ha7 (Gx:=Gx) h1 rfl rfl s1 rfl rfl w1 w2 w3 fB Ro AA Jw
def AKu(hL:JM L)(fD:∀a e b n,At L a->PLs L a e b n)(hds:∀a e b n,At L a->PDs L a e b n)(ha:At L a)(he:e=0):PNd L a e b n:=by
 refine AI2 0 rfl _ ?_;unfold ARu;refine zv ?_;refine Of rfl ha ?_;refine zv ?_;refine Ib hL rfl ha λa1 e1 b1 h1=>?_;have sT:=h1.2.1 he;refine O1 hL rfl h1.1 λnm a2 e2 b2 h2=>?_;have jI:=h2.le h1.1;refine zv ?_;refine Ib hL rfl h2.1 λa3 e3 b3 h3=>?_;have sU:=h3.le h2.1;refine Qo rfl h3.1 ?_;refine zv ?_;cases hi:VC L a3 e3 ⟨#[41]⟩
 .refine zv ?_;refine(hds a3 e3 b3 n h3.1).call rfl rfl λr a4 e4 b4 n4 h7=>?_;obtain⟨Je,rfl,w1,fB,tu,APN⟩:=h7;refine zv ?_;exact I3 (Ua 0 1 _ _ _ _) rfl rfl rfl rfl λK3=>p9 hL fD hds tu (Je:=Je) rfl rfl w1 fB AA rfl (nx:=1)
 .refine zv ?_;exact I3 (Ua 0 1 _ _ _ _) rfl rfl rfl rfl λK3=>p9 hL fD hds h3.1 (Je:=[]) rfl rfl ⟨AD,AD⟩ AD AB rfl (nx:=0)
end
end
section
open Go.Proofs
def oi{l:List G8}:∀r∈l.map A2,r.length=6:=AhU
attribute [local irreducible] PS
section
variable{L:List PT} {a e b n a0 e0:Int}
def Q5(hL:JM L)(ha:At L a){MG:List G8}{v:PV}(hv:v=.nil/\MG=[]\/∃b,v=.H6 b (MG.map A2))(hw:∀x∈MG,x.WF)(II:MG.length<=60)(hW:(A8 MG:Int)+mu L a e<=mu L a0 e0){v1:PV}{hp:HO}{nx:Nat}:
  PS 0 1 (λr c=>∃a' e' b' n',c=[cells L a' e' b' n']/\∃MG:List G8,r=.agg [.HC (MG.map A2)]/\(∀x∈MG,x.WF)/\MG.length<=60/\At L a'/\(A8 MG:Int)+mu L a' e'<=mu L a0 e0) (.G5 1 0) (.G5 2 0) (SU [.box (cells L a e b n),.box [v1],.box [v]] hp nx):=by
 unfold PS;rcases hv with⟨rfl,rfl⟩|⟨b,rfl⟩
 .refine zv ?_;refine HB Adp rfl rfl ⟨_,_,_,_,rfl,[],rfl,hw,II,ha,hW⟩
 .refine zv ?_;refine HB Adp rfl rfl ⟨_,_,_,_,rfl,MG,rfl,hw,II,ha,hW⟩
def jN{nm:BA}{Je Ic Gx:List HM}{HE:List Item}{HI:Int}:(G8.mk nm Je Ic Gx HE HI).Gy=[.HK nm,.HC (Je.map Ao),.HC (Ic.map Ao),.HC (Gx.map Ao),.HC (HE.map Aq),I HI]:=by simp only[A2,Item.Jc]
def ADg(hL:JM L)(L6:∀a e b n,At L a->e=0->PNd L a e b n):∀(c:Nat) {a e b n:Int} (ha:At L a) (hc:mu L a e<=c) (l:List G8) (hw:∀x∈l,x.WF) (II:l.length<=60) (hW:(A8 l:Int)+mu L a e<=mu L a0 e0),
   ∃k,∀(hp:HO) (v1:PV),UZ 0 1 (λr c=>∃a' e' b' n',c=[cells L a' e' b' n']/\∃MG:List G8,r=.agg [.HC (MG.map A2)]/\(∀x∈MG,x.WF)/\MG.length<=60/\At L a'/\(A8 MG:Int)+mu L a' e'<=mu L a0 e0) k (.G5 0 0) (.G5 1 0) (.G5 2 0)
    (SU [.box (cells L a e b n),.box [v1],.box [.H6 3 (l.map A2)],.Hm (l.map A2).length 6] hp 4):=by
 intro c
 induction c with
 |zero=>
  intro a e b n ha hc l hw II hW;have he:e≠0:=λh=>by have:=P9 ha h;omega
  exact Af0
 |succ c ih=>
  intro a e b n ha hc l hw II hW;by_cases he:e=0
  case neg=>
   exact Af0
  case pos=>
   have UB:=QD (e:=e) (b:=b) (n:=n) ha;have heq:(e==0)=true:=by simpa using he
   by_cases hk:(IG L a).kind=5
   .refine⟨1,λhp v1=>?_⟩;show KM _ _ _ _ _ _ _ _;unfold KM;refine zv ?_;rw[heq];refine zv ?_;refine AYj UB ?_;cases h:(IG L a).kind !=5
    case true=>exact Zq hk AE
    refine zv ?_;exact I3 (PS 0 1 _ _ _) rfl rfl rfl rfl λK3=>Q5 hL ha (MG:=l) (.inr ⟨_,rfl⟩) hw II hW
   .have Ta:((IG L a).kind !=5)=true:=by simpa using hk
    have h2:=jM (e:=e) (b:=b) (n:=n) ha ⟨#[110,111,100,101]⟩;cases Yx:VC L a e ⟨#[110,111,100,101]⟩with
    |false=>
     rw[Yx]at h2;obtain⟨r,c0,se,a1,e1,b1,n1,rfl,rfl,rfl,OR,rfl⟩:=Z0 (b:=b) (n:=n) (e:=e) hL ha (x:=12) AA;refine⟨1,λhp v1=>?_⟩;show KM _ _ _ _ _ _ _ _;unfold KM;refine zv ?_;rw[heq];refine zv ?_;refine AYj UB ?_;rw[Ta];refine zv ?_;refine AbZ h2 ?_;refine AbY se ?_;exact Ahr
    |true=>
     rw[Yx]at h2;by_cases LL:(60:Int)<=((l.map A2).length:Int)
     .obtain⟨e1,b1,OR,K4⟩:=Oj (b:=b) (n:=n) (e:=e) hL ha LL;refine⟨1,λhp v1=>?_⟩;show KM _ _ _ _ _ _ _ _;unfold KM;refine zv ?_;rw[heq];refine zv ?_;refine AYj UB ?_;rw[Ta];refine zv ?_;refine AbZ h2 ?_;refine AbZ K4 ?_;exact Ahr
     .have K4:=Oi (b:=b) (n:=n) (e:=e) hL ha (EF.1 LL);obtain⟨r,cc,Jh,a2,e2,b2,n2,rfl,nm,Je,Ic,Gx,HE,OV,rfl,Uu,My,NZ⟩:=L6 a e b n ha he;have oa:=NZ;simp only[G8.wt]at oa
      have HV:(l++[G8.mk nm Je Ic Gx HE OV]).map A2=l.map A2++[[.HK nm,.HC (Je.map Ao),.HC (Ic.map Ao),.HC (Gx.map Ao),.HC (HE.map Aq),I OV]]:=by
       rw[Br,<- jN];rfl
      have fK:A8 (l++[G8.mk nm Je Ic Gx HE OV])=A8 l+(G8.mk nm Je Ic Gx HE OV).wt:=by rw[G8.Io];simp[A8]
      have Qy:∀x∈l++[G8.mk nm Je Ic Gx HE OV],x.WF:=λx hx=>by
       exact Afq
      obtain⟨k,Jr⟩:=ih (e:=e2) (b:=b2) (n:=n2) My Acu (l++[G8.mk nm Je Ic Gx HE OV]) Qy AcL AdS;refine⟨k+1,λhp v1=>?_⟩;show KM _ _ _ _ _ _ _ _;unfold KM;refine zv ?_;rw[heq];refine zv ?_;refine AYj UB ?_;rw[Ta];refine zv ?_;refine AbZ h2 ?_;refine AbZ K4 ?_;refine AYj Jh ?_;refine Aba (KG rfl rfl (Hl AB AA) (H8 oi) zh (.inr rfl)) ?_;refine⟨by kernel_rfl,?_⟩;rw[<- HV];exact Mc (UZ 0 1 _ k _ _ _) rfl rfl rfl Abs rfl λK3=>Jr K3 v1
def ADh(hL:JM L)(L6:∀a e b n,At L a->e=0->PNd L a e b n):∀(c:Nat) {a e b n:Int} (ha:At L a) (hc:mu L a e<=c) (hW:(A8 ([]:List G8):Int)+mu L a e<=mu L a0 e0),
  ∃k,∀(hp:HO) (v1:PV),UZ 0 1 (λr c=>∃a' e' b' n',c=[cells L a' e' b' n']/\∃MG:List G8,r=.agg [.HC (MG.map A2)]/\(∀x∈MG,x.WF)/\MG.length<=60/\At L a'/\(A8 MG:Int)+mu L a' e'<=mu L a0 e0) k (.G5 0 0) (.G5 1 0) (.G5 2 0)
   (SU [.box (cells L a e b n),.box [v1],.box [.nil]] hp 3):=by
 intro c;intro a e b n ha hc hW;by_cases he:e=0
 case neg=>
  refine⟨1,λhp v1=>?_⟩;show KM _ _ _ _ _ _ _ _;unfold KM;refine zv ?_;cases h:e==0
  case true=>exact Zq AE he
  exact AhR
 case pos=>
  have UB:=QD (e:=e) (b:=b) (n:=n) ha;have heq:(e==0)=true:=by simpa using he
  by_cases hk:(IG L a).kind=5
  .refine⟨1,λhp v1=>?_⟩;show KM _ _ _ _ _ _ _ _;unfold KM;refine zv ?_;rw[heq];refine zv ?_;refine AYj UB ?_;cases h:(IG L a).kind !=5
   case true=>exact Zq hk AE
   exact AhR
  .have Ta:((IG L a).kind !=5)=true:=by simpa using hk
   have h2:=jM (e:=e) (b:=b) (n:=n) ha ⟨#[110,111,100,101]⟩;cases Yx:VC L a e ⟨#[110,111,100,101]⟩with
   |false=>
    rw[Yx]at h2;obtain⟨r,c0,se,a1,e1,b1,n1,rfl,rfl,rfl,OR,rfl⟩:=Z0 (b:=b) (n:=n) (e:=e) hL ha (x:=12) AA;refine⟨1,λhp v1=>?_⟩;show KM _ _ _ _ _ _ _ _;unfold KM;refine zv ?_;rw[heq];refine zv ?_;refine AYj UB ?_;rw[Ta];refine zv ?_;refine AbZ h2 ?_;refine AbY se ?_;exact Ahe
   |true=>
    rw[Yx]at h2;by_cases LL:(60:Int)<=(0:Int)
    .obtain⟨e1,b1,OR,K4⟩:=Oj (b:=b) (n:=n) (e:=e) hL ha LL;refine⟨1,λhp v1=>?_⟩;show KM _ _ _ _ _ _ _ _;unfold KM;refine zv ?_;rw[heq];refine zv ?_;refine AYj UB ?_;rw[Ta];refine zv ?_;refine AbZ h2 ?_;refine AbZ K4 ?_;exact Ahe
    .have K4:=Oi (b:=b) (n:=n) (e:=e) hL ha (EF.1 LL);obtain⟨r,cc,Jh,a2,e2,b2,n2,rfl,nm,Je,Ic,Gx,HE,OV,rfl,Uu,My,NZ⟩:=L6 a e b n ha he;have oa:=NZ;simp only[G8.wt]at oa
     have HV:(([]:List G8)++[G8.mk nm Je Ic Gx HE OV]).map A2=[[.HK nm,.HC (Je.map Ao),.HC (Ic.map Ao),.HC (Gx.map Ao),.HC (HE.map Aq),I OV]]:=by
      rw[Br,<- jN];rfl
     have fK:A8 (([]:List G8)++[G8.mk nm Je Ic Gx HE OV])=A8 ([]:List G8)+(G8.mk nm Je Ic Gx HE OV).wt:=by rw[G8.Io];simp[A8]
     have Qy:∀x∈([]:List G8)++[G8.mk nm Je Ic Gx HE OV],x.WF:=λx hx=>by
      exact Ai9
     obtain⟨k,Jr⟩:=ADg (a0:=a0) (e0:=e0) hL L6 (mu L a2 e2).toNat (e:=e2) (b:=b2) (n:=n2) My Acu (([]:List G8)++[G8.mk nm Je Ic Gx HE OV]) Qy AD (by rw[fK];simp only[A8];omega);refine⟨k+1,λhp v1=>?_⟩;show KM _ _ _ _ _ _ _ _;unfold KM;refine zv ?_;rw[heq];refine zv ?_;refine AYj UB ?_;rw[Ta];refine zv ?_;refine AbZ h2 ?_;refine AbZ K4 ?_;refine AYj Jh ?_;refine Aba AeK ?_;refine⟨by kernel_rfl,?_⟩;rw[<- HV];exact Mc (UZ 0 1 _ k _ _ _) rfl rfl rfl rfl rfl λK3=>Jr K3 v1
def z7(hL:JM L)(L6:∀a e b n,At L a->e=0->PNd L a e b n)(ha:At L a0):PQ BW 107 [.G5 0 0] [cells L a0 e0 b n] (λr c=>∃a' e' b' n',c=[cells L a' e' b' n']/\∃MG:List G8,r=.agg [.HC (MG.map A2)]/\(∀x∈MG,x.WF)/\MG.length<=60/\At L a'/\(A8 MG:Int)+mu L a' e'<=mu L a0 e0):=by obtain⟨k,hk⟩:=ADh (a0:=a0) (e0:=e0) hL L6 (mu L a0 e0).toNat (a:=a0) (e:=e0) (b:=b) (n:=n) ha (by have:=SL (e:=e0) ha;omega) (by simp[A8]);refine AIr 0 rfl _ ?_;unfold ARi;refine zv ?_;refine⟨k,?_⟩;exact I3 (UZ 0 1 _ k _ _ _) rfl rfl rfl rfl λK3=>hk K3 _
end
end
section
open Go.Proofs
def iO(x:Int):∃b,PC BW 139 [.int .u8 x] [] (.bool b) []:=by
 have:PQ BW 139 [.int .u8 x] [] (λr c=>c=[]/\∃w:Bool,r=.bool w):=by
  refine AI5 0 rfl _ ?_;unfold ARx;have e3:∀s,HZ s (Bw 0)=some []:=λs=>rfl;refine zv ?_;cases h1:decide (x>=97)<;>refine zv ?_
  all_goals try(cases h2:decide (x<=122)<;>refine zv ?_)
  all_goals try(cases h3:decide (x>=65)<;>refine zv ?_)
  all_goals try(cases h4:decide (x<=90)<;>refine zv ?_)
  all_goals try(cases h5:(x==95)<;>refine zv ?_)
  all_goals exact HB rfl rfl rfl ⟨rfl,_,rfl⟩
 exact Agh
def ea(x:Int):∃b,PC BW 140 [.int .u8 x] [] (.bool b) []:=by
 have:PQ BW 140 [.int .u8 x] [] (λr c=>c=[]/\∃w:Bool,r=.bool w):=by
  refine AI6 0 rfl _ ?_;unfold ARy;refine zv ?_;cases h1:decide (x>=48)<;>refine zv ?_
  all_goals try(cases h2:decide (x<=57)<;>refine zv ?_)
  all_goals exact HB rfl rfl rfl ⟨rfl,_,rfl⟩
 exact Agh
def APy(w:BA):∃b,PC BW 141 [.HK w] [] (.bool b) []:=by
 obtain⟨p,hp,hp0,hp9⟩:=so w
 have:PQ BW 141 [.HK w] [] (λr c=>c=[]/\∃w:Bool,r=.bool w):=by
  have e4:∀(x:Bool) (s:St),HZ s (Bw 0)=some []->KI 0 0 (λr c=>c=[]/\∃w:Bool,r=.bool w) (.bool x) s:=λx s hs=>by
   unfold KI;refine AWG ?_ ?_
   .exact AgQ
   .exact AgQ
  refine AI7 0 rfl _ ?_;unfold ARz;refine AbZ hp ?_;refine AWG ?_ ?_
  .exact Af7
  repeat' first
   |exact e4 _ _ rfl
   |(refine AWG ?_ ?_)
   |(apply Gu;· exact Ho rfl)
   |(apply Gu;· exact OM)
 exact Agh
def ALT(t:BA){i:Int}(h0:0<=i)(h1:i<t.size)(h8:t.size<=100000):∃n:Int,PC BW 144 [.HK t,I i] [] (I n) []/\0<=n/\n<=2/\i+n<=t.size:=by
 have hs:IntKind.i64.wrap (i+2)=i+2:=Hr AA AA;have hx:t[i.toNat]?=some (t[i.toNat]' AA):=by rw[getElem?_pos]
 have:PQ BW 144 [.HK t,I i] [] (λr c=>c=[]/\∃n:Int,r=I n/\0<=n/\n<=2/\i+n<=t.size):=by
  have e6:∀(x:Bool) (s:St),HZ s (Bw 0)=some []->NV 0 0 (λr c=>c=[]/\∃n:Int,r=I n/\0<=n/\n<=2/\i+n<=t.size) (.bool x) s:=λx s hs=>by
   unfold NV;refine AWG ?_ ?_
   .exact Ail
   .exact Ail
  have e0:∀(s:St),HZ s (Bw 0)=some []->kZ 0 0 (λr c=>c=[]/\∃n:Int,r=I n/\0<=n/\n<=2/\i+n<=t.size) (.HK t) (I i) s:=λs hs=>by
   unfold kZ;refine Gu (VF h0 hx) ?_
   repeat' first
    |exact e6 _ _ rfl
    |(refine AWG ?_ ?_)
    |(apply Gu;· exact Ho rfl)
    |(apply Gu;· exact OM)
  have e87:∀(x:Bool) (s:St),i+2<=t.size->HZ s (Bw 0)=some []->Rf 0 0 (λr c=>c=[]/\∃n:Int,r=I n/\0<=n/\n<=2/\i+n<=t.size) (.HK t) (I i) (.bool x) s:=λx s h hs=>by
   unfold Rf;refine AWG ?_ ?_
   .exact Ail
   .exact e0 _ hs
  refine AJA 0 rfl _ _ ?_;unfold AR2;refine zv ?_;refine Gw (λh=>?_) λh=>?_
  .have h:=Ot h;rw[hs]at h;refine zv ?_;have hn:M0 (I i)=some i.toNat:=by simp only[M0];rw[Ps h0]
   have fE:M0 (I (IntKind.i64.wrap (i+2)))=some (i+2).toNat:=by rw[hs];simp only[M0];rw[Ps AA]
   refine Gu (AMw (r1:=[I (IntKind.i64.wrap (i+2))]) (r2:=[]) (a:=some i.toNat) (c:=some (i+2).toNat) (by simp only[SV,hn]) (by simp only[SV,fE]) (by show(i+2).toNat<=t.size;omega) (by show i.toNat<=(i+2).toNat;omega)) ?_
   repeat' first
    |exact e87 _ _ h rfl
    |(refine AWG ?_ ?_)
    |(apply Gu;· exact Ho rfl)
    |(apply Gu;· exact OM)
  .exact e0 _ rfl
 exact AkA
end
section
open Go.Proofs
attribute [local irreducible] Pa Od dz dy
section
variable{Q:PV->LLP->Prop}
def ABq(hQ:∀(m:Int) (b:Bool),Q (.tuple [I m,.bool b]) [])(kind x y:Int)(s:St)(hs:HZ s (Bw 0)=some []):dz 0 0 Q (I kind) (I x) (I y) s:=by
 obtain⟨sg,hsg⟩:=dL kind;obtain⟨w,hw⟩:=ACR kind x;unfold dz;refine AbY hsg ?_;refine AWG ?_ ?_
 .refine pQ_v (AMv AA) ?_;refine AWG ?_ ?_
  .exact Afp
  .refine AbZ hw ?_;exact Afp
 .exact Akw
def AK0(hQ:∀(m:Int) (b:Bool),Q (.tuple [I m,.bool b]) [])(kind x w:Int)(hw:w<=64):∀(c:Nat),∃k,∀(i y:Int) (s:St),0<=i->w-i<=c->HZ s (Bw 0)=some []->eA 0 0 Q k (I kind) (I x) (I w) (I y) (I i) s:=by
 intro c
 induction c with
 |zero=>
  refine⟨1,?_⟩;intro i y s hi hc hs;show YK _ _ _ _ _ _ _ _ _ _;unfold YK;refine zv ?_;refine Gw Ad2 λ_=>?_;exact ABq hQ _ _ _ _ hs
 |succ c ih=>
  obtain⟨k,ih⟩:=ih;refine⟨k+1,?_⟩;intro i y s hi hc hs;show YK _ _ _ _ _ _ _ _ _ _;unfold YK;refine zv ?_;refine AWI (λh=>?_) ?_
  .have h:=Ot h;have zK:=Abg i;refine zv ?_;have h5:w-IntKind.i64.wrap (i+1)<=c:=by rw[zK];omega
   exact ih _ _ _ AA h5 hs
  .exact ABq hQ _ _ _ _ hs
def ABp(hQ:∀(m:Int) (b:Bool),Q (.tuple [I m,.bool b]) [])(kind x:Int)(s:St)(hs:HZ s (Bw 0)=some []):dy 0 0 Q (I kind) (I x) s:=by
 obtain⟨w,hw,hw0,zJ⟩:=xP kind;unfold dy;refine zv ?_
 have Jl:∀(g:Bool) (s:St),HZ s (Bw 0)=some []->He (.bool g) (pQ (IJ (I x)) s λv32 s33=>H2 (So [some v32,some (.bool true)]) λl=>IN 0 0 (NF l) s33 Q) (pQ (H7 BW .eql 3 (I kind) (I 5)) s λv34 s35=>He v34 (pQ (H7 BW .eql 3 (I x) (I (-9223372036854775808))) s35 λv36 s37=>He v36 (pQ (IJ (I x)) s37 λv38 s39=>H2 (So [some v38,some (.bool true)]) λl=>IN 0 0 (NF l) s39 Q) (pQ (KV .neg (I x)) s37 λv40 s41=>pQ (IJ v40) s41 λv42 s43=>H2 (So [some v42,some (.bool true)]) λl=>IN 0 0 (NF l) s43 Q)) (Hb BW 152 [(I kind)] s35 λv44 s45=>pQ (IJ v44) s45 λv46 s47=>(∃m,eA 0 0 Q m (I kind) (I x) v46 (I 1) (I 0) s47))):=by
  intro g s hs;refine AWG ?_ ?_
  .exact Akw
  .refine zv ?_;refine AWG ?_ ?_
   .refine zv ?_;refine AWG ?_ ?_
    .exact Akw
    .exact Akw
   .refine AbZ hw ?_;obtain⟨k,hk⟩:=AK0 hQ kind x w AA w.toNat
    exact⟨k,hk _ _ _ AA AA hs⟩
 cases h1:(kind==0)<;>refine zv ?_
 .exact Jl _ _ hs
 .exact Akw
def AGy(hQ:∀(m:Int) (b:Bool),Q (.tuple [I m,.bool b]) []){d:BA}{kind i:Int}{W:PV->PV->PV->F1}(hW:∀(x:Int) (s:St),HZ s (Bw 0)=some []->W (.HK d) (I kind) (I x) (I (IntKind.i64.wrap (i+1))) s)
  (x y:Int)(g:Bool)(s:St)(hs:HZ s (Bw 0)=some []):Od 0 0 Q W (.HK d) (I kind) (I x) (I i) (I y) (I kind) (.bool g) s:=by
 have zQ:∀(x:Int) (s:St),HZ s (Bw 0)=some []->Pa 0 0 Q W (.HK d) (I kind) (I x) (I i) s:=λx s hs=>by
  unfold Pa;refine zv ?_;exact hW _ _ hs
 unfold Od;refine AWG ?_ ?_
 .refine zv ?_;cases h1:decide (kind>0)<;>refine zv ?_
  .exact AkC
  .refine AWG ?_ ?_
   .exact Afp
   .exact AkC
 .refine zv ?_;refine AWG ?_ ?_
  .refine zv ?_
   have Jl:∀(g:Bool) (s:St),HZ s (Bw 0)=some []->He (.bool g) (H2 (So [some (I 0),some (.bool false)]) λl=>IN 0 0 (NF l) s Q) (pQ (H7 BW .mul 3 (I 10) (I x)) s λAH3 AAG=>pQ (H7 BW .sub 3 AH3 (I y)) AAG λAH4 AAH=>pQ (IJ AH4) AAH λAH5 AAI=>Pa 0 0 Q W (.HK d) (I kind) AH5 (I i) AAI):=λg s hs=>by
    exact Aky
   cases h1:decide (x< -922337203685477580)<;>refine zv ?_
   .cases h2:(x== -922337203685477580)<;>refine zv ?_
    .exact AkC
    .exact Jl _ _ hs
   .exact Afp
  .refine zv ?_;refine AWG ?_ ?_
   .refine zv ?_
    have Jl:∀(g:Bool) (s:St),HZ s (Bw 0)=some []->He (.bool g) (H2 (So [some (I 0),some (.bool false)]) λl=>IN 0 0 (NF l) s Q) (pQ (H7 BW .mul 3 (I 10) (I x)) s λAZW AY3=>pQ (H7 BW .add 3 AZW (I y)) AY3 λAZX AY4=>pQ (IJ AZX) AY4 λAZY AY5=>Pa 0 0 Q W (.HK d) (I kind) AZY (I i) AY5):=λg s hs=>by
     exact Aky
    cases h1:decide (x<0)<;>refine zv ?_
    .cases h3:decide (x>1844674407370955161)<;>refine zv ?_
     .cases h2:(x==1844674407370955161)<;>refine zv ?_
      .exact AkC
      .exact Jl _ _ hs
     .exact Afp
    .exact Afp
   .exact AkC
def AK1(hQ:∀(m:Int) (b:Bool),Q (.tuple [I m,.bool b]) [])(d:BA)(hd:d.size<=20)(kind:Int):∀(c:Nat),∃k,∀(i x:Int) (s:St),0<=i->d.size-i<=c->HZ s (Bw 0)=some []->Uc 0 0 Q k (.HK d) (I kind) (I x) (I i) s:=by
 intro c
 induction c with
 |zero=>
  refine⟨1,?_⟩;intro i x s hi hc hs;show YL _ _ _ _ _ _ _ _ _;unfold YL;refine zv ?_;refine Gw Ad2 λ_=>?_;exact ABp hQ _ _ _ hs
 |succ c ih=>
  obtain⟨k,ih⟩:=ih;refine⟨k+1,?_⟩;intro i x s hi hc hs;show YL _ _ _ _ _ _ _ _ _;unfold YL;refine zv ?_;refine AWI (λh=>?_) ?_
  .have h:=Ot h;have zK:=Abg i;have hx:d[i.toNat]?=some (d[i.toNat]' AA):=by rw[getElem?_pos]
   have j:=λ(x y:Int) (g:Bool) (s:St) (hs:HZ s (Bw 0)=some [])=>AGy (d:=d) (kind:=kind) (i:=i) (W:=Uc 0 0 Q k) hQ (λx s hs=>ih _ x s AA AA hs) x y g s hs;refine Gu (VF hi hx) ?_
   repeat' first
    |exact j _ _ _ _ hs
    |(refine AWG ?_ ?_)
    |(apply Gu;· exact Ho rfl)
    |(apply Gu;· exact AG7)
    |(apply Gu;· exact Jb)
    |(apply Gu;· exact OM)
  .exact ABp hQ _ _ _ hs
def ADi(d:BA)(hd8:d.size<=100000)(kind:Int):∃(m:Int) (b:Bool),PC BW 143 [.HK d,I kind] [] (.tuple [I m,.bool b]) []:=by
 have:PQ BW 143 [.HK d,I kind] [] (λr c=>c=[]/\∃(m:Int) (b:Bool),r=.tuple [I m,.bool b]):=by
  have hQ:∀(m:Int) (b:Bool),(λ(r:PV) (c:LLP)=>c=[]/\∃(m:Int) (b:Bool),r=.tuple [I m,.bool b]) (.tuple [I m,.bool b]) []:=λm b=>⟨rfl,m,b,rfl⟩
  refine AI9 0 rfl _ _ ?_;unfold AR1;refine zv ?_;cases h1:decide ((d.size:Int)>20)<;>refine zv ?_
  .have hd:d.size<=20:=by have:=Zy h1;omega
   have l88:∀s,HZ s (Bw 0)=some []->∃m,Uc 0 0 (λ(r:PV) (c:LLP)=>c=[]/\∃(m:Int) (b:Bool),r=.tuple [I m,.bool b]) m (.HK d) (I kind) (I 0) (I 0) s:=λs hs=>by
    obtain⟨k,hk⟩:=AK1 (Q:=λ(r:PV) (c:LLP)=>c=[]/\∃(m:Int) (b:Bool),r=.tuple [I m,.bool b]) hQ d hd kind d.size;exact⟨k,hk 0 0 s AA AA hs⟩
   cases h2:(kind==0)<;>refine zv ?_
   .exact l88 _ rfl
   .refine AWG ?_ ?_
    .exact HB rfl rfl rfl (hQ _ _)
    .exact l88 _ rfl
  .exact HB rfl rfl rfl (hQ _ _)
 obtain⟨r,c,I5,rfl,m,b,rfl⟩:=this;exact⟨m,b,I5⟩
end
end
section
open Go.Proofs
def SR{r:Option PV}{v u:PV}(h:r=some v):So [r,some u]=some [v,u]:=by subst h;rfl
def wR{s:St}{t:BA}{i k:Int}(h0:0<=i)(h1:i<=k)(h2:k<=t.size):I0 (Ig true true (.HK t) [I i,I k]) s (.HK (t.extract i.toNat k.toNat)) s [] []:=by
 have hn:M0 (I i)=some i.toNat:=by simp only[M0];rw[Ps h0]
 have fE:M0 (I k)=some k.toNat:=by simp only[M0];rw[Ps AA]
 exact AMw (r1:=[I k]) (r2:=[]) (a:=some i.toNat) (c:=some k.toNat) (by simp only[SV,hn]) (by simp only[SV,fE]) (by show k.toNat<=t.size;omega) (by show i.toNat<=k.toNat;omega)
attribute [local irreducible] Zl kX YH dw
section
variable{Q:PV->LLP->Prop} {t:BA} {i:Int}
def TQ(t:BA)(i:Int)(Q:PV->LLP->Prop):Prop:=∀(kind:Int) (Q7:BA) (n tk tl HI e:Int),(e=0->kind≠5/\0<=tk/\tk<=9/\tl=0/\i+Q7.size<=t.size)->
 Q (.tuple [.agg [I kind,.HK Q7,I n,I tk,I tl,I HI],I e]) []
def AHu(hQ:TQ t i Q)(h0:0<=i)(ht:t.size<=70000){k:Int}(bO:i<=k)(hk:k<=t.size){c0:LP}(hc:c0.length=6){hp:HO}:kX 0 0 Q (.HK t) (I i) (.G5 0 0) (I k) (SU [.box c0] hp 1):=by
 have hs:IntKind.i64.wrap (k-i)=k-i:=Hr AA AA;obtain⟨b,hb⟩:=APy (t.extract i.toNat k.toNat);have N1:i+(t.extract i.toNat k.toNat).size<=t.size:=by simp[Dg];omega
 unfold kX;refine zv ?_;refine Gw (λh=>?_) λh=>?_
 .refine zv ?_;refine HB Adt rfl rfl (hQ _ _ _ _ _ _ _ AA)
 .refine pQ_v (wR h0 bO hk) ?_;refine AbZ hb ?_;refine Gw (λh=>?_) λh=>?_
  .refine zv ?_;exact Ahy
  .exact Ahy
def AQi(hQ:TQ t i Q)(h0:0<=i)(ht:t.size<=70000){c0:LP}(hc:c0.length=6):∀c:Nat,∃K,∀(k:Int) (hp:HO),i<=k->k<=t.size->t.size-k<=c->Zm 0 0 Q K (.HK t) (I i) (.G5 0 0) (I k) (SU [.box c0] hp 1):=by
 intro c
 induction c with
 |zero=>
  refine⟨1,λk hp bO hk Ro=>?_⟩;show YJ _ _ _ _ _ _ _ _ _;unfold YJ;refine zv ?_;cases h:decide (k<↑t.size)
  .exact Aip
  .exact Zq (Ot h) AA
 |succ c ih=>
  obtain⟨K,ih⟩:=ih;refine⟨K+1,λk hp bO hk Ro=>?_⟩;show YJ _ _ _ _ _ _ _ _ _;unfold YJ;refine zv ?_;cases h:decide (k<↑t.size)
  .exact Aip
  .have H5:=Ot h;have hx:t[k.toNat]?=some (t[k.toNat]' AA):=by rw[getElem?_pos]
   have hs:=Abg k;obtain⟨b,hb⟩:=iO ((t[k.toNat]' AA).toNat);obtain⟨b2,MK⟩:=ea ((t[k.toNat]' AA).toNat);have go:∀K3,Zm 0 0 Q K (.HK t) (I i) (.G5 0 0) (I (IntKind.i64.wrap (k+1))) (SU [.box c0] K3 1):=λK3=>ih _ K3 AA AA AN;refine zv ?_;refine Aah (VF AA hx) ?_;refine AYj hb ?_;cases b
   .refine zv ?_;refine Aag (VF AA hx) ?_;refine AYj MK ?_;cases b2
    .exact Aip
    .exact Ai2
   .exact Ai2
def tg(hQ:TQ t i Q)(h0:0<=i)(ht:t.size<=70000){k m:Int}(bO:i<=k)(hkm:k<=m)(hm:m<=t.size){d:BA}(hd:d.size<=100000){c0:LP}(hc:c0.length=6){hp:HO}:YH 0 0 Q (.HK t) (I i) (.G5 0 0) (I k) (.HK d) (I m) (SU [.box c0] hp 1):=by
 obtain⟨p,cW,hp0,hp9⟩:=so (t.extract k.toNat m.toNat);obtain⟨x,ok,AXc⟩:=ADi d hd p;have N1:i+(t.extract i.toNat m.toNat).size<=t.size:=by simp[Dg];omega
 unfold YH;refine Gu (wR AA hkm hm) ?_;refine AbZ cW ?_
 have bad:∀(s:St) (e:Int),s.heap 0=some (.box c0)->e≠0->pQ (HS [(I 0),(.HK ⟨#[]⟩),(I 0),(I 0),(I 0),(I 0)] []) s (λAQp ALQ=>pQ (HQ 6 AQp (.G5 0 0)) ALQ λAVA AHe=>H2 (So [I8 (G4 6 (.G5 0 0)) AHe,some (I e)]) λl=>IN 0 0 (NF l) AHe Q):=by
  intro s e hs he;refine zv ?_;refine HB Adt rfl rfl (hQ _ _ _ _ _ _ _ λh=>Zq h he)
 have iB:∀(s:St),s.heap 0=some (.box c0)->Hb BW 143 [.HK d,I p] s (λALi ALR=>pQ (LG 0 ALi) ALR λAQq AQc=>pQ (LG 1 ALi) AQc λAZI AYr=>pQ (IJ AQq) AYr λAZJ AYs=>pQ (IJ AZI) AYs λAZK AYt=>pQ (KV .not AZK) AYt λAZM AU1=>He AZM (pQ (HS [(I 0),(.HK ⟨#[]⟩),(I 0),(I 0),(I 0),(I 0)] []) AU1 λAZO AYw=>pQ (HQ 6 AZO (.G5 0 0)) AYw λv144 AU2=>H2 (So [I8 (G4 6 (.G5 0 0)) AU2,some (I 11)]) λl=>IN 0 0 (NF l) AU2 Q) (pQ (Ig true true (.HK t) [I i,I m]) AU1 λAZR AYz=>pQ (HS [(I 0),(I 0)] [(some (0,1),I p)]) AYz λAZT AY1=>pQ (HS [(I 0),(.HK ⟨#[]⟩),(I 0),(I 0),(I 0),(I 0)] [(some (0,1),(I 2)),(some (1,1),AZR),(some (2,1),AZJ),(some (3,2),AZT),(some (5,1),I i)]) AY1 λAZV AY2=>pQ (HQ 6 AZV (.G5 0 0)) AY2 λv152 AU3=>H2 (So [I8 (G4 6 (.G5 0 0)) AU3,some (I 0)]) λl=>IN 0 0 (NF l) AU3 Q)):=by
  intro s hs;refine AbZ AXc ?_;cases ok
  .exact Aix
  .refine zv ?_;refine pQ_v (wR h0 AA hm) ?_;refine HB Adt rfl rfl (hQ _ _ _ _ _ _ _ (λ_=>⟨AA,hp0,hp9,rfl,N1⟩))
 cases h1:decide (m>k)<;>refine zv ?_
 .exact iB _ rfl
 .refine AWG ?_ ?_
  .exact bad _ _ rfl AA
  .exact iB _ rfl
def ALa(hQ:TQ t i Q)(h0:0<=i)(ht:t.size<=70000){k:Int}(bO:i<=k){d:BA}(hd:d.size<=100000){c0:LP}(hc:c0.length=6):∀c:Nat,∃K,∀(m:Int) (hp:HO),k<=m->m<=t.size->t.size-m<=c->YI 0 0 Q K (.HK t) (I i) (.G5 0 0) (I k) (.HK d) (I m) (SU [.box c0] hp 1):=by
 intro c
 induction c with
 |zero=>
  refine⟨1,λm hp hkm hm Ro=>?_⟩;show VW _ _ _ _ _ _ _ _ _ _ _;unfold VW;refine zv ?_;cases h:decide (m<↑t.size)
  .exact Ah7
  .exact Zq (Ot h) AA
 |succ c ih=>
  obtain⟨K,ih⟩:=ih;refine⟨K+1,λm hp hkm hm Ro=>?_⟩;show VW _ _ _ _ _ _ _ _ _ _ _;unfold VW;refine zv ?_;cases h:decide (m<↑t.size)
  .exact Ah7
  .have H5:=Ot h;have hx:t[m.toNat]?=some (t[m.toNat]' AA):=by rw[getElem?_pos]
   have hs:=Abg m;obtain⟨b,hb⟩:=iO ((t[m.toNat]' AA).toNat);obtain⟨b2,MK⟩:=ea ((t[m.toNat]' AA).toNat);have go:∀K3,YI 0 0 Q K (.HK t) (I i) (.G5 0 0) (I k) (.HK d) (I (IntKind.i64.wrap (m+1))) (SU [.box c0] K3 1):=λK3=>ih _ K3 AA AA AN;refine zv ?_;refine Aah (VF AA hx) ?_;refine AYj hb ?_;cases b
   .refine zv ?_;refine Aag (VF AA hx) ?_;refine AYj MK ?_;cases b2
    .exact Ah7
    .exact Ai2
   .exact Ai2
def AAW(hQ:TQ t i Q)(h0:0<=i)(ht:t.size<=70000){k:Int}(bO:i<=k)(hk:k<=t.size){c0:LP}(hc:c0.length=6){hp:HO}:dw 0 0 Q (.HK t) (I i) (.G5 0 0) (I k) (SU [.box c0] hp 1):=by obtain⟨K,hK⟩:=ALa hQ h0 ht bO (d:=t.extract i.toNat k.toNat) (by simp[Dg];omega) hc t.size;unfold dw;refine pQ_v (wR h0 bO hk) ?_;exact⟨K,hK k _ AA hk AA⟩
def ALb(hQ:TQ t i Q)(h0:0<=i)(ht:t.size<=70000){c0:LP}(hc:c0.length=6):∀c:Nat,∃K,∀(k:Int) (hp:HO),i<=k->k<=t.size->t.size-k<=c->VX 0 0 Q K (.HK t) (I i) (.G5 0 0) (I k) (SU [.box c0] hp 1):=by
 intro c
 induction c with
 |zero=>
  refine⟨1,λk hp bO hk Ro=>?_⟩;show VY _ _ _ _ _ _ _ _ _;unfold VY;refine zv ?_;cases h:decide (k<↑t.size)
  .exact Aio
  .exact Zq (Ot h) AA
 |succ c ih=>
  obtain⟨K,ih⟩:=ih;refine⟨K+1,λk hp bO hk Ro=>?_⟩;show VY _ _ _ _ _ _ _ _ _;unfold VY;refine zv ?_;cases h:decide (k<↑t.size)
  .exact Aio
  .have H5:=Ot h;have hx:t[k.toNat]?=some (t[k.toNat]' AA):=by rw[getElem?_pos]
   have hs:=Abg k;obtain⟨b2,MK⟩:=ea ((t[k.toNat]' AA).toNat);have go:∀K3,VX 0 0 Q K (.HK t) (I i) (.G5 0 0) (I (IntKind.i64.wrap (k+1))) (SU [.box c0] K3 1):=λK3=>ih _ K3 AA AA AN;refine zv ?_;refine Aah (VF AA hx) ?_;refine AYj MK ?_;cases b2
   .exact Aio
   .exact Ai2
def AHw(ht:t.size<=70000)(h0:0<=i)(h1:i<t.size):∃(kind:Int) (Q7:BA) (n tk tl HI e:Int),PC BW 118 [.HK t,I i] [] (.tuple [.agg [I kind,.HK Q7,I n,I tk,I tl,I HI],I e]) []/\
  (e=0->kind≠5/\0<=tk/\tk<=9/\tl=0/\i+Q7.size<=t.size):=by
 have hx:t[i.toNat]?=some (t[i.toNat]' AA):=by rw[getElem?_pos]
 obtain⟨b,hb⟩:=iO ((t[i.toNat]' AA).toNat);obtain⟨b2,MK⟩:=ea ((t[i.toNat]' AA).toNat);obtain⟨g,hg,hg0,T7,pX⟩:=ALT t h0 h1 AA
 have:PQ BW 118 [.HK t,I i] [] (λr c=>c=[]/\∃(kind:Int) (Q7:BA) (n tk tl HI e:Int),r=.tuple [.agg [I kind,.HK Q7,I n,I tk,I tl,I HI],I e]/\(e=0->kind≠5/\0<=tk/\tk<=9/\tl=0/\i+Q7.size<=t.size)):=by
  have hQ:TQ t i (λr c=>c=[]/\∃(kind:Int) (Q7:BA) (n tk tl HI e:Int),r=.tuple [.agg [I kind,.HK Q7,I n,I tk,I tl,I HI],I e]/\(e=0->kind≠5/\0<=tk/\tk<=9/\tl=0/\i+Q7.size<=t.size)):=
   λkind Q7 n tk tl HI e h=>⟨rfl,kind,Q7,n,tk,tl,HI,e,rfl,h⟩
  have l50:=AQi hQ h0 ht (c0:=[(I 0),(.HK ⟨#[]⟩),(I 0),(I 0),(I 0),(I 0)]) rfl t.size;have AYW:=ALb hQ h0 ht (c0:=[(I 0),(.HK ⟨#[]⟩),(I 0),(I 0),(I 0),(I 0)]) rfl t.size;obtain⟨K,hK⟩:=l50;obtain⟨K2,hK2⟩:=AYW;refine AIx 0 rfl _ _ ?_;unfold ARo;refine zv ?_;refine Gu (VF h0 hx) ?_;refine AbY hb ?_;refine AWG ?_ ?_
  .refine⟨K,?_⟩;exact TV (Zm 0 0 _ K _ _ _ _) rfl rfl λK3=>hK i K3 AA AA AA
  .refine Gu (VF h0 hx) ?_;refine AbY MK ?_;refine AWG ?_ ?_
   .refine⟨K2,?_⟩;exact TV (VX 0 0 _ K2 _ _ _ _) rfl rfl λK3=>hK2 i K3 AA AA AA
   .refine AbZ hg ?_;refine AWG ?_ ?_
    .exact Aix
    .refine zv ?_;have hs:IntKind.i64.wrap (i+g)=i+g:=Hr AA AA;refine pQ_v (wR h0 AA AA) ?_;refine HB Adt rfl rfl (hQ _ _ _ _ _ _ _ (λ_=>⟨AA,AA,AA,rfl,by simp[Dg];omega⟩))
 obtain⟨r,c,I5,rfl,kind,Q7,n,tk,tl,HI,e,rfl,h⟩:=this;exact⟨kind,Q7,n,tk,tl,HI,e,I5,h⟩
end
end
section
open Go.Proofs
def pI{A B:Prop}(h:He (.bool false) A B):B:=by unfold He at h;exact h.2 rfl
attribute [local irreducible] OP S1
section
variable{t:BA}
def AD6(ht:t.size<=70000):∀(c:Nat) (i:Int),0<=i->i<=t.size->t.size-i<=c->∃(i':Int) (K:Nat),i<=i'/\i'<=t.size/\(∀x,t[i.toNat]?=some x->x.toNat≠10->i<i')/\
  ∀(e n:Nat) (Q:PV->LLP->Prop) (dd w97:PV->PV->F1) (v:PV) (s:St),w97 (.HK t) v (I i') s->YB e n Q dd w97 K (.HK t) v (I i) s:=by
 intro c
 induction c with
 |zero=>
  intro i h0 h1 hc;exact Afo
 |succ c ih=>
  intro i h0 h1 hc;by_cases H5:i<t.size
  .have hx:t[i.toNat]?=some (t[i.toNat]' AA):=by rw[getElem?_pos]
   have hs:=Abg i;by_cases jD:(t[i.toNat]' AA).toNat=10
   .refine⟨i,1,AA,AA,?_,?_⟩
    .intro x hx2 MT;rw[hx]at hx2;cases hx2;exact Zq jD MT
    intro e n Q dd w97 v s hw;show Oy _ _ _ _ _ _ _ _ _ _;unfold Oy;refine zv ?_;cases h:decide (i<↑t.size)
    .exact Zq H5 (Zy h)
    .refine zv ?_;refine Aah (VF h0 hx) ?_;refine Gw (λh=>?_) λ_=>hw;simp[jD]at h
   .obtain⟨i',K,h2,h3,_,h4⟩:=ih (i+1) AA AA AA;refine⟨i',K+1,AA,h3,λ_ _ _=>by omega,?_⟩;intro e n Q dd w97 v s hw;show Oy _ _ _ _ _ _ _ _ _ _;unfold Oy;refine zv ?_;cases h:decide (i<↑t.size)
    .exact Zq H5 (Zy h)
    .refine zv ?_;refine Aah (VF h0 hx) ?_;refine AWH ?_ λh=>?_
     .refine zv ?_;rw[hs];exact h4 e n Q dd w97 v s hw
     .simp at h;omega
  .exact Afo
def AAL(ht:t.size<=70000):∀(c:Nat) (i:Int),0<=i->i<=t.size->t.size-i<=c->∃(i':Int) (K:Nat),i<=i'/\i'<=t.size/\
  ∀(e n:Nat) (Q:PV->LLP->Prop) (dd:PV->PV->F1) (v:PV) (s:St),OP e n Q dd (.HK t) v (I i') s->WL e n Q dd K (.HK t) v (I i) s:=by
 intro c
 induction c with
 |zero=>
  intro i h0 h1 hc;exact AhB
 |succ c ih=>
  intro i h0 h1 hc;by_cases H5:i<t.size
  case neg=>
   exact AhB
  case pos=>
   have hx:t[i.toNat]?=some (t[i.toNat]' AA):=by rw[getElem?_pos]
   have hs:=Abg i;by_cases hb:(t[i.toNat]' AA).toNat=32\/(t[i.toNat]' AA).toNat=9\/(t[i.toNat]' AA).toNat=10\/(t[i.toNat]' AA).toNat=13
   .obtain⟨i',K,h2,h3,h4⟩:=ih (i+1) AA AA AA;refine⟨i',K+1,AA,h3,?_⟩;intro e n Q dd v s hw;show Qe _ _ _ _ _ _ _ _ _;unfold Qe;refine zv ?_;refine AWH ?_ λh=>Zq H5 (Zy h);refine pQ_v (VF h0 hx) ?_;cases c1:((↑(t[i.toNat]' AA).toNat:Int)==32)<;>refine zv ?_
    .refine Aag (VF h0 hx) ?_;cases c2:((↑(t[i.toNat]' AA).toNat:Int)==9)<;>refine zv ?_
     .refine Aag (VF h0 hx) ?_;cases c3:((↑(t[i.toNat]' AA).toNat:Int)==10)<;>refine zv ?_
      .refine Aag (VF h0 hx) ?_;refine AWH ?_ λh=>?_
       .refine zv ?_;exact AiY
       .simp at c1 c2 c3 h;omega
      .exact AiY
     .exact AiY
    .exact AiY
   .have AUc:∀(i':Int) (K:Nat) (iB:Bool),(iB=true<->(t[i.toNat]' AA).toNat=45/\i+1<t.size/\∃x,t[(i+1).toNat]?=some x/\x.toNat=45)->
      (∀(e n:Nat) (Q:PV->LLP->Prop) (dd:PV->PV->F1) (v:PV) (s:St),OP e n Q dd (.HK t) v (I i') s->He (.bool iB) (∃m,YB e n Q dd (WL e n Q dd K) m (.HK t) v (I i) s) (OP e n Q dd (.HK t) v (I i) s))->
      ∀(e n:Nat) (Q:PV->LLP->Prop) (dd:PV->PV->F1) (v:PV) (s:St),OP e n Q dd (.HK t) v (I i') s->WL e n Q dd (K+1) (.HK t) v (I i) s:=by
     intro i' K iB hg hh e n Q dd v s hw;have hh:=hh e n Q dd v s hw;show Qe _ _ _ _ _ _ _ _ _;unfold Qe;refine zv ?_;refine AWH ?_ λh=>Zq H5 (Zy h);refine pQ_v (VF h0 hx) ?_;cases c1:((↑(t[i.toNat]' AA).toNat:Int)==32)
     case true=>simp at c1;omega
     refine zv ?_;refine Aag (VF h0 hx) ?_;cases c2:((↑(t[i.toNat]' AA).toNat:Int)==9)
     case true=>simp at c2;omega
     refine zv ?_;refine Aag (VF h0 hx) ?_;cases c3:((↑(t[i.toNat]' AA).toNat:Int)==10)
     case true=>simp at c3;omega
     refine zv ?_;refine Aag (VF h0 hx) ?_;refine AWI (λh=>?_) ?_
     .simp at h;omega
     refine pQ_v (VF h0 hx) ?_;cases c4:((↑(t[i.toNat]' AA).toNat:Int)==45)
     .have hgf:iB=false:=by
       cases iB
       .rfl
       .obtain⟨g1,_⟩:=hg.1 rfl;simp at c4;omega
      rw[hgf]at hh;refine zv ?_;exact pI hh
     .refine zv ?_;rw[hs];cases c5:decide (i+1<↑t.size)
      .have hgf:iB=false:=by
        cases iB
        .rfl
        .obtain⟨_,g1,_⟩:=hg.1 rfl;exact Zq g1 (Zy c5)
       rw[hgf]at hh;refine zv ?_;exact pI hh
      .have ADC:=Ot c5;have hx1:t[(i+1).toNat]?=some (t[(i+1).toNat]' AA):=by rw[getElem?_pos]
       refine zv ?_;rw[hs];refine Aah (VF AA hx1) ?_;cases c6:((↑(t[(i+1).toNat]' AA).toNat:Int)==45)
       .have hgf:iB=false:=by
         cases iB
         .rfl
         .obtain⟨_,_,x,g1,g2⟩:=hg.1 rfl;rw[hx1]at g1;cases g1;simp at c6;omega
        rw[hgf]at hh;exact hh
       .have y4:iB=true:=hg.2 ⟨by simp at c4;omega,ADC,_,hx1,by simp at c6;omega⟩;rw[y4]at hh;exact hh
    by_cases hg:(t[i.toNat]' AA).toNat=45/\i+1<t.size/\∃x,t[(i+1).toNat]?=some x/\x.toNat=45
    .obtain⟨i1,K1,g1,g2,g3,g4⟩:=AD6 ht t.size i h0 h1 AA;have g5:=g3 _ hx AA;obtain⟨i',K,h2,h3,h4⟩:=ih i1 AA AA AA;refine⟨i',K+1,AA,h3,AUc i' K true ⟨λ_=>hg,λ_=>rfl⟩ ?_⟩;intro e n Q dd v s hw;exact cI rfl ⟨K1,g4 e n Q dd _ v s (h4 e n Q dd v s hw)⟩
    .refine⟨i,0+1,AA,AA,AUc i 0 false ⟨λh=>AdK,λh=>Zq h hg⟩ ?_⟩;intro e n Q dd v s hw;exact cH rfl hw
end
end
section
open Go.Proofs
def jQ{l:List PT}:∀r∈l.map BH,r.length=6:=AhU
def ALd{l:List PT}{z:PT}(hl:l.length<20000)(hw:∀x∈l,x.kind≠5/\0<=x.tk/\x.tk<=9/\x.tl=0)(hz:z.kind=5)(hk:0<=z.tk/\z.tk<=9/\z.tl=0):JM (l++[z]):=by
 have key:∀a,At (l++[z]) a->(a<l.length/\IG (l++[z]) a∈l)\/(a=l.length/\IG (l++[z]) a=z):=by
  intro a ha;unfold At at ha;simp at ha;unfold IG;by_cases h:a<l.length
  .refine .inl ⟨h,?_⟩;have:a.toNat<l.length:=AA;rw[Bq,B5 this,BZ this];simp
  .refine .inr ⟨AA,?_⟩;have:a.toNat=l.length:=AA;rw[Bq,this];simp
 refine⟨AD,by simp;omega,?_,?_,?_⟩
 .intro a ha MT;rcases key a ha with⟨h,_⟩|⟨_,h⟩
  .simp;omega
  .rw[h]at MT;exact Zq hz MT
 .intro a ha;rcases key a ha with⟨_,h⟩|⟨_,h⟩
  .exact⟨(hw _ h).2.1,(hw _ h).2.2.1⟩
  .rw[h];exact⟨hk.1,hk.2.1⟩
 .intro a ha;rcases key a ha with⟨_,h⟩|⟨_,h⟩
  .exact(hw _ h).2.2.2
  .rw[h];exact hk.2.2
def AAC{r:Option PV}{v b c:PV}(h:r=some v):So [r,some b,some c]=some [v,b,c]:=by subst h;rfl
def wk{a b c:PV}:So [some a,some b,some c]=some [a,b,c]:=rfl
attribute [local irreducible] OP S1
section
variable{t:BA}
def xJ(ht:t.size<=65536){Q:PV->LLP->Prop}(hQ:∀(L:List PT) (HI e:Int),(e=0->JM L)->Q (.tuple [.HC (L.map BH),I HI,I e]) []):∀(c:Nat) (i:Int) (l:List PT),0<=i->i<=t.size->l.length<=20000->(20000:Int)-l.length<c->
  (∀x∈l,x.kind≠5/\0<=x.tk/\x.tk<=9/\x.tl=0)->∀{eo:Nat},(l.map BH=[]\/eo=6)->∃k,∀(hp:HO) (o0:Obj) (nx:Nat),Qd 0 0 Q k (.HK t) (.H6 1 (l.map BH)) (I i) (SU [o0,.Hm (l.map BH).length eo] hp (nx+2)):=by
 intro c
 induction c with
 |zero=>intro i l h0 h1 hl hc;omega
 |succ c ih=>
  intro i l h0 h1 hl hc hw eo XA;obtain⟨i',K,g1,g2,g3⟩:=AAL AA t.size i h0 h1 AA;have Xs:(l.map BH).length=l.length:=BX _;by_cases H5:i'<t.size
  .obtain⟨kind,Q7,n,tk,tl,HI,e,I5,ATg⟩:=AHw (t:=t) (i:=i') AA AA H5;by_cases he:e=0
   .obtain⟨k5,ktk,AYR,ktl,ksz⟩:=ATg he;by_cases LL:(20000:Int)<=((l.map BH).length:Int)
    .refine⟨1,λhp o0 nx=>?_⟩;show OY _ _ _ _ _ _ _ _;unfold OY;refine⟨K,g3 _ _ _ _ _ _ ?_⟩;unfold OP;refine zv ?_;refine AWH ?_ λh=>Zq H5 (Zy h);refine AbZ I5 ?_;refine Gw Ada λ_=>?_;refine zv ?_;exact AhT
    .have hf:Go.Ab.JE ((l.map BH).length+1) 56=true:=Hl AA AA;have HV:(l++[PT.mk kind Q7 n tk tl HI]).map BH=l.map BH++[[I kind,.HK Q7,I n,I tk,I tl,I HI]]:=by rw[Br];rfl
     have hs:IntKind.i64.wrap (i'+Q7.size)=i'+Q7.size:=Hr AA AA
     obtain⟨k,hk⟩:=ih (i'+Q7.size) (l++[PT.mk kind Q7 n tk tl HI]) AA AA AB AB (λx hx=>by
      rcases Bg.1 hx with hx|hx
      .exact hw x hx
      .rw[CS.1 hx];exact⟨k5,ktk,AYR,ktl⟩) (eo:=6) (.inr rfl)
     refine⟨k+1,λhp o0 nx=>?_⟩;show OY _ _ _ _ _ _ _ _;unfold OY;refine⟨K,g3 _ _ _ _ _ _ ?_⟩;unfold OP;refine zv ?_;refine AWH ?_ λh=>Zq H5 (Zy h);refine AbZ I5 ?_;refine Gw Ada λ_=>?_;refine zv ?_;unfold S1;refine zv ?_;refine Gw (λh=>Zq (Ot h) LL) λh=>?_;refine zv ?_;refine pQ_v Ad3 ?_;refine Gw (λh=>Zq AE k5) λ_=>?_;refine zv ?_;rw[<- HV,hs];exact XR (Qd 0 0 _ k _ _ _) (o0:=o0) zh Abs (by rfl) λK3=>hk K3 _ (nx+2)
   .refine⟨1,λhp o0 nx=>?_⟩;show OY _ _ _ _ _ _ _ _;unfold OY;refine⟨K,g3 _ _ _ _ _ _ ?_⟩;unfold OP;refine zv ?_;refine AWH ?_ λh=>Zq H5 (Zy h);refine AbZ I5 ?_;refine AWH ?_ Ado;refine zv ?_;refine HB wk rfl rfl (hQ [] _ _ λh=>Zq h he)
  .by_cases LL:(20000:Int)<=((l.map BH).length:Int)
   .refine⟨1,λhp o0 nx=>?_⟩;show OY _ _ _ _ _ _ _ _;unfold OY;refine⟨K,g3 _ _ _ _ _ _ ?_⟩;unfold OP;refine zv ?_;refine Gw Ae7 λh=>?_;exact AhT
   .have hf:Go.Ab.JE ((l.map BH).length+1) 56=true:=Hl AA AA;have HV:(l++[PT.mk 5 ⟨#[]⟩ 0 0 0 i']).map BH=l.map BH++[[I 5,.HK ⟨#[]⟩,I 0,I 0,I 0,I i']]:=by rw[Br];rfl
    refine⟨1,λhp o0 nx=>?_⟩;show OY _ _ _ _ _ _ _ _;unfold OY;refine⟨K,g3 _ _ _ _ _ _ ?_⟩;unfold OP;refine zv ?_;refine Gw Ae7 λh=>?_;unfold S1;refine zv ?_;refine Gw (λh=>Zq (Ot h) LL) λh=>?_;refine zv ?_;refine pQ_v Ad3 ?_;refine AWH ?_ (λh=>by simp at h);refine zv ?_;rw[<- show _=List.map BH l++[[I 5,.HK ⟨#[]⟩,I 0,I 0,I 0,I i']]from HV];refine HB wk rfl rfl (hQ _ _ _ (λ_=>ALd AA hw rfl ⟨C3 0,(show(0:Int)<=9 by omega),rfl⟩))
def AED(t:BA)(h31:(t.size:Int)<=9223372036854775807):∃(L:List PT) (HI e:Int),PC BW 106 [.HK t] [] (.tuple [.HC (L.map BH),I HI,I e]) []/\(e=0->JM L):=by
 have:PQ BW 106 [.HK t] [] (λr c=>c=[]/\∃(L:List PT) (HI e:Int),r=.tuple [.HC (L.map BH),I HI,I e]/\(e=0->JM L)):=by
  have hQ:∀(L:List PT) (HI e:Int),(e=0->JM L)->(λ(r:PV) (c:LLP)=>c=[]/\∃(L:List PT) (HI e:Int),r=.tuple [.HC (L.map BH),I HI,I e]/\(e=0->JM L)) (.tuple [.HC (L.map BH),I HI,I e]) []:=λL HI e h=>⟨rfl,L,HI,e,rfl,h⟩
  refine AIq 0 rfl _ ?_;unfold ARh;refine zv ?_;refine AWH ?_ λh=>?_
  .refine zv ?_;refine HB wk rfl rfl (hQ [] _ _ AA)
  .have h:=Zy h;obtain⟨k,hk⟩:=xJ (t:=t) (Q:=λ(r:PV) (c:LLP)=>c=[]/\∃(L:List PT) (HI e:Int),r=.tuple [.HC (L.map BH),I HI,I e]/\(e=0->JM L)) AA hQ 20001 0 [] AA AA AD AD AD (eo:=0) (.inl rfl);refine zv ?_;refine⟨k,?_⟩;exact XR (Qd 0 0 _ k _ _ _) rfl rfl rfl λK3=>hk K3 _ 0
 obtain⟨r,c,I5,rfl,L,HI,e,rfl,h⟩:=this;exact⟨L,HI,e,I5,h⟩
def AHM(fD:∀L,JM L->∀a e b n,At L a->PLs L a e b n)(hds:∀L,JM L->∀a e b n,At L a->PDs L a e b n)(t:BA)(h31:(t.size:Int)<=9223372036854775807):
  ∃(N:List G8) (HI e:Int),PC BW 83 [.HK t] [] (.tuple [.agg [.HC (N.map A2)],I HI,I e]) []/\(∀x∈N,x.WF)/\N.length<=60/\A8 N<=20000:=by
 obtain⟨L,Nx,e1,I5,hL⟩:=AED t h31
 have:PQ BW 83 [.HK t] [] (λr c=>c=[]/\∃(N:List G8) (HI e:Int),r=.tuple [.agg [.HC (N.map A2)],I HI,I e]/\(∀x∈N,x.WF)/\N.length<=60/\A8 N<=20000):=by
  refine ANt 0 rfl _ ?_;unfold c83;refine zv ?_;refine AbZ I5 ?_;refine AWH ?_ λh=>?_
  .refine zv ?_;exact AjW
  .have he:e1=0:=by simpa using h
   have hL:=hL he;have ha:At L 0:=by have:=hL.pos;constructor<;>omega
   obtain⟨r,cc,Jh,a2,e2,b2,n2,rfl,N,rfl,hN,II,My,Pe⟩:=z7 (e0:=0) (b:=0) (n:=0) hL (λa e b n ha he=>AKu hL (fD L hL) (hds L hL) ha he) ha;have h20:=ABk (e:=0) hL ha
   have NZ:(A8 N:Int)<=20000:=by
    have:0<=mu L a2 e2:=SL My;omega
   refine zv ?_;refine AbZ Jh ?_;refine AWG ?_ ?_
   .refine zv ?_;refine⟨by kernel_rfl,?_⟩;exact AjW
   .refine zv ?_;refine HB Aet rfl rfl ⟨rfl,N,_,_,rfl,hN,II,AA⟩
 obtain⟨r,c,I5,rfl,N,HI,e,rfl,h⟩:=this;exact⟨N,HI,e,I5,h⟩
end
end
section
open Go Go.RowKit Go.Proofs
structure Hd (L:List PT) (B0:Nat) (K:KK) (w:World) (a e b n:Int):Prop where
 an:AEq K w
 kb:K B0=none
 Hm:∃v0 ty,DR K (.HC (L.map BH)) v0/\w.heap[B0]?=some (.cells #[v0,.int .i64 a,.int .i64 e,.int .i64 b,.int .i64 n] ty (0,0))
structure St1 (B0:Nat) (K:KK) (w:World) (K':KK) (w':World):Prop where
 le:bB K K'
 old:∀B ks,K' B=some ks->B<w.heap.size->K B=some ks
 size:w.heap.size<=w'.heap.size
 Kv:∀B,B<w.heap.size->B≠B0->w'.heap[B]?=w.heap[B]?
 os:w'.os=w.os
 output:w'.output=w.output
def Sv.kH{K:KK}{a:PV}{l':LV}(h:Sv K [a] l'):∃v,l'=[v]/\DR K a v:=by cases h with|cons _ v _ l h1 h2=>cases h2;exact⟨v,rfl,h1⟩
def Sv.M7{K:KK}{a:PV}{l:LP}{l':LV}(h:Sv K (a::l) l'):∃v r,l'=v::r/\DR K a v/\Sv K l r:=by cases h with|cons _ v _ r h1 h2=>exact⟨v,r,rfl,h1,h2⟩
def Qr{K:KK}{k:IntKind}{i:Int}{v:Bc}(h:DR K (.int k i) v):v=.int k i:=by cases h;rfl
def AA0{K:KK}{c:Bool}{v:Bc}(h:DR K (.bool c) v):v=.bool c:=by cases h;rfl
def rY{K:KK}{c:BA}{v:Bc}(h:DR K (.HK c) v):v=.string c:=by cases h;rfl
def ACn{K:KK}{L:List PT}{a e b n:Int}{l:LV}(h:Sv K (cells L a e b n) l):∃v0,DR K (.HC (L.map BH)) v0/\l=[v0,.int .i64 a,.int .i64 e,.int .i64 b,.int .i64 n]:=by obtain⟨v0,l1,rfl,h0,h⟩:=h.M7;obtain⟨v1,l2,rfl,h1,h⟩:=h.M7;obtain⟨v2,l3,rfl,h2,h⟩:=h.M7;obtain⟨v3,l4,rfl,h3,h⟩:=h.M7;obtain⟨v4,rfl,h4⟩:=h.kH;rw[Qr h1,Qr h2,Qr h3,Qr h4];exact⟨v0,h0,rfl⟩
def Hd.IC{L:List PT}{B0:Nat}{K:KK}{w:World}{a e b n:Int}(h:Hd L B0 K w a e b n):Qa K w [B0] [cells L a e b n]:=by obtain⟨v0,ty,h0,h1⟩:=h.Hm;exact .cons _ _ _ _ _ ty h.kb h1 (.cons _ _ _ _ h0 (.cons _ _ _ _ (.int _ _) (.cons _ _ _ _ (.int _ _) (.cons _ _ _ _ (.int _ _) (.cons _ _ _ _ (.int _ _) .nil))))) .nil
def Hd.of{L:List PT}{B0:Nat}{K:KK}{w:World}{a e b n:Int}(hf:AEq K w)(h:Qa K w [B0] [cells L a e b n]):Hd L B0 K w a e b n:=by
 cases h with|cons _ _ _ _ vs ty hk hw hd hr=>
 obtain⟨v0,h0,h1⟩:=ACn hd;have Mi:vs=#[v0,.int .i64 a,.int .i64 e,.int .i64 b,.int .i64 n]:=by rw[<- Array.toArray_toList (xs:=vs),h1]
 exact⟨hf,hk,v0,ty,h0,by rw[hw,Mi]⟩
def xZ.jT{K K':KK}{w w':World}{B0:Nat}{r:PV}{c:LLP}{v:Bc}(h:xZ K w [B0] r c K' v w'):St1 B0 K w K' w':=⟨h.le,h.old,h.size,λB hB hn=>h.Kv B hB Ab1,h.os,h.output⟩
def Got(L:List PT)(B0:Nat)(K:KK)(w:World)(a e b n:Int)(r:PV)(en:Ending)(w':World):Prop:=∃K' v,en=.returned v/\Hd L B0 K' w' a e b n/\St1 B0 K w K' w'/\RR K' w' w.heap.size r v
section
variable{L:List PT} {B0:Nat} {K:KK} {w:World} {a e b n a' e' b' n':Int} {f:Nat} {r x y:PV} {u v:Value}
def hdN{args:LP}{HW:LV}(hd:Hd L B0 K w a e b n)(h:PC BW f (.G5 0 0::args) [cells L a e b n] r [cells L a' e' b' n'])(ha:ARs K [B0] args HW):E8 BW f (.pointer (some ⟨B0,0,none⟩)::HW).toArray w (Got L B0 K w a' e' b' n' r):=EM.1 ((h K w [B0] (.pointer (some ⟨B0,0,none⟩)::HW) hd.an hd.IC AD (.cons _ _ _ _ (.G5 0 B0 rfl) ha)).mono λen w' ⟨K',v,h1,h2⟩=>⟨K',v,h1,.of h2.an h2.IC,h2.jT,h2.val⟩)
def Xq(hd:Hd L B0 K w a e b n)(h:PC BW f [.G5 0 0] [cells L a e b n] r [cells L a' e' b' n']):E8 BW f #[.pointer (some ⟨B0,0,none⟩)] w (Got L B0 K w a' e' b' n' r):=hdN hd h .nil
def aq(hd:Hd L B0 K w a e b n)(h:PC BW f [.G5 0 0,x] [cells L a e b n] r [cells L a' e' b' n'])(hx:DR K x u):E8 BW f #[.pointer (some ⟨B0,0,none⟩),u] w (Got L B0 K w a' e' b' n' r):=hdN hd h (.cons _ _ _ _ (.data _ _ hx) .nil)
def hd2(hd:Hd L B0 K w a e b n)(h:PC BW f [.G5 0 0,x,y] [cells L a e b n] r [cells L a' e' b' n'])(hx:DR K x u)(hy:DR K y v):E8 BW f #[.pointer (some ⟨B0,0,none⟩),u,v] w (Got L B0 K w a' e' b' n' r):=hdN hd h (.cons _ _ _ _ (.data _ _ hx) (.cons _ _ _ _ (.data _ _ hy) .nil))
def MP{Iw:Nat}{c:Bool}{v:Bc}(h:RR K w Iw (.bool c) v):v=.bool c:=by cases h with|one _ _ h=>cases h with|data _ _ h=>exact AA0 h
def XQ{Iw:Nat}{k:IntKind}{c:Int}{v:Bc}(h:RR K w Iw (.int k c) v):v=.int k c:=by cases h with|one _ _ h=>cases h with|data _ _ h=>exact Qr h
def tW{Iw:Nat}{c:BA}{v:Bc}(h:RR K w Iw (.HK c) v):v=.string c:=by cases h with|one _ _ h=>cases h with|data _ _ h=>exact rY h
def Rt{Iw:Nat}{v:Bc}(h:RR K w Iw (.tuple []) v):v=.tuple #[]:=by
 cases h with
 |one _ _ h=>cases h with|data _ _ h=>cases h
 |tuple _ l h=>cases h;rfl
def UH{Iw:Nat}{t:PT}{v:Bc}(h:RR K w Iw (.agg t.Gy) v):v=.agg #[.int .i64 t.kind,.string t.Q7,.int .i64 t.n,.int .i64 t.tk,.int .i64 t.tl,.int .i64 t.HI]:=by
 cases h with|one _ _ h=>cases h with
 |data _ _ h=>cases h
 |agg _ l h=>
  obtain⟨v0,l1,rfl,h0,h⟩:=h.M7;obtain⟨v1,l2,rfl,h1,h⟩:=h.M7;obtain⟨v2,l3,rfl,h2,h⟩:=h.M7;obtain⟨v3,l4,rfl,h3,h⟩:=h.M7;obtain⟨v4,l5,rfl,h4,h⟩:=h.M7;obtain⟨v5,rfl,h5⟩:=h.kH;rw[Qr h0,rY h1,Qr h2,Qr h3,Qr h4,Qr h5]
def Hd.lt(h:Hd L B0 K w a e b n):B0<w.heap.size:=by obtain⟨v0,ty,_,h1⟩:=h.Hm;exact Dt h1
def Hd.c2(h:Hd L B0 K w a e b n):w.cell? ⟨B0,2,none⟩=some (.int .i64 e):=by obtain⟨v0,ty,_,h1⟩:=h.Hm;simp[GJ,h1]
def Hd.No{w':World}(h:Hd L B0 K w a e b n)(hs:∀B,B=B0\/(∃ks,K B=some ks)->w'.heap[B]?=w.heap[B]?):Hd L B0 K w' a e b n:=by
 obtain⟨v0,ty,h0,h1⟩:=h.Hm
 exact⟨λB ks hk=>by
  obtain⟨vs,ty,h2,h3⟩:=h.an B ks hk;exact⟨vs,ty,(hs B (.inr ⟨ks,hk⟩)).trans h2,h3⟩,h.kb,v0,ty,h0,(hs B0 (.inl rfl)).trans h1⟩
def Hd.klt(h:Hd L B0 K w a e b n){B:Nat}{ks:LV}(hk:K B=some ks):B<w.heap.size:=by obtain⟨vs,ty,h2,h3⟩:=h.an B ks hk;exact Dt h2
end
section
variable{w w':World} {lo:Nat} {e:TypeId} {size:Nat} {v:Value} {n:Nat} {xs:LV}
def SP(h:w.ownsRow lo e size v n xs):∃a c,v=.slice a n c:=by
 rcases h.2 with⟨rfl,rfl⟩|⟨g,cap,Zv,rfl,_⟩
 .exact⟨_,_,rfl⟩
 .exact⟨_,_,rfl⟩
def iW(h:w.ownsRow lo e size v n xs)(hs:∀b,v.ownBlock=some b->w'.heap[b]?=w.heap[b]?):w'.ownsRow lo e size v n xs:=by
 refine⟨h.1,?_⟩;rcases h.2 with hn|⟨g,cap,Zv,rfl,hb,hgg,Jl⟩
 .exact .inl hn
 .exact .inr ⟨g,cap,Zv,rfl,hb,(hs g rfl).trans hgg,Jl⟩
def Ut{b o:Nat}{Zv:AV0}{e:Bm}{fz:Nat×Nat}(h:w.heap[b]?=some (.cells Zv e fz))(u:Bc):
  (w.setCell ⟨b,o,none⟩ u).heap[b]?=some (.cells (Zv.setIfInBounds o u) e fz):=by
 have H5:=Dt h;have h':w.heap[b]=.cells Zv e fz:=by simpa[Bv H5]using h
 show(w.heap.modify b _)[b]?=_;rw[Bv AdJ,Array.getElem_modify_self,h'];rfl
def ADp(h:w.ownsRow lo e size v n xs){g:Nat}(hg:v.ownBlock=some g)(j:Nat)(u:Bc):(w.setCell ⟨g,j,none⟩ u).ownsRow lo e size v n (xs.set j u):=by
 refine⟨by rw[List.length_set];exact h.1,?_⟩;rcases h.2 with⟨rfl,_⟩|⟨g',cap,Zv,rfl,hb,hgg,h1,h2,h3,h4⟩
 .cases hg
 .cases hg;refine .inr ⟨g',cap,Zv.setIfInBounds j u,rfl,hb,Ut hgg u,h1,h2,by simpa using h3,?_⟩;rw[Array.toList_setIfInBounds,List.take_set,h4]
def SO(h:w.ownsRow lo e size v n xs){g:Nat}(hg:v.ownBlock=some g)(j:Nat)(hj:j<n*size):(∃u,w.cell? ⟨g,j,none⟩=some u)/\w.frozen? ⟨g,j,none⟩=false:=by
 rcases h.2 with⟨rfl,_⟩|⟨g',cap,Zv,rfl,hb,hgg,h1,h2,h3,h4⟩
 .cases hg
 .cases hg;have hjs:j<Zv.size:=by rw[h3];exact Cw hj (Cf _ h1)
  exact⟨⟨Zv[j],by rw[Db _ _ _ _ _ _ hgg];exact Bv hjs⟩,frozen_of_row _ _ _ _ _ hgg⟩
def Pu(w:World)(o:EN):(w.alloc o).heap[w.heap.size]?=some o:=by show(w.heap.push o)[w.heap.size]?=some o;simp
end
end
section
open Go.Proofs
section
variable(L:List PT) (n:Int)
inductive Tf:Int->Int->Int->Nat->List (ByteArray×Int)->Int->Int->Int->Bool->Prop
 |dO (a e b:Int) (m:Nat):e≠0->Tf a e b m [] a e b false
 |AC1 (a e b a1 e1 b1:Int) (m:Nat):At L a->e=0->(IG L a).kind=1->PC BW 122 [.G5 0 0,.int .i64 m,.int .i64 200] [cells L a e b n] (.bool true) [cells L a1 e1 b1 n]->Tf a e b m [] a1 e1 b1 true
 |one (a e b a1 e1 b1:Int) (m:Nat) (w:ByteArray):At L a->e=0->((IG L a).kind=1->PC BW 122 [.G5 0 0,.int .i64 m,.int .i64 200] [cells L a e b n] (.bool false) [cells L a e b n])->
  PC BW 146 [.G5 0 0] [cells L a e b n] (.HK w) [cells L a1 e1 b1 n]->PC BW 148 [.G5 0 0,.HK ⟨#[44]⟩] [cells L a1 e1 b1 n] (.bool false) [cells L a1 e1 b1 n]->Tf a e b m [(w,(IG L a).HI)] a1 e1 b1 false
 |JC (a e b a1 e1 b1 a2 a' e' b':Int) (m:Nat) (w:ByteArray) (r:List (ByteArray×Int)) (f:Bool):At L a->e=0->((IG L a).kind=1->PC BW 122 [.G5 0 0,.int .i64 m,.int .i64 200] [cells L a e b n] (.bool false) [cells L a e b n])->
  PC BW 146 [.G5 0 0] [cells L a e b n] (.HK w) [cells L a1 e1 b1 n]->PC BW 148 [.G5 0 0,.HK ⟨#[44]⟩] [cells L a1 e1 b1 n] (.bool true) [cells L a2 e1 b1 n]->Tf a2 e1 b1 (m+1) r a' e' b' f->Tf a e b m ((w,(IG L a).HI)::r) a' e' b' f
inductive kM:Int->Int->Int->Int->Int->Int->Int->Int->Prop
 |val (a e b a1 e1 b1 a2 e2 b2:Int) (kd:Int):PC BW 145 [.G5 0 0,.HK ⟨#[58]⟩] [cells L a e b n] (.tuple []) [cells L a1 e1 b1 n]->PC BW 163 [.G5 0 0] [cells L a1 e1 b1 n] (.int .i64 kd) [cells L a2 e2 b2 n]->
  PC BW 148 [.G5 0 0,.HK ⟨#[94]⟩] [cells L a2 e2 b2 n] (.bool false) [cells L a2 e2 b2 n]->kM a e b kd 0 a2 e2 b2
 |LM (a e b a1 e1 b1 a2 e2 b2 a3 a4 e4 b4:Int) (kd ln:Int):PC BW 145 [.G5 0 0,.HK ⟨#[58]⟩] [cells L a e b n] (.tuple []) [cells L a1 e1 b1 n]->PC BW 163 [.G5 0 0] [cells L a1 e1 b1 n] (.int .i64 kd) [cells L a2 e2 b2 n]->
  PC BW 148 [.G5 0 0,.HK ⟨#[94]⟩] [cells L a2 e2 b2 n] (.bool true) [cells L a3 e2 b2 n]->PC BW 164 [.G5 0 0] [cells L a3 e2 b2 n] (.int .i64 ln) [cells L a4 e4 b4 n]->kM a e b kd ln a4 e4 b4
inductive jW:Int->Int->Int->Nat->List HM->Int->Int->Int->Prop
 |AC1 (a e b a' e' b':Int) (m:Nat) (r:List (ByteArray×Int)):Tf L n a e b m r a' e' b' true->jW a e b m (r.map λx=>⟨x.1,0,0,[],x.2⟩) a' e' b'
 |mk (a e b a1 e1 b1 a' e' b':Int) (m:Nat) (r:List (ByteArray×Int)) (kd ln:Int):Tf L n a e b m r a1 e1 b1 false->kM L n a1 e1 b1 kd ln a' e' b'->jW a e b m (r.map λx=>⟨x.1,kd,ln,[],x.2⟩) a' e' b'
end
section
variable{L:List PT} {a e b n:Int}
def AGZ(hL:JM L)(ha:At L a):∃w a' e' b',PC BW 163 [.G5 0 0] [cells L a e b n] (.int .i64 w) [cells L a' e' b' n]/\0<=w/\w<=9/\WD L a e a' e':=by obtain⟨r,c,I5,a',e',b',n',hc,hn,⟨w,hr,h0,h9⟩,sQ⟩:=wG (b:=b) (n:=n) (e:=e) hL ha;rw[hn]at hc;rw[hr,hc]at I5;exact⟨w,a',e',b',I5,h0,h9,sQ⟩
def AFN(hL:JM L)(n:Int):∀(c:Nat) (a e b:Int) (m:Nat),At L a->mu L a e<=c->∃r a' e' b' f,Tf L n a e b m r a' e' b' f/\At L a'/\(r.length:Int)+mu L a' e'<=mu L a e:=by
 intro c
 induction c with
 |zero=>
  intro a e b m ha hc;have he:e≠0:=λh=>by have:=P9 ha h;omega
  exact⟨[],a,e,b,false,.dO a e b m he,ha,AD⟩
 |succ c ih=>
  intro a e b m ha hc;by_cases he:e=0
  case neg=>exact⟨[],a,e,b,false,.dO a e b m he,ha,AD⟩
  by_cases hf:(IG L a).kind=1/\(200:Int)<=m
  .obtain⟨e1,b1,OR,K4⟩:=Oj (b:=b) (n:=n) (e:=e) hL ha hf.2;exact⟨[],_,_,_,true,.AC1 a e b _ _ _ m ha he hf.1 K4,BP hL,by rw[Lk OR];have:=SL (e:=e) ha;simpa using this⟩
  .have LL:(IG L a).kind=1->PC BW 122 [.G5 0 0,.int .i64 m,.int .i64 200] [cells L a e b n] (.bool false) [cells L a e b n]:=λh1=>
    Oi hL ha (by have:¬(200:Int)<=m:=λh2=>hf ⟨h1,h2⟩;omega)
   obtain⟨w,a1,e1,b1,K4,XZ⟩:=kE (b:=b) (n:=n) (e:=e) hL ha;have sT:=XZ.2.1 he;cases sW:VC L a1 e1 ⟨#[44]⟩with
   |false=>exact⟨_,_,_,_,_,.one a e b _ _ _ m w ha he LL K4 (O5 hL XZ.1 sW),XZ.1,by simp;omega⟩
   |true=>
    obtain⟨OR,My⟩:=NA hL XZ.1 sW;have H5:mu L (a1+1) e1<mu L a1 e1:=by rw[IE OR,IE OR];omega
    obtain⟨r,a',e',b',f,h1,h2,h3⟩:=ih (a1+1) e1 b1 (m+1) My AA;exact⟨_,_,_,_,_,.JC a e b _ _ _ _ _ _ _ m w r f ha he LL K4 (O6 hL XZ.1 sW) h1,h2,by simp;omega⟩
def AFO(hL:JM L)(ha:At L a):∃kd ln a' e' b',kM L n a e b kd ln a' e' b'/\At L a'/\mu L a' e'<=mu L a e/\0<=kd/\kd<=9:=by
 obtain⟨a1,e1,b1,K4,XZ⟩:=aY (b:=b) (n:=n) (e:=e) hL ha ⟨#[58]⟩;obtain⟨kd,a2,e2,b2,Jh,hk0,hk9,Us⟩:=AGZ (b:=b1) (n:=n) (e:=e1) hL XZ.1;have sT:=XZ.le ha;have jI:=Us.le XZ.1;cases sW:VC L a2 e2 ⟨#[94]⟩with
 |false=>exact⟨kd,0,a2,e2,b2,.val _ _ _ _ _ _ _ _ _ _ K4 Jh (O5 hL Us.1 sW),Us.1,AA,hk0,hk9⟩
 |true=>
  obtain⟨ar,UP⟩:=NA hL Us.1 sW;have H5:mu L (a2+1) e2<mu L a2 e2:=by rw[IE ar,IE ar];omega
  obtain⟨ln,a4,e4,b4,vf,ez⟩:=ACF (b:=b2) (n:=n) (e:=e2) hL UP;have hl4:=ez.le UP;exact⟨kd,ln,a4,e4,b4,.LM _ _ _ _ _ _ _ _ _ _ _ _ _ _ _ K4 Jh (O6 hL Us.1 sW) vf,ez.1,AA,hk0,hk9⟩
def rV(hL:JM L)(ha:At L a)(m:Nat):∃l a' e' b',jW L n a e b m l a' e' b'/\At L a'/\(l.length:Int)+mu L a' e'<=mu L a e/\∀v∈l,0<=v.tk/\v.tk<=9/\v.HH=[]:=by
 obtain⟨r,a1,e1,b1,f,h1,h2,h3⟩:=AFN hL n (mu L a e).toNat a e b m ha AK;cases f with
 |true=>
  refine⟨_,_,_,_,.AC1 _ _ _ _ _ _ _ _ h1,h2,by simpa using h3,λv hv=>?_⟩;obtain⟨x,_,rfl⟩:=B8.1 hv;exact⟨by show(0:Int)<=0;omega,by show(0:Int)<=9;omega,rfl⟩
 |false=>
  obtain⟨kd,ln,a2,e2,b2,h4,h5,h6,h7,h8⟩:=AFO (n:=n) (b:=b1) (e:=e1) hL h2;refine⟨_,_,_,_,.mk _ _ _ _ _ _ _ _ _ _ _ _ _ h1 h4,h5,by simp;omega,λv hv=>?_⟩;obtain⟨x,_,rfl⟩:=B8.1 hv;exact⟨h7,h8,rfl⟩
def kM.pw{kd ln a' e' b':Int}(h:kM L n a e b kd ln a' e' b'):(ln=0/\∃a1 e1 b1,PC BW 145 [.G5 0 0,.HK ⟨#[58]⟩] [cells L a e b n] (.tuple []) [cells L a1 e1 b1 n]/\PC BW 163 [.G5 0 0] [cells L a1 e1 b1 n] (.int .i64 kd) [cells L a' e' b' n]/\
   PC BW 148 [.G5 0 0,.HK ⟨#[94]⟩] [cells L a' e' b' n] (.bool false) [cells L a' e' b' n])\/
  ∃a1 e1 b1 a2 e2 b2 a3,PC BW 145 [.G5 0 0,.HK ⟨#[58]⟩] [cells L a e b n] (.tuple []) [cells L a1 e1 b1 n]/\PC BW 163 [.G5 0 0] [cells L a1 e1 b1 n] (.int .i64 kd) [cells L a2 e2 b2 n]/\
   PC BW 148 [.G5 0 0,.HK ⟨#[94]⟩] [cells L a2 e2 b2 n] (.bool true) [cells L a3 e2 b2 n]/\PC BW 164 [.G5 0 0] [cells L a3 e2 b2 n] (.int .i64 ln) [cells L a' e' b' n]:=by
 cases h with
 |val=>exact .inl ⟨rfl,_,_,_,‹_›,‹_›,‹_›⟩
 |LM=>exact .inr ⟨_,_,_,_,_,_,_,‹_›,‹_›,‹_›,‹_›⟩
def Tf.pw{m:Nat}{r:List (BA×Int)}{a' e' b':Int}{f:Bool}(h:Tf L n a e b m r a' e' b' f):(e≠0/\r=[]/\a'=a/\e'=e/\b'=b/\f=false)\/
  (At L a/\e=0/\(IG L a).kind=1/\r=[]/\f=true/\PC BW 122 [.G5 0 0,.int .i64 m,.int .i64 200] [cells L a e b n] (.bool true) [cells L a' e' b' n])\/
  (At L a/\e=0/\((IG L a).kind=1->PC BW 122 [.G5 0 0,.int .i64 m,.int .i64 200] [cells L a e b n] (.bool false) [cells L a e b n])/\∃w,r=[(w,(IG L a).HI)]/\f=false/\
   PC BW 146 [.G5 0 0] [cells L a e b n] (.HK w) [cells L a' e' b' n]/\PC BW 148 [.G5 0 0,.HK ⟨#[44]⟩] [cells L a' e' b' n] (.bool false) [cells L a' e' b' n])\/
  (At L a/\e=0/\((IG L a).kind=1->PC BW 122 [.G5 0 0,.int .i64 m,.int .i64 200] [cells L a e b n] (.bool false) [cells L a e b n])/\∃w a1 e1 b1 a2 r',r=(w,(IG L a).HI)::r'/\
   PC BW 146 [.G5 0 0] [cells L a e b n] (.HK w) [cells L a1 e1 b1 n]/\PC BW 148 [.G5 0 0,.HK ⟨#[44]⟩] [cells L a1 e1 b1 n] (.bool true) [cells L a2 e1 b1 n]/\Tf L n a2 e1 b1 (m+1) r' a' e' b' f):=by
 cases h with
 |dO=>exact .inl ⟨‹_›,rfl,rfl,rfl,rfl,rfl⟩
 |AC1=>exact .inr (.inl ⟨‹_›,‹_›,‹_›,rfl,rfl,‹_›⟩)
 |one=>exact .inr (.inr (.inl ⟨‹_›,‹_›,‹_›,_,rfl,rfl,‹_›,‹_›⟩))
 |JC=>exact .inr (.inr (.inr ⟨‹_›,‹_›,‹_›,_,_,_,_,_,_,rfl,‹_›,‹_›,‹_›⟩))
end
end
section
open Go Go.RowKit Go.Proofs
def LD(l:List HM):LV:=l.flatMap λv=>[.string v.name,.int .i64 v.tk,.int .i64 v.tl,.slice none 0 0,.int .i64 v.HI]
def JY(l:List (BA×Int)):LV:=l.flatMap λx=>[.string x.1,.int .i64 0,.int .i64 0,.slice none 0 0,.int .i64 x.2]
structure Lf (lo B0:Nat) (K:KK) (w:World) (K':KK) (w':World):Prop where
 le:bB K K'
 old:∀B ks,K' B=some ks->K B=some ks\/lo<=B
 size:w.heap.size<=w'.heap.size
 Kv:∀B,B<lo->B≠B0->w'.heap[B]?=w.heap[B]?
 os:w'.os=w.os
 output:w'.output=w.output
def Lf.refl(lo B0:Nat)(K:KK)(w:World):Lf lo B0 K w K w:=⟨bB.refl K,λ_ _ h=> .inl h,Bd _,λ_ _ _=>rfl,rfl,rfl⟩
structure WE (L:List PT) (n:Int) (lo B0:Nat) (K0:KK) (w0:World) (K:KK) (w:World) (a e b:Int) (v:Bc) (m:Nat) (xs:List Bc):Prop where
 hd:Hd L B0 K w a e b n
 lf:Lf lo B0 K0 w0 K w
 Hm:w.ownsRow lo 77 5 v m xs
 kn:∀g,v.ownBlock=some g->K g=none
 nz:m=0->v=.slice none 0 0
section
variable{L:List PT} {n:Int} {lo B0:Nat} {K0 K K':KK} {w0 w w':World} {a e b a' e' b':Int} {v:Value} {m:Nat} {xs:LV}
def WE.step(h:WE L n lo B0 K0 w0 K w a e b v m xs)(hl:lo<=w0.heap.size)(hB:B0<lo)(hd:Hd L B0 K' w' a' e' b' n)(st:St1 B0 K w K' w'):WE L n lo B0 K0 w0 K' w' a' e' b' v m xs:=by
 have H5:∀g,v.ownBlock=some g->lo<=g/\g<w.heap.size:=λg hg=>D9 h.Hm g hg;have j9:=h.lf.size;refine⟨hd,⟨h.lf.le.trans st.le,λB ks hk=>?_,CD j9 st.size,λB oZ hn=>(st.Kv B AA hn).trans (h.lf.Kv B oZ hn),st.os.trans h.lf.os,st.output.trans h.lf.output⟩,iW h.Hm λg hg=>?_,λg hg=>?_,h.nz⟩
 .by_cases hB':B<w.heap.size
  .exact h.lf.old B ks (st.old B ks hk hB')
  .exact AiM
 .have:=H5 g hg;exact st.Kv g this.2 AA
 .cases hk:K' g with
  |none=>rfl
  |some ks=>
   have:=st.old g ks hk (H5 g hg).2;rw[h.kn g hg]at this;cases this
def WE.new(h:WE L n lo B0 K0 w0 K w a e b v m xs)(hl:lo<=w0.heap.size)(hB:B0<lo)(o:EN):WE L n lo B0 K0 w0 K (w.alloc o) a e b v m xs:=
 h.step hl hB (h.hd.No λB hb=>DX _ _ _ (by
  rcases hb with rfl|⟨ks,hk⟩
  .exact h.hd.lt
  .exact h.hd.klt hk)) ⟨bB.refl _,λ_ _ hk _=>hk,AD,λB H5 _=>DX _ _ _ H5,rfl,rfl⟩
def WE.ABx(h:WE L n lo B0 K0 w0 K w a e b v m xs)(hB:B0<lo){T:Nat}(hT:lo<=T)(hk:K T=none)(hv:v.ownBlock≠some T)(j:Nat)(u:Bc):WE L n lo B0 K0 w0 K (w.setCell ⟨T,j,none⟩ u) a e b v m xs:=
 ⟨h.hd.No λB hb=>Dl _ _ _ _ (by
   rcases hb with rfl|⟨ks,Ta⟩
   .exactλe=>by simp at e;omega
   .exactλe=>by simp at e;rw[e,hk]at Ta;cases Ta),⟨h.lf.le,h.lf.old,by simpa using h.lf.size,λB oZ hn=>(Dl _ _ _ _ (λe=>by simp at e;omega)).trans (h.lf.Kv B oZ hn),h.lf.os,h.lf.output⟩,
  iW h.Hm λg hg=>Dl _ _ _ _ (λe=>by simp at e;rw[e]at hg;exact hv hg),h.kn,h.nz⟩
def WE.set(h:WE L n lo B0 K0 w0 K w a e b v m xs)(hB:B0<lo){g:Nat}(hg:v.ownBlock=some g)(j:Nat)(u:Bc):WE L n lo B0 K0 w0 K (w.setCell ⟨g,j,none⟩ u) a e b v m (xs.set j u):=by
 have oZ:=(D9 h.Hm g hg).1;have hk:=h.kn g hg
 exact⟨h.hd.No λB hb=>Dl _ _ _ _ (by
   rcases hb with rfl|⟨ks,Ta⟩
   .exactλe=>by simp at e;omega
   .exactλe=>by simp at e;rw[e,hk]at Ta;cases Ta),⟨h.lf.le,h.lf.old,by simpa using h.lf.size,λB AXQ hn=>(Dl _ _ _ _ (λe=>by simp at e;omega)).trans (h.lf.Kv B AXQ hn),h.lf.os,h.lf.output⟩,
  ADp h.Hm hg j u,h.kn,h.nz⟩
def WE.vM(h:WE L n lo B0 K0 w0 K w a e b v m xs)(hl:lo<=w0.heap.size)(hB:B0<lo){w':World}(hg:w.grownBy w' v.ownBlock){g cap m' H:Nat}{Nn:LV}(Lr:w'.ownsRow lo 77 5 (.slice (some ⟨g,0,none⟩) m' cap) m' Nn)(Pp:v.ownBlock=some g\/g=H)(hH:w.heap.size=H)(hm:m'≠0):
  WE L n lo B0 K0 w0 K w' a e b (.slice (some ⟨g,0,none⟩) m' cap) m' Nn:=by
 have j9:=h.lf.size;have hv:∀B,v.ownBlock=some B->lo<=B/\K B=none:=λB hb=>⟨(D9 h.Hm B hb).1,h.kn B hb⟩
 refine⟨h.hd.No λB hb=>hg.block B ?_ ?_,⟨h.lf.le,h.lf.old,CD j9 hg.size,λB oZ hn=>(hg.block B AA (λe=>by have:=(hv B e.symm).1;omega)).trans (h.lf.Kv B oZ hn),hg.os.trans h.lf.os,hg.output.trans h.lf.output⟩,Lr,λg' hg'=>?_,λe=>Zq e hm⟩
 .rcases hb with rfl|⟨ks,hk⟩
  .exact h.hd.lt
  .exact h.hd.klt hk
 .intro e;obtain⟨h1,h2⟩:=hv B e.symm;rcases hb with rfl|⟨ks,hk⟩
  .omega
  .rw[h2]at hk;cases hk
 .have:g'=g:=by simpa[GK]using hg'.symm
  rw[this];rcases Pp with Pp|rfl
  .exact(hv g Pp).2
  .cases hk:K g with
   |none=>rfl
   |some ks=>have:=h.hd.klt hk;omega
structure xQ (L:List PT) (n:Int) (lo B0:Nat) (K0:KK) (w0:World) (K:KK) (w:World) (a e b:Int) (v:Bc) (m:Nat) (xs:List Bc) (T:Nat) (kd ln:Int):Prop where
 i:WE L n lo B0 K0 w0 K w a e b v m xs
 lo:lo<=T
 cell:w.heap[T]?=some (.cells #[.int .i64 kd,.int .i64 ln] 74 (0,0))
 kn:K T=none
 ne:v.ownBlock≠some T
def WE.t(h:WE L n lo B0 K0 w0 K w a e b v m xs)(hl:lo<=w0.heap.size)(hB:B0<lo)(kd ln:Int):xQ L n lo B0 K0 w0 K (w.alloc (.cells #[.int .i64 kd,.int .i64 ln] 74)) a e b v m xs w.heap.size kd ln:=by
 refine⟨h.new hl hB _,CD hl h.lf.size,Pu _ _,?_,λe=>?_⟩
 .cases hk:K w.heap.size with
  |none=>rfl
  |some ks=>have:=h.hd.klt hk;omega
 .have:=(D9 h.Hm _ e).2;omega
def xQ.step{T:Nat}{kd ln:Int}(h:xQ L n lo B0 K0 w0 K w a e b v m xs T kd ln)(hl:lo<=w0.heap.size)(hB:B0<lo)(hd:Hd L B0 K' w' a' e' b' n)(st:St1 B0 K w K' w'):xQ L n lo B0 K0 w0 K' w' a' e' b' v m xs T kd ln:=by
 have H5:=Dt h.cell;have oZ:=h.lo;refine⟨h.i.step hl hB hd st,oZ,(st.Kv T H5 AA).trans h.cell,?_,h.ne⟩;cases hk:K' T with
 |none=>rfl
 |some ks=>have:=st.old T ks hk H5;rw[h.kn]at this;cases this
def xQ.AQg{T:Nat}{kd ln:Int}(h:xQ L n lo B0 K0 w0 K w a e b v m xs T kd ln)(hB:B0<lo)(ln':Int):xQ L n lo B0 K0 w0 K (w.setCell ⟨T,1,none⟩ (.int .i64 ln')) a e b v m xs T kd ln':=⟨h.i.ABx hB h.lo h.kn h.ne _ _,h.lo,Ut h.cell _,h.kn,h.ne⟩
def xQ.set{T g:Nat}{kd ln:Int}(h:xQ L n lo B0 K0 w0 K w a e b v m xs T kd ln)(hB:B0<lo)(hg:v.ownBlock=some g)(j:Nat)(u:Bc):xQ L n lo B0 K0 w0 K (w.setCell ⟨g,j,none⟩ u) a e b v m (xs.set j u) T kd ln:=⟨h.i.set hB hg j u,h.lo,(Dl _ _ _ _ (λe=>by simp at e;rw[<- e]at hg;exact h.ne hg)).trans h.cell,h.kn,h.ne⟩
def PA{w:World}{b:Nat}{cs:AV0}{t:Bm}(h:w.heap[b]?=some (.cells cs t (0,0))):(∀j,w.cell? ⟨b,j,none⟩=cs[j]?)/\(∀j,w.frozen? ⟨b,j,none⟩=false):=⟨λ_=>Db _ _ _ _ _ _ h,λ_=>frozen_of_row _ _ _ _ _ h⟩
def zb(r:List (BA×Int)):LD (r.map λx=>⟨x.1,0,0,[],x.2⟩)=JY r:=by simp[LD,JY,List.flatMap_map]
def Vo(xs:LV)(r:List (BA×Int))(kd ln:Int)(d:Nat):LV:=xs++LD ((r.take d).map λx=>⟨x.1,kd,ln,[],x.2⟩)++JY (r.drop d)
def tn(l:List HM):(LD l).length=l.length*5:=by
 induction l with
 |nil=>rfl
 |cons x l ih=>simp only[LD,Gc,Bf,CG,List.length_nil]at ih⊢;omega
def Xe(l k:List HM):LD (l++k)=LD l++LD k:=by simp[LD]
def O7(l k:List (BA×Int)):JY (l++k)=JY l++JY k:=by simp[JY]
def tZ(P Q:LV)(j i:Nat)(u:Bc)(hi:i=P.length+j):(P++Q).set i u=P++Q.set j u:=by rw[hi,List.set_append_right _ _ AA,Ew]
def Td{xs:LV}{r:List (BA×Int)}{kd ln:Int}{d m:Nat}(hx:xs.length=m*5)(hd:d<r.length):
  ((Vo xs r kd ln d).set ((m+d)*5+1) (.int .i64 kd)).set ((m+d)*5+2) (.int .i64 ln)=Vo xs r kd ln (d+1):=by
 have h1:r.drop d=r[d]::r.drop (d+1):=Bx hd;have h2:r.take (d+1)=r.take d++[r[d]]:=by rw[Cp hd]
 have II:(xs++LD ((r.take d).map λx=>(⟨x.1,kd,ln,[],x.2⟩:HM))).length=(m+d)*5:=by
  rw[Bf,tn,hx,BX,C1];omega
 unfold Vo;rw[tZ _ _ 1 _ _ (by rw[II]),tZ _ _ 2 _ _ (by rw[II]),h1,h2,Br,Xe,<- CN,CN (xs++_)];congr 1
def Tc{xs:LV}{r:List (BA×Int)}{kd ln:Int}:Vo xs r kd ln r.length=xs++LD (r.map λx=>⟨x.1,kd,ln,[],x.2⟩):=by simp[Vo,JY]
def aT{xs:LV}{r:List (BA×Int)}{kd ln:Int}:Vo xs r kd ln 0=xs++JY r:=by simp[Vo,LD]
end
def APs:(Tryz.prog.info? 77).map (λi=>(i.zero,i.size,i.bytes))=some (some (.agg #[.string ⟨#[]⟩,.int .i64 0,.int .i64 0,.slice none 0 0,.int .i64 0]),5,64):=by kernel_rfl
def lh(a:Int)(b:BA)(c d e f:Int)(w:World):(FO 196 (.agg #[.int .i64 a,.string b,.int .i64 c,.int .i64 d,.int .i64 e,.int .i64 f]) 0).run BW w=.ok (.int .i64 a) w:=by kernel_rfl
def yY(a:Int)(b:BA)(c d e f:Int)(w:World):(FO 196 (.agg #[.int .i64 a,.string b,.int .i64 c,.int .i64 d,.int .i64 e,.int .i64 f]) 4).run BW w=.ok (.int .i64 f) w:=by kernel_rfl
set_option maxHeartbeats 16000000 in
def jt{L:List PT}{n a e b a' e' b':Int}{m:Nat}{l:List HM}(h:jW L n a e b m l a' e' b')(APE:m+l.length<=20000){K:KK}{w:World}{B0 lo:Nat}{v:Bc}{xs:LV}(hd:Hd L B0 K w a e b n)(hL:w.ownsRow lo 77 5 v m xs)(hk:∀g,v.ownBlock=some g->K g=none)(hnz:m=0->v=.slice none 0 0)
  (hl:lo<=w.heap.size)(hB:B0<lo):
  E8 BW 159 #[.pointer (some ⟨B0,0,none⟩),v] w λen w'=>∃K' v',en=.returned v'/\WE L n lo B0 K w K' w' a' e' b' v' (m+l.length) (xs++LD l):=by
 have A0:B9 (WE L n lo B0 K w K w a e b v m xs):=⟨hd,Lf.refl _ _ _ _,hL,hk,hnz⟩
 obtain⟨i0,hi,hz0,mq,hz2⟩:∃i,Tryz.prog.info? 77=some i/\i.zero=some (.agg #[.string ⟨#[]⟩,.int .i64 0,.int .i64 0,.slice none 0 0,.int .i64 0])/\i.size=5/\i.bytes=64:=by
  have:=APs;cases h:Tryz.prog.info? 77 with
  |none=>rw[h]at this;cases this
  |some i=>
   exact Ait
 have hf0:=lh;have hf4:=yY;obtain⟨a0,cp,rfl⟩:=SP hL
 obtain⟨r,a1,e1,b1,f,hdl,KT⟩:∃r a1 e1 b1 f,Tf L n a e b m r a1 e1 b1 f/\(f=true/\a'=a1/\e'=e1/\b'=b1/\l=r.map (λx=>⟨x.1,0,0,[],x.2⟩)\/f=false/\∃kd ln,kM L n a1 e1 b1 kd ln a' e' b'/\l=r.map λx=>⟨x.1,kd,ln,[],x.2⟩):=by
  cases h with
  |AC1 _ _ _ _ r h1=>exact⟨r,_,_,_,true,h1,.inl ⟨rfl,rfl,rfl,rfl,rfl⟩⟩
  |mk a1 e1 b1 _ _ _ _ r kd ln h1 h2=>exact⟨r,a1,e1,b1,false,h1,.inr ⟨rfl,kd,ln,h2,rfl⟩⟩
 have tx:l.length=r.length:=by rcases KT with⟨_,_,_,_,rfl⟩|⟨_,_,_,_,rfl⟩<;>simp
 rw[tx]at APE;have hx5:xs.length=m*5:=hL.1;clear hd hL hk hnz;go_enter Tryz.func159,Tryz.ntmps159
 go_wp2
 go_loopg [1,6,7,8,9] (r.length) (λkx s1 s6 s7 s8 s9 wr=>∃(Kc:KK) (ac ec bc:Int) (dn rs:List (BA×Int)),r=dn++rs/\rs.length<=kx/\B9 (Tf L n ac ec bc (m+dn.length) rs a1 e1 b1 f/\WE L n lo B0 K w Kc wr ac ec bc s1 (m+dn.length) (xs++JY dn)))
 case atStart=>exact⟨K,a,e,b,[],r,rfl,Bd _,hdl,by simpa[JY]using A0.out⟩
 case round=>
  clear A0;obtain⟨Kc,ac,ec,bc,dn,rs,hr,hkx,A⟩:=hrel;obtain⟨a0,cp,rfl⟩:=SP A.out.2.Hm;have c2:=A.out.2.hd.c2;have H5:=A.out.2.hd.lt;obtain⟨cT,aN⟩:=A.out;rcases cT.pw with⟨he,rfl,rfl,rfl,rfl,rfl⟩|⟨ha,he,Mv,rfl,rfl,hpf⟩|⟨ha,he,WA,nm,rfl,rfl,cW,fG⟩|⟨ha,he,WA,nm,a3,e3,b3,a4,r',rfl,cW,fG,vS⟩
  .obtain rfl:r=dn:=by simpa using hr
   clear hr hkx cT;have A1:B9 _:=aN;obtain⟨hf,_⟩|⟨_,kd,ln,ht,rfl⟩:=KT
   .cases hf
   rcases ht.pw with⟨rfl,a2,e2,b2,cW,fG,ve⟩|⟨a2,e2,b2,a3,e3,b3,a4,cW,fG,ve,hp4⟩
   .go_wp2_with (fail)
    refine(aq A1.out.hd cW (.HK _)).mono ?_;rintro _ wa ⟨Ka,_,rfl,Wz,bf,bR⟩;obtain rfl:=Rt bR;have Aa:B9 _:=A1.out.step hl hB Wz bf;go_wp2_with (fail)
    refine(Xq Aa.out.hd fG).mono ?_;rintro _ wb ⟨Kb,_,rfl,V0,jU,cY⟩;obtain rfl:=XQ cY;have Ab:B9 _:=Aa.out.step hl hB V0 jU;have Ac:B9 _:=Ab.out.t hl hB kd 0;go_wp2_with (fail)
    refine(aq Ac.out.i.hd ve (.HK _)).mono ?_;rintro _ wc ⟨Kt,_,rfl,Yu,fa,ZD⟩;obtain rfl:=MP ZD;have Ad:B9 _:=Ac.out.step hl hB Yu fa;clear Wz bf bR V0 jU cY Yu fa ZD Aa Ab Ac A1
    try clear A
    go_wp2
    go_loopg [12] (r.length) (λkx s12 wr=>∃d:Nat,s12=.int .i64 ((m+d:Nat):Int)/\d<=r.length/\r.length-d<=kx/\B9 (xQ L n lo B0 K w Kt wr a' e' b' (.slice a0 (m+r.length) cp) (m+r.length) (Vo xs r kd 0 d) wb.heap.size kd 0))
    case atStart=>exact⟨0,rfl,AA,AA,by rw[aT];exact Ad.out⟩
    case round=>
     exact AfJ
   .go_wp2_with (fail)
    refine(aq A1.out.hd cW (.HK _)).mono ?_;rintro _ wa ⟨Ka,_,rfl,Wz,bf,bR⟩;obtain rfl:=Rt bR;have Aa:B9 _:=A1.out.step hl hB Wz bf;go_wp2_with (fail)
    refine(Xq Aa.out.hd fG).mono ?_;rintro _ wb ⟨Kb,_,rfl,V0,jU,cY⟩;obtain rfl:=XQ cY;have Ab:B9 _:=Aa.out.step hl hB V0 jU;have Ac:B9 _:=Ab.out.t hl hB kd 0;go_wp2_with (fail)
    refine(aq Ac.out.i.hd ve (.HK _)).mono ?_;rintro _ wc ⟨Kc2,_,rfl,Yu,fa,ZD⟩;obtain rfl:=MP ZD;have Ad:B9 _:=Ac.out.step hl hB Yu fa;go_wp2_with (fail)
    refine(Xq Ad.out.i.hd hp4).mono ?_;rintro _ wd ⟨Kt,_,rfl,oH,qZ,cZ⟩;obtain rfl:=XQ cZ;have Ae:B9 _:=Ad.out.step hl hB oH qZ;have Af:B9 _:=Ae.out.AQg hB ln;obtain⟨htc,htf⟩:=PA Ae.out.cell;have htl:=Dt Ae.out.cell;clear Wz bf bR V0 jU cY Yu fa ZD oH qZ cZ Aa Ab Ac Ad Ae A1
    try clear A
    go_wp2
    go_loopg [12] (r.length) (λkx s12 wr=>∃d:Nat,s12=.int .i64 ((m+d:Nat):Int)/\d<=r.length/\r.length-d<=kx/\B9 (xQ L n lo B0 K w Kt wr a' e' b' (.slice a0 (m+r.length) cp) (m+r.length) (Vo xs r kd ln d) wb.heap.size kd ln))
    case atStart=>exact⟨0,rfl,AA,AA,by rw[aT];exact Af.out⟩
    case round=>
     exact AfI
  .obtain rfl:r=dn:=by simpa using hr
   obtain⟨_,rfl,rfl,rfl,rfl⟩|⟨hf,_⟩:=KT
   case inr=>cases hf
   have A1:B9 _:=aN;clear hr hkx cT;go_wp2_with (fail)
   refine(Xq A1.out.hd (QD ha)).mono ?_;rintro _ wa ⟨Ka,_,rfl,Wz,bf,bR⟩;obtain rfl:=UH bR;have Aa:B9 _:=A1.out.step hl hB Wz bf;clear Wz bf bR;go_wp2_with (fail)
   refine(hd2 Aa.out.hd hpf (.int _ _) (.int _ _)).mono ?_;rintro _ wb ⟨Kb,_,rfl,V0,jU,cY⟩;obtain rfl:=MP cY;have Ab:B9 _:=Aa.out.step hl hB V0 jU;clear V0 jU cY;go_wp2
   go_ret
   exact⟨Kb,_,rfl,by rw[zb,BX];exact Ab.out⟩
  .have A1:B9 _:=aN;obtain⟨hf,_⟩|⟨_,kd,ln,ht,rfl⟩:=KT
   case inl=>cases hf
   have II:r.length=dn.length+1:=by rw[hr];simp
   have XB:B9 (r=dn++[(nm,(IG L ac).HI)]):=hr;clear hr hkx cT;go_wp2_with (fail)
   refine(Xq A1.out.hd (QD ha)).mono ?_;rintro _ wa ⟨Ka,_,rfl,Wz,bf,bR⟩;obtain rfl:=UH bR;have Aa:B9 _:=A1.out.step hl hB Wz bf;clear Wz bf bR;by_cases Mv:(IG L ac).kind=1
   .go_wp2_with (fail)
    refine(hd2 Aa.out.hd (WA Mv) (.int _ _) (.int _ _)).mono ?_;rintro _ wb ⟨Kb,_,rfl,V0,jU,cY⟩;obtain rfl:=MP cY;have Ab:B9 _:=Aa.out.step hl hB V0 jU;clear V0 jU cY;go_wp2_with (fail)
    refine(Xq Ab.out.hd (QD ha)).mono ?_;rintro _ wt ⟨Kt1,_,rfl,mZ,nr,mo⟩;obtain rfl:=UH mo;have xY:B9 _:=Ab.out.step hl hB mZ nr;go_wp2_with (fail)
    refine(Xq xY.out.hd cW).mono ?_;rintro _ wn ⟨Kn,_,rfl,hdn,stn,hvn⟩;obtain rfl:=tW hvn;have An:B9 _:=xY.out.step hl hB hdn stn;have HX:B9 (wn.ownsRow lo 77 5 (.slice a0 (m+dn.length) cp) (m+dn.length) (xs++JY dn)):=An.out.Hm;have hlb:lo<=wn.heap.size:=CD hl An.out.lf.size;clear mZ nr mo hdn stn hvn;go_wp2_with (first|(at_builtin;refine Df _ rfl _ _ 45 rfl lo 77 i0 _ 5 64 E4 hi hz0 mq hz2 rfl AS _ (m+dn.length) (xs++JY dn) rfl (Eh HX.out _) ⟨wn.heap.size,0,none⟩ 1 1 [.string nm,.int .i64 0,.int .i64 0,.slice none 0 0,.int .i64 (IG L ac).HI] rfl rfl ?c1 ?c0 AS ?c2 ?c3 ?c4 wn.heap.size.succ ?c5 ?_))
    case c0=>intro u hu;simp at hu;rcases hu with rfl|rfl|rfl|rfl|rfl<;>rfl
    case c1=>exact Ei (Pu wn _)
    case c2=>unfold maxLen;omega
    case c3=>omega
    case c4=>simp;omega
    case c5=>simp
    intro gk cap w5 Lr SH Pp APG;have A5:B9 (WE L n lo B0 K w Kn w5 _ _ _ (.slice (some ⟨gk,0,none⟩) (m+dn.length+1) cap) (m+dn.length+1) (xs++JY (dn++[(nm,(IG L ac).HI)]))):=(An.out.new hl hB _).vM hl hB SH AcN Pp AD AA;clear Lr SH Pp HX;go_wp2_with (fail)
    exact Akd
   .have Ab:B9 _:=Aa.out;go_wp2_with (fail)
    refine(Xq Ab.out.hd (QD ha)).mono ?_;rintro _ wt ⟨Kt1,_,rfl,mZ,nr,mo⟩;obtain rfl:=UH mo;have xY:B9 _:=Ab.out.step hl hB mZ nr;go_wp2_with (fail)
    refine(Xq xY.out.hd cW).mono ?_;rintro _ wn ⟨Kn,_,rfl,hdn,stn,hvn⟩;obtain rfl:=tW hvn;have An:B9 _:=xY.out.step hl hB hdn stn;have HX:B9 (wn.ownsRow lo 77 5 (.slice a0 (m+dn.length) cp) (m+dn.length) (xs++JY dn)):=An.out.Hm;have hlb:lo<=wn.heap.size:=CD hl An.out.lf.size;clear mZ nr mo hdn stn hvn;go_wp2_with (first|(at_builtin;refine Df _ rfl _ _ 45 rfl lo 77 i0 _ 5 64 E4 hi hz0 mq hz2 rfl AS _ (m+dn.length) (xs++JY dn) rfl (Eh HX.out _) ⟨wn.heap.size,0,none⟩ 1 1 [.string nm,.int .i64 0,.int .i64 0,.slice none 0 0,.int .i64 (IG L ac).HI] rfl rfl ?c1 ?c0 AS ?c2 ?c3 ?c4 wn.heap.size.succ ?c5 ?_))
    case c0=>intro u hu;simp at hu;rcases hu with rfl|rfl|rfl|rfl|rfl<;>rfl
    case c1=>exact Ei (Pu wn _)
    case c2=>unfold maxLen;omega
    case c3=>omega
    case c4=>simp;omega
    case c5=>simp
    intro gk cap w5 Lr SH Pp APG;have A5:B9 (WE L n lo B0 K w Kn w5 _ _ _ (.slice (some ⟨gk,0,none⟩) (m+dn.length+1) cap) (m+dn.length+1) (xs++JY (dn++[(nm,(IG L ac).HI)]))):=(An.out.new hl hB _).vM hl hB SH AcN Pp AD AA;clear Lr SH Pp HX;go_wp2_with (fail)
    exact Akd
  .have A1:B9 _:=aN;have XB:B9 (r=dn++(nm,(IG L ac).HI)::r'):=hr;have II:r.length=dn.length+1+r'.length:=by rw[hr];simp;omega
   have AXK:=hkx;rw[CG]at AXK;clear hr hkx cT;go_wp2_with (fail)
   refine(Xq A1.out.hd (QD ha)).mono ?_;rintro _ wa ⟨Ka,_,rfl,Wz,bf,bR⟩;obtain rfl:=UH bR;have Aa:B9 _:=A1.out.step hl hB Wz bf;clear Wz bf bR;by_cases Mv:(IG L ac).kind=1
   .go_wp2_with (fail)
    refine(hd2 Aa.out.hd (WA Mv) (.int _ _) (.int _ _)).mono ?_;rintro _ wb ⟨Kb,_,rfl,V0,jU,cY⟩;obtain rfl:=MP cY;have Ab:B9 _:=Aa.out.step hl hB V0 jU;clear V0 jU cY;go_wp2_with (fail)
    refine(Xq Ab.out.hd (QD ha)).mono ?_;rintro _ wt ⟨Kt1,_,rfl,mZ,nr,mo⟩;obtain rfl:=UH mo;have xY:B9 _:=Ab.out.step hl hB mZ nr;go_wp2_with (fail)
    refine(Xq xY.out.hd cW).mono ?_;rintro _ wn ⟨Kn,_,rfl,hdn,stn,hvn⟩;obtain rfl:=tW hvn;have An:B9 _:=xY.out.step hl hB hdn stn;have HX:B9 (wn.ownsRow lo 77 5 (.slice a0 (m+dn.length) cp) (m+dn.length) (xs++JY dn)):=An.out.Hm;have hlb:lo<=wn.heap.size:=CD hl An.out.lf.size;clear mZ nr mo hdn stn hvn;go_wp2_with (first|(at_builtin;refine Df _ rfl _ _ 45 rfl lo 77 i0 _ 5 64 E4 hi hz0 mq hz2 rfl AS _ (m+dn.length) (xs++JY dn) rfl (Eh HX.out _) ⟨wn.heap.size,0,none⟩ 1 1 [.string nm,.int .i64 0,.int .i64 0,.slice none 0 0,.int .i64 (IG L ac).HI] rfl rfl ?c1 ?c0 AS ?c2 ?c3 ?c4 wn.heap.size.succ ?c5 ?_))
    case c0=>intro u hu;simp at hu;rcases hu with rfl|rfl|rfl|rfl|rfl<;>rfl
    case c1=>exact Ei (Pu wn _)
    case c2=>unfold maxLen;omega
    case c3=>omega
    case c4=>simp;omega
    case c5=>simp
    intro gk cap w5 Lr SH Pp APG;have A5:B9 (WE L n lo B0 K w Kn w5 _ _ _ (.slice (some ⟨gk,0,none⟩) (m+dn.length+1) cap) (m+dn.length+1) (xs++JY (dn++[(nm,(IG L ac).HI)]))):=(An.out.new hl hB _).vM hl hB SH AcN Pp AD AA;clear Lr SH Pp HX;go_wp2_with (fail)
    refine(aq A5.out.hd fG (.HK _)).mono ?_;rintro _ w6 ⟨K6,_,rfl,hd6,st6,hv6⟩;obtain rfl:=MP hv6
    have A6:B9 (Tf L n a4 e3 b3 (m+(dn++[(nm,(IG L ac).HI)]).length) r' a1 e1 b1 f/\WE L n lo B0 K w K6 w6 a4 e3 b3 (.slice (some ⟨gk,0,none⟩) (m+dn.length+1) cap) (m+(dn++[(nm,(IG L ac).HI)]).length) (xs++JY (dn++[(nm,(IG L ac).HI)]))):=
     ⟨by rw[Bf];exact vS,by rw[Bf];exact A5.out.step hl hB hd6 st6⟩
    clear hd6 st6 hv6 A5 An xY Ab Aa A A1 aN;go_wp2
    go_roundg (r'.length)
    case measure=>omega
    case rel=>exact⟨K6,a4,e3,b3,dn++[(nm,(IG L ac).HI)],r',by rw[CN];exact XB.out,Bd _,A6⟩
   .have Ab:B9 _:=Aa.out;go_wp2_with (fail)
    refine(Xq Ab.out.hd (QD ha)).mono ?_;rintro _ wt ⟨Kt1,_,rfl,mZ,nr,mo⟩;obtain rfl:=UH mo;have xY:B9 _:=Ab.out.step hl hB mZ nr;go_wp2_with (fail)
    refine(Xq xY.out.hd cW).mono ?_;rintro _ wn ⟨Kn,_,rfl,hdn,stn,hvn⟩;obtain rfl:=tW hvn;have An:B9 _:=xY.out.step hl hB hdn stn;have HX:B9 (wn.ownsRow lo 77 5 (.slice a0 (m+dn.length) cp) (m+dn.length) (xs++JY dn)):=An.out.Hm;have hlb:lo<=wn.heap.size:=CD hl An.out.lf.size;clear mZ nr mo hdn stn hvn;go_wp2_with (first|(at_builtin;refine Df _ rfl _ _ 45 rfl lo 77 i0 _ 5 64 E4 hi hz0 mq hz2 rfl AS _ (m+dn.length) (xs++JY dn) rfl (Eh HX.out _) ⟨wn.heap.size,0,none⟩ 1 1 [.string nm,.int .i64 0,.int .i64 0,.slice none 0 0,.int .i64 (IG L ac).HI] rfl rfl ?c1 ?c0 AS ?c2 ?c3 ?c4 wn.heap.size.succ ?c5 ?_))
    case c0=>intro u hu;simp at hu;rcases hu with rfl|rfl|rfl|rfl|rfl<;>rfl
    case c1=>exact Ei (Pu wn _)
    case c2=>unfold maxLen;omega
    case c3=>omega
    case c4=>simp;omega
    case c5=>simp
    intro gk cap w5 Lr SH Pp APG;have A5:B9 (WE L n lo B0 K w Kn w5 _ _ _ (.slice (some ⟨gk,0,none⟩) (m+dn.length+1) cap) (m+dn.length+1) (xs++JY (dn++[(nm,(IG L ac).HI)]))):=(An.out.new hl hB _).vM hl hB SH AcN Pp AD AA;clear Lr SH Pp HX;go_wp2_with (fail)
    refine(aq A5.out.hd fG (.HK _)).mono ?_;rintro _ w6 ⟨K6,_,rfl,hd6,st6,hv6⟩;obtain rfl:=MP hv6
    have A6:B9 (Tf L n a4 e3 b3 (m+(dn++[(nm,(IG L ac).HI)]).length) r' a1 e1 b1 f/\WE L n lo B0 K w K6 w6 a4 e3 b3 (.slice (some ⟨gk,0,none⟩) (m+dn.length+1) cap) (m+(dn++[(nm,(IG L ac).HI)]).length) (xs++JY (dn++[(nm,(IG L ac).HI)]))):=
     ⟨by rw[Bf];exact vS,by rw[Bf];exact A5.out.step hl hB hd6 st6⟩
    clear hd6 st6 hv6 A5 An xY Ab Aa A A1 aN;go_wp2
    go_roundg (r'.length)
    case measure=>omega
    case rel=>exact⟨K6,a4,e3,b3,dn++[(nm,(IG L ac).HI)],r',by rw[CN];exact XB.out,Bd _,A6⟩
end
section
open Go Go.RowKit Go.Proofs
section
variable{L:List PT} {n:Int} {lo B0:Nat} {K0 K K':KK} {w0 w w':World} {a e b a' e' b':Int} {v v':Value} {m m':Nat} {xs Nn:LV}
def WE.chain(h:WE L n lo B0 K0 w0 K w a e b v m xs)(g:WE L n lo B0 K w K' w' a' e' b' v' m' Nn):WE L n lo B0 K0 w0 K' w' a' e' b' v' m' Nn:=⟨g.hd,⟨h.lf.le.trans g.lf.le,λB ks hk=>(g.lf.old B ks hk).elim (λh1=>h.lf.old B ks h1) .inr,CD h.lf.size g.lf.size,λB oZ hn=>(g.lf.Kv B oZ hn).trans (h.lf.Kv B oZ hn),g.lf.os.trans h.lf.os,g.lf.output.trans h.lf.output⟩,g.Hm,g.kn,g.nz⟩
def pD{G1:LLP}(Xq:Hd L B0 K w a e b n)(h:WE L n w.heap.size B0 K w K' w' a' e' b' v m xs)(hr:Rows K' 5 G1 xs)(hm:G1.length=m):∃K'',xZ K w [B0] (.H6 5 G1) [cells L a' e' b' n] K'' v w':=by
 have hB:=Xq.lt
 have hfz:∀a:EW,a.block<w.heap.size->w'.frozen? a=w.frozen? a:=by
  intro ad H5;by_cases hb:ad.block=B0
  .obtain⟨v0,ty,_,h1⟩:=Xq.Hm;obtain⟨v0',ik,_,h1'⟩:=h.hd.Hm;simp only[Du,hb,h1,h1']
  .exact World.frozen?_of_block (h.lf.Kv _ H5 hb)
 rcases Nat.eq_zero_or_pos m with h0|h0
 .have hv:=h.nz h0;have Nq:G1=[]:=by rw[h0]at hm;exact Dd.1 hm
  subst hv Nq;refine⟨K',h.lf.le,h.hd.an,λB ks hk H5=>(h.lf.old B ks hk).resolve_right AA,h.hd.IC,h.lf.size,λB H5 hn=>h.lf.Kv B H5 Ab1,h.lf.os,h.lf.output,hfz,.tM 5⟩
 .obtain⟨g,cap,rfl,oZ,H5⟩:=h.Hm.form h0;have hk:=h.kn g rfl;rcases h.Hm.2 with⟨h1,_⟩|⟨g',AWE,Zv,h1,h2,h3,h4,h5,h6,h7⟩
  .cases h1
  .cases h1;let K'':KK:=λB=>if B=g then some xs else K' B
   have hle:bB K' K'':=λB ks y6=>⟨ks,by
    show(if _ then _ else _)=_;rw[Ng (by rintro rfl;rw[hk]at y6;cases y6)];exact y6,C4 _⟩
   have sh:xs<+:Zv.toList:=by rw[<- h7];exact Gh _ _
   have hgB:g≠B0:=AA;refine⟨K'',h.lf.le.trans hle,λB ks y6=>?_,λB ks y6 sV=>?_,?_,h.lf.size,λB H5 hn=>h.lf.Kv B H5 Ab1,h.lf.os,h.lf.output,hfz,?_⟩
   .have y6:(if B=g then some xs else K' B)=some ks:=y6;by_cases hBg:B=g
    .rw[Ps hBg]at y6;cases y6;exact⟨Zv,77,by rw[hBg];exact h3,sh⟩
    .rw[Ng hBg]at y6;exact h.hd.an B ks y6
   .have y6:(if B=g then some xs else K' B)=some ks:=y6;rw[Ng AA]at y6;exact(h.lf.old B ks y6).resolve_right AA
   .obtain⟨v0,ty,q0,q1⟩:=h.hd.Hm;have q0:=q0.mono hle;refine .cons B0 _ _ _ _ ty ?_ q1 (.cons _ _ _ _ q0 (.cons _ _ _ _ (.int _ _) (.cons _ _ _ _ (.int _ _) (.cons _ _ _ _ (.int _ _) (.cons _ _ _ _ (.int _ _) .nil))))) .nil;exact Ajt
   .subst hm;exact .Hm G1 g 5 cap xs Zv 77 oZ AcA (hr.mono hle) h0 h4 h3 AA
def AAb{K:KK}(x:HM)(hx:x.HH=[]):Sv K x.Gy [.string x.name,.int .i64 x.tk,.int .i64 x.tl,.slice none 0 0,.int .i64 x.HI]:=by unfold Ao;rw[hx];exact .cons _ _ _ _ (.HK _) (.cons _ _ _ _ (.int _ _) (.cons _ _ _ _ (.int _ _) (.cons _ _ _ _ (.none none 0 λ_=>rfl) (.cons _ _ _ _ (.int _ _) .nil))))
def Rows.AQO{K:KK}{e:Nat}{Gy:LP}{ks:LV}(h:Sv K Gy ks)(hl:Gy.length=e):Rows K e [Gy] ks:=by
 have II:=h.length;refine⟨by simp;omega,λi r hr=>?_,λi r hr=>?_⟩
 .cases i with
  |zero=>simp at hr;rw[<- hr];exact hl
  |succ i=>simp at hr
 .cases i with
  |zero=>simp at hr;rw[<- hr];simp;rw[CJ AA];exact h
  |succ i=>simp at hr
def Rows.nil{K:KK}{e:Nat}:Rows K e [] []:=⟨AD,λi r hr=>by simp at hr,λi r hr=>by simp at hr⟩
def Rw{K:KK}:∀(l:List HM),(∀v∈l,v.HH=[])->Rows K 5 (l.map Ao) (LD l)
 |[],_=>Rows.nil
 |x::l,h=>by
  have h1:=Rows.AQO (AAb (K:=K) x (h x AD)) (e:=5) rfl;have h2:=Rw (K:=K) l λv hv=>h v Ak;exact h1.append h2
end
inductive Tg (L:List PT) (n:Int):Nat->Int->Int->Int->Nat->List HM->Int->Int->Int->Prop
 |dO (k:Nat) (a e b:Int) (m:Nat):e≠0->Tg L n k a e b m [] a e b
 |mz (k:Nat) (a e b:Int) (m:Nat):e=0->PC BW 148 [.G5 0 0,.HK ⟨#[59]⟩] [cells L a e b n] (.bool false) [cells L a e b n]->Tg L n k a e b m [] a e b
 |JC (k:Nat) (a e b a1 a2 e2 b2 a' e' b':Int) (m:Nat) (l1 l2:List HM):e=0->PC BW 148 [.G5 0 0,.HK ⟨#[59]⟩] [cells L a e b n] (.bool true) [cells L a1 e b n]->jW L n a1 e b m l1 a2 e2 b2->Tg L n k a2 e2 b2 (m+l1.length) l2 a' e' b'->
  Tg L n (k+1) a e b m (l1++l2) a' e' b'
def Tg.pw{L:List PT}{n a e b a' e' b':Int}{k m:Nat}{l:List HM}(h:Tg L n k a e b m l a' e' b'):(e≠0/\l=[]/\a'=a/\e'=e/\b'=b)\/
  (e=0/\PC BW 148 [.G5 0 0,.HK ⟨#[59]⟩] [cells L a e b n] (.bool false) [cells L a e b n]/\l=[]/\a'=a/\e'=e/\b'=b)\/
  ∃k' a1 a2 e2 b2 l1 l2,k=k'+1/\e=0/\PC BW 148 [.G5 0 0,.HK ⟨#[59]⟩] [cells L a e b n] (.bool true) [cells L a1 e b n]/\jW L n a1 e b m l1 a2 e2 b2/\Tg L n k' a2 e2 b2 (m+l1.length) l2 a' e' b'/\l=l1++l2:=by
 cases h with
 |dO=>exact .inl ⟨‹_›,rfl,rfl,rfl,rfl⟩
 |mz=>exact .inr (.inl ⟨‹_›,‹_›,rfl,rfl,rfl,rfl⟩)
 |JC=>exact .inr (.inr ⟨_,_,_,_,_,_,_,rfl,‹_›,‹_›,‹_›,‹_›,rfl⟩)
def ACu{L:List PT}(hL:JM L)(n:Int):∀(c:Nat) (a e b:Int) (m:Nat),At L a->mu L a e<=c->∃k l a' e' b',Tg L n k a e b m l a' e' b'/\At L a'/\(l.length:Int)+mu L a' e'<=mu L a e/\∀v∈l,0<=v.tk/\v.tk<=9/\v.HH=[]:=by
 intro c
 induction c with
 |zero=>
  exact AhN
 |succ c ih=>
  intro a e b m ha hc;by_cases he:e=0
  case neg=>exact⟨0,[],a,e,b,.dO 0 a e b m he,ha,AD,AD⟩
  cases sW:VC L a e ⟨#[59]⟩with
  |false=>exact⟨0,[],a,e,b,.mz 0 a e b m he (O5 hL ha sW),ha,AD,AD⟩
  |true=>
   obtain⟨_,Me⟩:=NA hL ha sW;have H5:mu L (a+1) e<mu L a e:=by rw[IE he,IE he];omega
   obtain⟨l1,a2,e2,b2,h1,h2,h3,h4⟩:=rV (e:=e) (b:=b) (n:=n) hL Me m;obtain⟨k,l2,a',e',b',g1,g2,g3,g4⟩:=ih a2 e2 b2 (m+l1.length) h2 AA;refine⟨k+1,l1++l2,a',e',b',.JC _ _ _ _ _ _ _ _ _ _ _ _ _ _ he (O6 hL ha sW) h1 g1,g2,by simp;omega,λv hv=>?_⟩;exact AjO
set_option maxHeartbeats 16000000 in
def AFK{L:List PT}{n a e b a1 e1 b1 a' e' b':Int}{l0 l:List HM}(h0:jW L n a e b 0 l0 a1 e1 b1){k0:Nat}(h:Tg L n k0 a1 e1 b1 l0.length l a' e' b')(APE:l0.length+l.length<=20000){K:KK}{w:World}{B0:Nat}(hd:Hd L B0 K w a e b n):
  E8 BW 147 #[.pointer (some ⟨B0,0,none⟩)] w λen w'=>∃K' v',en=.returned v'/\WE L n w.heap.size B0 K w K' w' a' e' b' v' (l0.length+l.length) (LD (l0++l)):=by
 have hB:=hd.lt;have H:=jt h0 AA (lo:=w.heap.size) (v:=.slice none 0 0) (xs:=[]) hd (E5 w w.heap.size 77 5) (by intro g hg;cases hg) (λ_=>rfl) (Bd _) hB;simp only[CR,CX]at H;go_enter Tryz.func147,Tryz.ntmps147
 go_wp2_with (fail)
 refine H.mono ?_;rintro _ w1 ⟨K1,v1,rfl,aq⟩;obtain⟨a0,cp,rfl⟩:=SP aq.Hm;have A1:B9 _:=aq;have hl0:=hB;clear aq H hd;go_wp2
 go_loopg [3,4] (k0) (λkx s3 s4 wr=>∃(Kc:KK) (ac ec bc:Int) (dn rs:List HM) (kk:Nat),l0++l=dn++rs/\kk<=kx/\B9 (Tg L n kk ac ec bc dn.length rs a' e' b'/\WE L n w.heap.size B0 K w Kc wr ac ec bc s3 dn.length (LD dn)))
 case atStart=>exact⟨K1,a1,e1,b1,l0,l,k0,rfl,Bd _,h,A1.out⟩
 case round=>
  clear A1;obtain⟨Kc,ac,ec,bc,dn,rs,kk,hr,hkx,A⟩:=hrel;obtain⟨a0,cp,rfl⟩:=SP A.out.2.Hm;have c2:=A.out.2.hd.c2;have H5:=A.out.2.hd.lt;obtain⟨cT,aN⟩:=A.out;have XB:B9 (l0++l=dn++rs):=hr;have II:l0.length+l.length=dn.length+rs.length:=by have:=congrArg List.length hr;simpa using this
  clear hr;rcases cT.pw with⟨he,rfl,rfl,rfl,rfl⟩|⟨he,cW,rfl,rfl,rfl,rfl⟩|⟨k',a2,a3,e3,b3,l1,l2,rfl,he,cW,oH,vS,rfl⟩
  .have A1:B9 _:=aN;clear cT hkx;go_wp2
   go_ret
   exact⟨Kc,_,rfl,by rw[XB.out,II];simpa using A1.out⟩
  .have A1:B9 _:=aN;clear cT hkx;go_wp2_with (fail)
   refine(aq A1.out.hd cW (.HK _)).mono ?_;rintro _ wa ⟨Ka,_,rfl,Wz,bf,bR⟩;obtain rfl:=MP bR;have Aa:B9 _:=A1.out.step (Bd _) hB Wz bf;clear Wz bf bR;go_wp2
   go_ret
   exact⟨Ka,_,rfl,by rw[XB.out,II];simpa using Aa.out⟩
  .have A1:B9 _:=aN;have AMS:l0.length+l.length=dn.length+(l1.length+l2.length):=by rw[II,Bf]
   clear cT II;go_wp2_with (fail)
   refine(aq A1.out.hd cW (.HK _)).mono ?_;rintro _ wa ⟨Ka,_,rfl,Wz,bf,bR⟩;obtain rfl:=MP bR;have Aa:B9 _:=A1.out.step (Bd _) hB Wz bf;clear Wz bf bR;go_wp2_with (fail)
   refine(jt oH AA Aa.out.hd Aa.out.Hm Aa.out.kn Aa.out.nz Aa.out.lf.size hB).mono ?_;rintro _ wb ⟨Kb,v2,rfl,V0⟩;obtain⟨a9,cp9,rfl⟩:=SP V0.Hm
   have Ab:B9 (Tg L n k' a3 e3 b3 (dn++l1).length l2 a' e' b'/\WE L n w.heap.size B0 K w Kb wb a3 e3 b3 (.slice a9 (dn.length+l1.length) cp9) (dn++l1).length (LD (dn++l1))):=
    ⟨by rw[Bf];exact vS,by rw[Bf,Xe];exact Aa.out.chain V0⟩
   clear V0 vS;go_wp2
   go_roundg (k')
   case measure=>omega
   case rel=>exact⟨Kb,a3,e3,b3,dn++l1,l2,k',by rw[CN];exact XB.out,Bd _,Ab⟩
def AFL{L:List PT}(hL:JM L){a e b n:Int}(ha:At L a):PDs L a e b n:=by
 obtain⟨l0,a1,e1,b1,h1,h2,h3,h4⟩:=rV (e:=e) (b:=b) (n:=n) hL ha 0;obtain⟨k,l,a2,e2,b2,g1,g2,g3,g4⟩:=ACu hL n (mu L a1 e1).toNat a1 e1 b1 l0.length h2 (by have:=SL (e:=e1) h2;omega);have h20:=ABk (e:=e) hL ha;have sW:=SL (e:=e2) g2;have RF:∀v∈l0++l,0<=v.tk/\v.tk<=9/\v.HH=[]:=λv hv=>(Bg.1 hv).elim (h4 v) (g4 v);refine⟨.H6 5 ((l0++l).map Ao),[cells L a2 e2 b2 n],?_,a2,e2,b2,n,rfl,l0++l,rfl,⟨by rw[Bf];omega,λv hv=>⟨⟨(RF v hv).1,(RF v hv).2.1⟩,by rw[(RF v hv).2.2];simp⟩⟩,λv hv=>(RF v hv).2.2,g2,by rw[Bf];omega⟩;intro K w Bs HW hK hC L6 hA
 obtain⟨B0,rfl⟩:∃B0,Bs=[B0]:=by
  exact Ai0
 have hd:Hd L B0 K w a e b n:=.of hK hC
 obtain rfl:HW=[.pointer (some ⟨B0,0,none⟩)]:=by
  exact Ag6
 refine EM.2 ((AFK h1 g1 AA hd).mono ?_);rintro en w' ⟨K',v',rfl,aN⟩;obtain⟨K'',hc⟩:=pD hd aN (Rw _ λv hv=>(RF v hv).2.2) AD;exact⟨K'',v',rfl,hc⟩
end
section
open Go Go.RowKit Go.Proofs
def HM.on(v:HM)(c:List Edge):HM:={v with HH:=c}
def LU(c:List Edge):LV:=c.flatMap λg=>[.string g.name,.bool g.on]
section
variable{K:KK} {e:Nat} {G1 r1 r2:LLP} {ks:LV} {Gy:LP}
def Rows.split(h:Rows K e (r1++r2) ks):∃k1 k2,ks=k1++k2/\k1.length=r1.length*e/\Rows K e r1 k1/\Rows K e r2 k2:=by
 have II:=h.len;rw[Bf,CW]at II;refine⟨ks.take (r1.length*e),ks.drop (r1.length*e),(CP _ _).symm,by rw[C1];omega,⟨by rw[C1];omega,λi r hr=>?_,λi r hr=>?_⟩,⟨by rw[List.length_drop];omega,λi r hr=>?_,λi r hr=>?_⟩⟩
 .have hi:=(Bn.1 hr).1;exact h.Gy i r (by rw[B5 hi];exact hr)
 .have hi:=(Bn.1 hr).1;have:=h.rel i r (by rw[B5 hi];exact hr)
  have h2:i*e+e<=r1.length*e:=by
   have:=Cf e hi;rw[Nat.succ_mul]at this;exact this
  rw[List.drop_take,List.take_take,Nat.min_eq_left AA];exact this
 .exact h.Gy (r1.length+i) r Acj
 .have:=h.rel (r1.length+i) r Acj;rw[D6,<- CW];exact this
def Rows.lV(h:Rows K e (Gy::G1) ks):∃k1 k2,ks=k1++k2/\k1.length=e/\Sv K Gy k1/\Rows K e G1 k2:=by obtain⟨k1,k2,h1,h2,h3,h4⟩:=Rows.split (r1:=[Gy]) (r2:=G1) h;have h5:=h3.rel 0 Gy rfl;simp only[CG,List.length_nil,CR,Eu]at h2;simp only[Nat.zero_mul,Cv]at h5;rw[CJ AA]at h5;exact⟨k1,k2,h1,h2,h5,h4⟩
def gg:∀{c:List Edge} {ks:LV},Rows K 2 (c.map A9) ks->ks=LU c
 |[],ks,h=>by have:=h.len;simpa[LU]using this
 |g::c,ks,h=>by
  obtain⟨k1,k2,rfl,_,h2,h3⟩:=Rows.lV h;obtain⟨v1,l1,rfl,g1,h2⟩:=h2.M7;obtain⟨v2,rfl,g2⟩:=h2.kH;rw[rY g1,AA0 g2,gg h3];rfl
def dJ:∀(c:List Edge),Rows K 2 (c.map A9) (LU c)
 |[]=>Rows.nil
 |g::c=>(Rows.AQO (.cons _ _ _ _ (.HK _) (.cons _ _ _ _ (.bool _) .nil)) rfl:Rows K 2 [g.Gy] _).append (dJ c)
def bJ(c:List Edge):(LU c).length=c.length*2:=by
 induction c with
 |nil=>rfl
 |cons x c ih=>simp only[LU,Gc,Bf,CG,List.length_nil]at ih⊢;omega
def bL(c:List Edge):∀u∈LU c,u.oneCell'=true:=by intro u hu;simp only[LU,List.mem_flatMap]at hu;obtain⟨g,_,hu⟩:=hu;simp at hu;rcases hu with rfl|rfl<;>rfl
def ALj{x:HM}{l:LV}(h:Sv K x.Gy l):∃vc,DR K (.HC (x.HH.map A9)) vc/\l=[.string x.name,.int .i64 x.tk,.int .i64 x.tl,vc,.int .i64 x.HI]:=by obtain⟨v0,l1,rfl,h0,h⟩:=h.M7;obtain⟨v1,l2,rfl,h1,h⟩:=h.M7;obtain⟨v2,l3,rfl,h2,h⟩:=h.M7;obtain⟨v3,l4,rfl,h3,h⟩:=h.M7;obtain⟨v4,rfl,h4⟩:=h.kH;rw[rY h0,Qr h1,Qr h2,Qr h4];exact⟨v3,h3,rfl⟩
def Rows.wx{l1 l2:List HM}{x:HM}{c:List Edge}{xs:LV}{vc:Bc}(h:Rows K 5 ((l1++x::l2).map Ao) xs)(hc:DR K (.HC (c.map A9)) vc):Rows K 5 ((l1++x.on c::l2).map Ao) (xs.set (l1.length*5+3) vc):=by
 rw[Br]at h;obtain⟨k1,k2,rfl,Mv,h1,h2⟩:=h.split;obtain⟨k3,k4,rfl,bP,h3,h4⟩:=Rows.lV h2;obtain⟨vc0,_,rfl⟩:=ALj h3;rw[BX]at Mv
 have:(k1++([.string x.name,.int .i64 x.tk,.int .i64 x.tl,vc0,.int .i64 x.HI]++k4)).set (l1.length*5+3) vc=k1++([.string x.name,.int .i64 x.tk,.int .i64 x.tl,vc,.int .i64 x.HI]++k4):=by
  rw[tZ _ _ 3 _ _ (by rw[Mv])];rfl
 rw[this,Br];refine h1.append ?_
 have h5:Sv K (x.on c).Gy [.string x.name,.int .i64 x.tk,.int .i64 x.tl,vc,.int .i64 x.HI]:=
  .cons _ _ _ _ (.HK _) (.cons _ _ _ _ (.int _ _) (.cons _ _ _ _ (.int _ _) (.cons _ _ _ _ hc (.cons _ _ _ _ (.int _ _) .nil))))
 exact(Rows.AQO h5 rfl:Rows K 5 [(x.on c).Gy] _).append h4
end
inductive WG (L:List PT) (n:Int):Int->Int->Int->Nat->List HM->Int->Int->Int->Prop
 |plain (a e b a1 e1 b1 a2 e2 b2:Int) (m:Nat) (l:List HM):jW L n a e b m l a1 e1 b1->PC BW 148 [.G5 0 0,.HK ⟨#[119,104,101,110]⟩] [cells L a1 e1 b1 n] (.bool false) [cells L a1 e1 b1 n]->
  PC BW 145 [.G5 0 0,.HK ⟨#[59]⟩] [cells L a1 e1 b1 n] (.tuple []) [cells L a2 e2 b2 n]->WG L n a e b m l a2 e2 b2
 |HH (a e b a1 e1 b1 a2 a3 e3 b3 a4 e4 b4:Int) (m:Nat) (l:List HM) (c:List Edge):jW L n a e b m l a1 e1 b1->PC BW 148 [.G5 0 0,.HK ⟨#[119,104,101,110]⟩] [cells L a1 e1 b1 n] (.bool true) [cells L a2 e1 b1 n]->
  PC BW 160 [.G5 0 0] [cells L a2 e1 b1 n] (.H6 2 (c.map A9)) [cells L a3 e3 b3 n]->0<c.length->c.length<=17->PC BW 145 [.G5 0 0,.HK ⟨#[59]⟩] [cells L a3 e3 b3 n] (.tuple []) [cells L a4 e4 b4 n]->
  WG L n a e b m (l.map λv=>v.on c) a4 e4 b4
def WG.pw{L:List PT}{n a e b a4 e4 b4:Int}{m:Nat}{l':List HM}(h:WG L n a e b m l' a4 e4 b4):∃l a1 e1 b1,jW L n a e b m l a1 e1 b1/\
  ((l'=l/\PC BW 148 [.G5 0 0,.HK ⟨#[119,104,101,110]⟩] [cells L a1 e1 b1 n] (.bool false) [cells L a1 e1 b1 n]/\PC BW 145 [.G5 0 0,.HK ⟨#[59]⟩] [cells L a1 e1 b1 n] (.tuple []) [cells L a4 e4 b4 n])\/
  ∃a2 a3 e3 b3 c,l'=l.map (λv=>v.on c)/\PC BW 148 [.G5 0 0,.HK ⟨#[119,104,101,110]⟩] [cells L a1 e1 b1 n] (.bool true) [cells L a2 e1 b1 n]/\PC BW 160 [.G5 0 0] [cells L a2 e1 b1 n] (.H6 2 (c.map A9)) [cells L a3 e3 b3 n]/\0<c.length/\c.length<=17/\
   PC BW 145 [.G5 0 0,.HK ⟨#[59]⟩] [cells L a3 e3 b3 n] (.tuple []) [cells L a4 e4 b4 n]):=by
 cases h with
 |plain=>exact⟨_,_,_,_,‹_›,.inl ⟨rfl,‹_›,‹_›⟩⟩
 |HH=>exact⟨_,_,_,_,‹_›,.inr ⟨_,_,_,_,_,rfl,‹_›,‹_›,‹_›,‹_›,‹_›⟩⟩
inductive Sa (L:List PT) (n:Int):Nat->Int->Int->Int->Nat->List HM->Int->Int->Int->Prop
 |dO (k:Nat) (a e b:Int) (m:Nat):e≠0->Sa L n k a e b m [] a e b
 |mz (k:Nat) (a e b a' e' b':Int) (m:Nat) (l:List HM):e=0->WG L n a e b m l a' e' b'->At L a'->(e'≠0\/(IG L a').kind≠1)->Sa L n k a e b m l a' e' b'
 |JC (k:Nat) (a e b a1 e1 b1 a' e' b':Int) (m:Nat) (l1 l2:List HM):e=0->WG L n a e b m l1 a1 e1 b1->At L a1->e1=0->(IG L a1).kind=1->Sa L n k a1 e1 b1 (m+l1.length) l2 a' e' b'->Sa L n (k+1) a e b m (l1++l2) a' e' b'
def Sa.pw{L:List PT}{n a e b a' e' b':Int}{k m:Nat}{l:List HM}(h:Sa L n k a e b m l a' e' b'):(e≠0/\l=[]/\a'=a/\e'=e/\b'=b)\/
  (e=0/\WG L n a e b m l a' e' b'/\At L a'/\(e'≠0\/(IG L a').kind≠1))\/
  ∃k' a1 e1 b1 l1 l2,k=k'+1/\e=0/\WG L n a e b m l1 a1 e1 b1/\At L a1/\e1=0/\(IG L a1).kind=1/\Sa L n k' a1 e1 b1 (m+l1.length) l2 a' e' b'/\l=l1++l2:=by
 cases h with
 |dO=>exact .inl ⟨‹_›,rfl,rfl,rfl,rfl⟩
 |mz=>exact .inr (.inl ⟨‹_›,‹_›,‹_›,‹_›⟩)
 |JC=>exact .inr (.inr ⟨_,_,_,_,_,_,rfl,‹_›,‹_›,‹_›,‹_›,‹_›,‹_›,rfl⟩)
section
variable{L:List PT}
def AFQ(hL:JM L){a e b n:Int}(ha:At L a)(he:e=0):∃(c:List Edge) (a' e' b':Int),PC BW 160 [.G5 0 0] [cells L a e b n] (.H6 2 (c.map A9)) [cells L a' e' b' n]/\0<c.length/\c.length<=17/\At L a'/\mu L a' e'<=mu L a e:=by obtain⟨r,cc,I5,a',e',b',n',hc,hn,⟨l,hr,hl,h0⟩,h1,h2⟩:=AFR (b:=b) (n:=n) (e:=e) hL ha;rw[hn]at hc;rw[hr,hc]at I5;exact⟨l,a',e',b',I5,h0 he,hl,h1,h2⟩
def ADV(hL:JM L)(n:Int){a e b:Int}(ha:At L a)(he:e=0)(m:Nat):∃l a' e' b',WG L n a e b m l a' e' b'/\At L a'/\(l.length:Int)+mu L a' e'<=mu L a e/\mu L a' e'<mu L a e/\∀v∈l,0<=v.tk/\v.tk<=9/\v.HH.length<=17:=by
 obtain⟨l,a1,e1,b1,h1,h2,h3,h4⟩:=rV (e:=e) (b:=b) (n:=n) hL ha m;cases hm:VC L a1 e1 ⟨#[119,104,101,110]⟩with
 |false=>
  obtain⟨a2,e2,b2,Jh,Us⟩:=aY (b:=b1) (n:=n) (e:=e1) hL h2 ⟨#[59]⟩;have jI:=Us.le h2;refine⟨l,a2,e2,b2,.plain _ _ _ _ _ _ _ _ _ _ _ h1 (O5 hL h2 hm) Jh,Us.1,AA,?_,λv hv=>⟨(h4 v hv).1,(h4 v hv).2.1,by rw[(h4 v hv).2.2];simp⟩⟩;by_cases OR:e1=0
  .have:=Us.2.1 OR;omega
  .rw[Lk (Us.2.2 OR)];exact P9 ha he
 |true=>
  obtain⟨OR,My⟩:=NA hL h2 hm;have H5:mu L (a1+1) e1<mu L a1 e1:=by rw[IE OR,IE OR];omega
  obtain⟨c,a3,e3,b3,VA,hc0,AFu,UP,oa⟩:=AFQ (b:=b1) (n:=n) hL My OR;obtain⟨a4,e4,b4,vf,ez⟩:=aY (b:=b3) (n:=n) (e:=e3) hL UP ⟨#[59]⟩;have hl4:=ez.le UP;refine⟨_,a4,e4,b4,.HH _ _ _ _ _ _ _ _ _ _ _ _ _ _ _ c h1 (O6 hL h2 hm) VA hc0 AFu vf,ez.1,by simp;omega,AA,λv hv=>?_⟩;obtain⟨x,hx,rfl⟩:=B8.1 hv;exact⟨(h4 x hx).1,(h4 x hx).2.1,AFu⟩
def ADU(hL:JM L)(n:Int):∀(c:Nat) (a e b:Int) (m:Nat),At L a->mu L a e<=c->∃k l a' e' b',Sa L n k a e b m l a' e' b'/\At L a'/\(l.length:Int)+mu L a' e'<=mu L a e/\∀v∈l,0<=v.tk/\v.tk<=9/\v.HH.length<=17:=by
 intro c
 induction c with
 |zero=>
  exact AhN
 |succ c ih=>
  intro a e b m ha hc;by_cases he:e=0
  case neg=>exact⟨0,[],a,e,b,.dO 0 a e b m he,ha,AD,AD⟩
  obtain⟨l1,a1,e1,b1,h1,h2,h3,h5,h4⟩:=ADV (e:=e) (b:=b) hL n ha he m;by_cases Vg:e1=0/\(IG L a1).kind=1
  .obtain⟨k,l2,a',e',b',g1,g2,g3,g4⟩:=ih a1 e1 b1 (m+l1.length) h2 AA;refine⟨k+1,l1++l2,a',e',b',.JC _ _ _ _ _ _ _ _ _ _ _ _ _ he h1 h2 Vg.1 Vg.2 g1,g2,by simp;omega,λv hv=>?_⟩;exact AjO
  .exact⟨0,l1,a1,e1,b1,.mz 0 _ _ _ _ _ _ m _ he h1 h2 (by by_cases h:e1=0;exact .inr λh'=>Vg ⟨h,h'⟩;exact .inl h),h2,h3,h4⟩
end
end
section
open Go Go.RowKit Go.Proofs
def jW.plain{L:List PT}{n a e b a' e' b':Int}{m:Nat}{l:List HM}(h:jW L n a e b m l a' e' b'):∀v∈l,v.HH=[]:=by
 intro v hv;cases h with
 |AC1=>obtain⟨x,_,rfl⟩:=B8.1 hv;rfl
 |mk=>obtain⟨x,_,rfl⟩:=B8.1 hv;rfl
def AHc{K:KK}{w:World}{Iw e:Nat}{G1:LLP}{v:Bc}(h:RR K w Iw (.H6 e G1) v)(h0:0<G1.length):∃B c ks vs ty,v=.slice (some ⟨B,0,none⟩) G1.length c/\Iw<=B/\K B=some ks/\Rows K e G1 ks/\w.heap[B]?=some (.cells vs ty (0,0))/\G1.length<=c:=by
 cases h with
 |one _ _ h=>cases h with|data _ _ h=>cases h
 |tM=>simp at h0
 |Hm _ B _ c ks vs ty h1 h2 h3 h4 h5 h6 h7=>exact⟨B,c,ks,vs,ty,rfl,h1,h2,h3,h6,h5⟩
section
variable{L:List PT} {n:Int} {lo B0:Nat} {K0 K:KK} {w0 w w':World} {a e b:Int} {v:Value} {m:Nat} {xs:LV}
def WE.AUZ(h:WE L n lo B0 K0 w0 K w a e b v m xs)(hl:lo<=w0.heap.size)(hB:B0<lo)(hg:w.grownBy w' none){g cap k:Nat}{t:Bm}{sz:Nat}{ks:LV}(Lr:w'.ownsRow w.heap.size t sz (.slice (some ⟨g,0,none⟩) k cap) k ks):
  ∃K',WE L n lo B0 K0 w0 K' w' a e b v m xs/\K' g=some ks/\bB K K'/\k<=cap/\∀B,B≠g->K' B=K B:=by
 have j9:=h.lf.size;rcases Lr.2 with⟨h1,_⟩|⟨g',AWE,Zv,h1,h2,h3,h4,h5,h6,h7⟩
 .cases h1
 .cases h1
  have hle:bB K (λB=>if B=g then some ks else K B):=λB kb hk=>⟨kb,by
   have:=h.hd.klt hk;show(if B=g then some ks else K B)=some kb;rw[Ng AA];exact hk,C4 _⟩
  have H5:=h.hd.lt;have Km:∀B,B<w.heap.size->w'.heap[B]?=w.heap[B]?:=λB H5=>hg.block B H5 AD;refine⟨λB=>if B=g then some ks else K B,⟨⟨λB kb hk=>?_,?_,?_⟩,⟨h.lf.le.trans hle,λB kb hk=>?_,CD j9 hg.size,λB oZ hn=>(Km B AA).trans (h.lf.Kv B oZ hn),hg.os.trans h.lf.os,hg.output.trans h.lf.output⟩,iW h.Hm λB hb=>Km B (D9 h.Hm B hb).2,λB hb=>?_,h.nz⟩,?_,hle,h4,λB MT=>?_⟩
  .by_cases hBg:B=g
   .rw[Ps hBg]at hk;cases hk;exact⟨Zv,t,by rw[hBg];exact h3,by rw[<- h7];exact Gh _ _⟩
   .rw[Ng hBg]at hk;obtain⟨vs,ty,q1,q2⟩:=h.hd.an B kb hk;exact⟨vs,ty,(Km B (h.hd.klt hk)).trans q1,q2⟩
  .exact Ajt
  .obtain⟨v0,ty,q0,q1⟩:=h.hd.Hm;exact⟨v0,ty,q0.mono hle,(Km B0 H5).trans q1⟩
  .by_cases hBg:B=g
   .exact AiM
   .rw[Ng hBg]at hk;exact h.lf.old B kb hk
  .show(if _ then _ else _)=_;have:=(D9 h.Hm B hb).2;rw[Ng AA];exact h.kn B hb
  .exact Ahj
  .show(if _ then _ else _)=_;rw[Ng MT]
end
def fc{l:List HM}{d:Nat}(hd:d<l.length)(c:List Edge):(l.take d).map (λv=>v.on c)++(l[d]).on c::l.drop (d+1)=(l.take (d+1)).map (λv=>v.on c)++l.drop (d+1):=by rw[Cp hd,Br,CN];rfl
def APt:(Tryz.prog.info? 80).map (λi=>(i.zero,i.size,i.bytes))=some (some (.agg #[.string ⟨#[]⟩,.bool false]),2,24):=by kernel_rfl
structure ts (L:List PT) (n:Int) (lo B0:Nat) (K0:KK) (w0:World) (K:KK) (w:World) (a e b:Int) (v:Bc) (m:Nat) (l:List HM) (xs:List Bc):Prop where
 i:WE L n lo B0 K0 w0 K w a e b v m xs
 r:Rows K 5 (l.map Ao) xs
def ts.step{L:List PT}{n:Int}{lo B0:Nat}{K0 K K':KK}{w0 w w':World}{a e b a' e' b':Int}{v:Bc}{m:Nat}{l:List HM}{xs:LV}(h:ts L n lo B0 K0 w0 K w a e b v m l xs)(hl:lo<=w0.heap.size)(hB:B0<lo)(hd:Hd L B0 K' w' a' e' b' n)(st:St1 B0 K w K' w'):ts L n lo B0 K0 w0 K' w' a' e' b' v m l xs:=⟨h.i.step hl hB hd st,h.r.mono st.le⟩
set_option maxHeartbeats 16000000 in
def ADX{L:List PT}{n a e b a' e' b':Int}{k0:Nat}{l:List HM}(h:Sa L n k0 a e b 0 l a' e' b')(APE:l.length<=20000){K:KK}{w:World}{B0:Nat}(hd:Hd L B0 K w a e b n):
  E8 BW 149 #[.pointer (some ⟨B0,0,none⟩)] w λen w'=>∃K' v' xs,en=.returned v'/\ts L n w.heap.size B0 K w K' w' a' e' b' v' l.length l xs:=by
 have hB:=hd.lt
 obtain⟨i0,hi,hz0,mq,hz2⟩:∃i,Tryz.prog.info? 80=some i/\i.zero=some (.agg #[.string ⟨#[]⟩,.bool false])/\i.size=2/\i.bytes=24:=by
  have:=APt;cases h:Tryz.prog.info? 80 with
  |none=>rw[h]at this;cases this
  |some i=>
   exact Ait
 have hf0:=lh;have A0:B9 (ts L n w.heap.size B0 K w K w a e b (.slice none 0 0) 0 [] []):=⟨⟨hd,Lf.refl _ _ _ _,E5 w w.heap.size 77 5,(by intro g hg;cases hg),λ_=>rfl⟩,Rows.nil⟩
 clear hd;go_enter Tryz.func149,Tryz.ntmps149
 go_wp2
 go_loopg [3,4,5,6,7] (k0) (λkx s3 s4 s5 s6 s7 wr=>∃(Kc:KK) (ac ec bc:Int) (dn rs:List HM) (kk:Nat) (xs:LV),l=dn++rs/\kk<=kx/\B9 (Sa L n kk ac ec bc dn.length rs a' e' b'/\ts L n w.heap.size B0 K w Kc wr ac ec bc s3 dn.length dn xs))
 case atStart=>exact⟨K,a,e,b,[],l,k0,[],rfl,Bd _,h,A0.out⟩
 case round=>
  clear A0;obtain⟨Kc,ac,ec,bc,dn,rs,kk,xs,hr,hkx,A⟩:=hrel;obtain⟨a0,cp,rfl⟩:=SP A.out.2.i.Hm;have c2:=A.out.2.i.hd.c2;have H5:=A.out.2.i.hd.lt;obtain⟨cT,aN⟩:=A.out;have XB:B9 (l=dn++rs):=hr;have II:l.length=dn.length+rs.length:=by rw[hr];simp
  clear hr;have A1:B9 _:=aN;clear aN A;rcases cT.pw with⟨he,rfl,rfl,rfl,rfl⟩|⟨he,KH,hae,Vg⟩|⟨k',a1,e1,b1,l1,l2,rfl,he,KH,hae,OR,Mv,vS,rfl⟩
  .clear cT hkx;go_wp2
   go_ret
   exact⟨Kc,_,xs,rfl,by rw[II,XB.out];simpa using A1.out⟩
  .obtain⟨l0,a2,e2,b2,oH,Mz⟩:=KH.pw;have hl0:rs.length=l0.length:=by rcases Mz with⟨rfl,_⟩|⟨_,_,_,_,_,rfl,_⟩<;>simp
   have AXL:dn.length+l0.length<=20000:=AA;clear cT;have au:=oH.plain;go_wp2_with (fail)
   refine(jt oH AA A1.out.i.hd A1.out.i.Hm A1.out.i.kn A1.out.i.nz A1.out.i.lf.size hB).mono ?_;rintro _ wb ⟨Kb,v2,rfl,V0⟩;obtain⟨a3,yM,rfl⟩:=SP V0.Hm
   have Ab:B9 (ts L n w.heap.size B0 K w Kb wb a2 e2 b2 (.slice a3 (dn.length+l0.length) yM) (dn.length+l0.length) (dn++l0) (xs++LD l0)):=
    ⟨A1.out.i.chain V0,by rw[Br];exact(A1.out.r.mono V0.lf.le).append (Rw l0 au)⟩
   clear V0 A1;rcases Mz with⟨rfl,cW,fG⟩|⟨a4,a5,e5,b5,c,rfl,cW,fG,hc0,AFu,ve⟩
   .go_wp2_with (fail)
    refine(aq Ab.out.i.hd cW (.HK _)).mono ?_;rintro _ wc ⟨Kc3,_,rfl,aN,fa,vm⟩;obtain rfl:=MP vm;have Ac:B9 _:=Ab.out.step (Bd _) hB aN fa;clear aN fa vm Ab;go_wp2_with (fail)
    refine(aq Ac.out.i.hd fG (.HK _)).mono ?_;rintro _ wd ⟨Kd,_,rfl,mY,qZ,cZ⟩;obtain rfl:=Rt cZ;have Ad:B9 _:=Ac.out.step (Bd _) hB mY qZ;clear mY qZ cZ Ac;have c29:=Ad.out.i.hd.c2;have APH:=Ad.out.i.hd.lt;by_cases he9:e'=0
    .have hk9:(IG L a').kind≠1:=Vg.resolve_left λh=>h he9;go_wp2_with (fail)
     refine(Xq Ad.out.i.hd (QD hae)).mono ?_;rintro _ wt ⟨Kt,_,rfl,mZ,nr,mo⟩;obtain rfl:=UH mo;have At:B9 _:=Ad.out.step (Bd _) hB mZ nr;clear mZ nr mo;go_wp2
     go_ret
     exact AiU
    .go_wp2
     go_ret
     exact⟨_,_,_,rfl,by rw[II,XB.out];first|exact Ad.out|(rw[BX];exact Ad.out)⟩
   .go_wp2_with (fail)
    refine(aq Ab.out.i.hd cW (.HK _)).mono ?_;rintro _ wc ⟨Kc3,_,rfl,aN,fa,vm⟩;obtain rfl:=MP vm;have Ac:B9 _:=Ab.out.step (Bd _) hB aN fa;clear aN fa vm Ab;go_wp2_with (fail)
    refine(Xq Ac.out.i.hd fG).mono ?_;rintro _ wd ⟨Kd,_,rfl,mY,qZ,cZ⟩;obtain⟨gc,cc,kc,vs,ty,rfl,hgc,hkc,hrc,hwc,jF⟩:=AHc cZ AcO;obtain rfl:=gg hrc;rw[BX]at jF;rw[BX];have Ad:B9 (ts L n w.heap.size B0 K w Kd wd a5 e5 b5 (.slice a3 (dn.length+l0.length) yM) (dn.length+l0.length) (dn++l0) (xs++LD l0)/\Kd gc=some (LU c)):=⟨Ac.out.step (Bd _) hB mY qZ,hkc⟩
    clear mY qZ cZ Ac hrc hwc hkc;go_wp2
    go_loopg [7] (l0.length) (λkx s7 wr=>∃(d:Nat) (Ke:KK) (xd:LV),s7=.int .i64 ((dn.length+d:Nat):Int)/\d<=l0.length/\l0.length-d<=kx/\B9 (ts L n w.heap.size B0 K w Ke wr a5 e5 b5 (.slice a3 (dn.length+l0.length) yM) (dn.length+l0.length) (dn++((l0.take d).map (λv=>v.on c)++l0.drop d)) xd/\Ke gc=some (LU c)))
    case atStart=>exact⟨0,Kd,_,rfl,AA,AA,by rw[List.take_zero,Fz,CX,Cv];exact Ad.out⟩
    case round=>
     clear Ad;obtain⟨d,Ke,xd,rfl,hd9,hki,B⟩:=hrel;by_cases T9:d<l0.length
     .have Lr:=B.out.1.i.Hm;obtain⟨gk,cap,hv,oK,yz⟩:=Lr.form AA;obtain⟨rfl,rfl⟩:a3=some ⟨gk,0,none⟩/\yM=cap:=by injection hv with h1 h2 h3;exact⟨h1,h3⟩
      have cU:((dn.length+d:Nat):Int)<(dn.length+l0.length:Nat):=AA;obtain⟨vsc,tyc,hwc,I5⟩:=B.out.1.i.hd.an gc _ B.out.2
      have T6:B9 (∀j u,(LU c)[j]?=some u->wr.cell? ((⟨gc,0,none⟩:EW).add j)=some u):=λj u hu=>by
       exact Akh
      have hec:=bJ c;clear hv Lr hwc I5;go_wp2_with (first|(at_builtin;refine Df _ rfl _ _ 75 rfl wr.heap.size 80 i0 _ 2 24 Gd hi hz0 mq hz2 rfl AS _ 0 [] rfl (E5 wr wr.heap.size 80 2) ⟨gc,0,none⟩ c.length cc (LU c) rfl AA T6.out (bL c) AA ?c2 ?c3 (Bd _) wr.heap.size rfl ?_))
      case c2=>unfold maxLen;omega
      case c3=>omega
      intro gn rQ w6 vd SH Pp AXS;obtain⟨K6,h6,hk6,AF4,AFv,vY⟩:=B.out.1.i.AUZ (Bd _) hB (by simpa[GK]using SH) vd
      have hdr:DR K6 (.HC (c.map A9)) (.slice (some ⟨gn,0,none⟩) c.length rQ):=by
       exact AhZ
      have Ja:=SO h6.Hm (g:=gk) rfl;obtain⟨v3,hc3⟩:=(Ja ((dn.length+d)*5+3) AA).1;have aO:=(Ja ((dn.length+d)*5+3) AA).2
      have B7:B9 (ts L n w.heap.size B0 K w K6 (w6.setCell ⟨gk,(dn.length+d)*5+3,none⟩ (.slice (some ⟨gn,0,none⟩) c.length rQ)) a5 e5 b5 (.slice (some ⟨gk,0,none⟩) (dn.length+l0.length) yM) (dn.length+l0.length) (dn++((l0.take (d+1)).map (λv=>v.on c)++l0.drop (d+1))) (xd.set ((dn.length+d)*5+3) (.slice (some ⟨gn,0,none⟩) c.length rQ))/\K6 gc=some (LU c)):=by
       exact Afa
      clear vd SH Pp hdr Ja h6 hk6 AF4 vY B;go_wp2
      go_roundg (l0.length-(d+1))
      case measure=>omega
      case rel=>exact⟨d+1,K6,_,by go_num,AA,AA,B7⟩
     .have cU:¬((dn.length+d:Nat):Int)<(dn.length+l0.length:Nat):=AA;obtain rfl:d=l0.length:=AA;have Be:B9 (ts L n w.heap.size B0 K w Ke wr a5 e5 b5 (.slice a3 (dn.length+l0.length) yM) (dn.length+l0.length) (dn++(l0.map λv=>v.on c)) xd):=by have h9:=B.out.1;rw[DG,Gi,CL]at h9;exact h9
      clear B;go_wp2_with (fail)
      refine(aq Be.out.i.hd ve (.HK _)).mono ?_;rintro _ we ⟨Kf,_,rfl,hde,ste,hve⟩;obtain rfl:=Rt hve;have Af:B9 _:=Be.out.step (Bd _) hB hde ste;clear hde ste hve Be;have c29:=Af.out.i.hd.c2;have APH:=Af.out.i.hd.lt;by_cases he9:e'=0
      .have hk9:(IG L a').kind≠1:=Vg.resolve_left λh=>h he9;go_wp2_with (fail)
       refine(Xq Af.out.i.hd (QD hae)).mono ?_;rintro _ wt ⟨Kt,_,rfl,mZ,nr,mo⟩;obtain rfl:=UH mo;have At:B9 _:=Af.out.step (Bd _) hB mZ nr;clear mZ nr mo;go_wp2
       go_ret
       exact AiU
      .go_wp2
       go_ret
       exact⟨_,_,_,rfl,by rw[II,XB.out];first|exact Af.out|(rw[BX];exact Af.out)⟩
  .obtain⟨l0,a2,e2,b2,oH,Mz⟩:=KH.pw;have hl0:l1.length=l0.length:=by rcases Mz with⟨rfl,_⟩|⟨_,_,_,_,_,rfl,_⟩<;>simp
   have AXL:dn.length+l0.length<=20000:=by rw[Bf]at II;omega
   clear cT;have au:=oH.plain;go_wp2_with (fail)
   refine(jt oH (by rw[Bf]at II;omega) A1.out.i.hd A1.out.i.Hm A1.out.i.kn A1.out.i.nz A1.out.i.lf.size hB).mono ?_;rintro _ wb ⟨Kb,v2,rfl,V0⟩;obtain⟨a3,yM,rfl⟩:=SP V0.Hm
   have Ab:B9 (ts L n w.heap.size B0 K w Kb wb a2 e2 b2 (.slice a3 (dn.length+l0.length) yM) (dn.length+l0.length) (dn++l0) (xs++LD l0)):=
    ⟨A1.out.i.chain V0,by rw[Br];exact(A1.out.r.mono V0.lf.le).append (Rw l0 au)⟩
   clear V0 A1;rcases Mz with⟨rfl,cW,fG⟩|⟨a4,a5,e5,b5,c,rfl,cW,fG,hc0,AFu,ve⟩
   .go_wp2_with (fail)
    refine(aq Ab.out.i.hd cW (.HK _)).mono ?_;rintro _ wc ⟨Kc3,_,rfl,aN,fa,vm⟩;obtain rfl:=MP vm;have Ac:B9 _:=Ab.out.step (Bd _) hB aN fa;clear aN fa vm Ab;go_wp2_with (fail)
    refine(aq Ac.out.i.hd fG (.HK _)).mono ?_;rintro _ wd ⟨Kd,_,rfl,mY,qZ,cZ⟩;obtain rfl:=Rt cZ;have Ad:B9 _:=Ac.out.step (Bd _) hB mY qZ;clear mY qZ cZ Ac;have c29:=Ad.out.i.hd.c2;have APH:=Ad.out.i.hd.lt;go_wp2_with (fail)
    refine(Xq Ad.out.i.hd (QD hae)).mono ?_;rintro _ wt ⟨Kt,_,rfl,mZ,nr,mo⟩;obtain rfl:=UH mo;have At:B9 _:=Ad.out.step (Bd _) hB mZ nr;clear mZ nr mo
    have Au:B9 (Sa L n k' a1 e1 b1 (dn++l1).length l2 a' e' b'/\ts L n w.heap.size B0 K w Kt wt a1 e1 b1 (.slice a3 (dn.length+l1.length) yM) (dn++l1).length (dn++l1) _):=
     ⟨by rw[Bf];exact vS,by have h9:=At.out;rw[Bf];exact h9⟩
    clear At;go_wp2
    go_roundg (k')
    case measure=>omega
    case rel=>exact⟨Kt,a1,e1,b1,dn++l1,l2,k',_,by rw[CN];exact XB.out,Bd _,Au⟩
   .go_wp2_with (fail)
    refine(aq Ab.out.i.hd cW (.HK _)).mono ?_;rintro _ wc ⟨Kc3,_,rfl,aN,fa,vm⟩;obtain rfl:=MP vm;have Ac:B9 _:=Ab.out.step (Bd _) hB aN fa;clear aN fa vm Ab;go_wp2_with (fail)
    refine(Xq Ac.out.i.hd fG).mono ?_;rintro _ wd ⟨Kd,_,rfl,mY,qZ,cZ⟩;obtain⟨gc,cc,kc,vs,ty,rfl,hgc,hkc,hrc,hwc,jF⟩:=AHc cZ AcO;obtain rfl:=gg hrc;rw[BX]at jF;rw[BX];have Ad:B9 (ts L n w.heap.size B0 K w Kd wd a5 e5 b5 (.slice a3 (dn.length+l0.length) yM) (dn.length+l0.length) (dn++l0) (xs++LD l0)/\Kd gc=some (LU c)):=⟨Ac.out.step (Bd _) hB mY qZ,hkc⟩
    clear mY qZ cZ Ac hrc hwc hkc;go_wp2
    go_loopg [7] (l0.length) (λkx s7 wr=>∃(d:Nat) (Ke:KK) (xd:LV),s7=.int .i64 ((dn.length+d:Nat):Int)/\d<=l0.length/\l0.length-d<=kx/\B9 (ts L n w.heap.size B0 K w Ke wr a5 e5 b5 (.slice a3 (dn.length+l0.length) yM) (dn.length+l0.length) (dn++((l0.take d).map (λv=>v.on c)++l0.drop d)) xd/\Ke gc=some (LU c)))
    case atStart=>exact⟨0,Kd,_,rfl,AA,AA,by rw[List.take_zero,Fz,CX,Cv];exact Ad.out⟩
    case round=>
     clear Ad;obtain⟨d,Ke,xd,rfl,hd9,hki,B⟩:=hrel;by_cases T9:d<l0.length
     .have Lr:=B.out.1.i.Hm;obtain⟨gk,cap,hv,oK,yz⟩:=Lr.form AA;obtain⟨rfl,rfl⟩:a3=some ⟨gk,0,none⟩/\yM=cap:=by injection hv with h1 h2 h3;exact⟨h1,h3⟩
      have cU:((dn.length+d:Nat):Int)<(dn.length+l0.length:Nat):=AA;obtain⟨vsc,tyc,hwc,I5⟩:=B.out.1.i.hd.an gc _ B.out.2
      have T6:B9 (∀j u,(LU c)[j]?=some u->wr.cell? ((⟨gc,0,none⟩:EW).add j)=some u):=λj u hu=>by
       exact Akh
      have hec:=bJ c;clear hv Lr hwc I5;go_wp2_with (first|(at_builtin;refine Df _ rfl _ _ 75 rfl wr.heap.size 80 i0 _ 2 24 Gd hi hz0 mq hz2 rfl AS _ 0 [] rfl (E5 wr wr.heap.size 80 2) ⟨gc,0,none⟩ c.length cc (LU c) rfl AA T6.out (bL c) AA ?c2 ?c3 (Bd _) wr.heap.size rfl ?_))
      case c2=>unfold maxLen;omega
      case c3=>omega
      intro gn rQ w6 vd SH Pp AXS;obtain⟨K6,h6,hk6,AF4,AFv,vY⟩:=B.out.1.i.AUZ (Bd _) hB (by simpa[GK]using SH) vd
      have hdr:DR K6 (.HC (c.map A9)) (.slice (some ⟨gn,0,none⟩) c.length rQ):=by
       exact AhZ
      have Ja:=SO h6.Hm (g:=gk) rfl;obtain⟨v3,hc3⟩:=(Ja ((dn.length+d)*5+3) AA).1;have aO:=(Ja ((dn.length+d)*5+3) AA).2
      have B7:B9 (ts L n w.heap.size B0 K w K6 (w6.setCell ⟨gk,(dn.length+d)*5+3,none⟩ (.slice (some ⟨gn,0,none⟩) c.length rQ)) a5 e5 b5 (.slice (some ⟨gk,0,none⟩) (dn.length+l0.length) yM) (dn.length+l0.length) (dn++((l0.take (d+1)).map (λv=>v.on c)++l0.drop (d+1))) (xd.set ((dn.length+d)*5+3) (.slice (some ⟨gn,0,none⟩) c.length rQ))/\K6 gc=some (LU c)):=by
       exact Afa
      clear vd SH Pp hdr Ja h6 hk6 AF4 vY B;go_wp2
      go_roundg (l0.length-(d+1))
      case measure=>omega
      case rel=>exact⟨d+1,K6,_,by go_num,AA,AA,B7⟩
     .have cU:¬((dn.length+d:Nat):Int)<(dn.length+l0.length:Nat):=AA;obtain rfl:d=l0.length:=AA;have Be:B9 (ts L n w.heap.size B0 K w Ke wr a5 e5 b5 (.slice a3 (dn.length+l0.length) yM) (dn.length+l0.length) (dn++(l0.map λv=>v.on c)) xd):=by have h9:=B.out.1;rw[DG,Gi,CL]at h9;exact h9
      clear B;go_wp2_with (fail)
      refine(aq Be.out.i.hd ve (.HK _)).mono ?_;rintro _ we ⟨Kf,_,rfl,hde,ste,hve⟩;obtain rfl:=Rt hve;have Af:B9 _:=Be.out.step (Bd _) hB hde ste;clear hde ste hve Be;have c29:=Af.out.i.hd.c2;have APH:=Af.out.i.hd.lt;go_wp2_with (fail)
      refine(Xq Af.out.i.hd (QD hae)).mono ?_;rintro _ wt ⟨Kt,_,rfl,mZ,nr,mo⟩;obtain rfl:=UH mo;have At:B9 _:=Af.out.step (Bd _) hB mZ nr;clear mZ nr mo
      have Au:B9 (Sa L n k' a1 e1 b1 (dn++(l0.map λv=>v.on c)).length l2 a' e' b'/\ts L n w.heap.size B0 K w Kt wt a1 e1 b1 (.slice a3 (dn.length+l0.length) yM) (dn++(l0.map λv=>v.on c)).length (dn++(l0.map λv=>v.on c)) _):=
       ⟨by rw[Bf];exact vS,by have h9:=At.out;rw[Bf,BX];exact h9⟩
      clear At;go_wp2
      go_roundg (k')
      case measure=>omega
      case rel=>exact⟨Kt,a1,e1,b1,dn++(l0.map λv=>v.on c),l2,k',_,by rw[CN];exact XB.out,Bd _,Au⟩
end
section
open Go Go.RowKit Go.Proofs
def ADY{L:List PT}(hL:JM L){a e b n:Int}(ha:At L a):PLs L a e b n:=by
 obtain⟨k,l,a2,e2,b2,g1,g2,g3,g4⟩:=ADU hL n (mu L a e).toNat a e b 0 ha AK;have h20:=ABk (e:=e) hL ha;have sW:=SL (e:=e2) g2;refine⟨.H6 5 (l.map Ao),[cells L a2 e2 b2 n],?_,a2,e2,b2,n,rfl,l,rfl,⟨AA,λv hv=>⟨⟨(g4 v hv).1,(g4 v hv).2.1⟩,(g4 v hv).2.2⟩⟩,g2,g3⟩;intro K w Bs HW hK hC L6 hA
 obtain⟨B0,rfl⟩:∃B0,Bs=[B0]:=by
  exact Ai0
 have hd:Hd L B0 K w a e b n:=.of hK hC
 obtain rfl:HW=[.pointer (some ⟨B0,0,none⟩)]:=by
  exact Ag6
 refine EM.2 ((ADX g1 AA hd).mono ?_);rintro en w' ⟨K',v',xs,rfl,aN⟩;obtain⟨K'',hc⟩:=pD hd aN.i aN.r AD;exact⟨K'',v',rfl,hc⟩
def ADq(t:BA)(h31:(t.size:Int)<=9223372036854775807):
  ∃(N:List G8) (HI e:Int),PC BW 83 [.HK t] [] (.tuple [.agg [.HC (N.map A2)],I HI,I e]) []/\(∀x∈N,x.WF)/\N.length<=60/\A8 N<=20000:=
 AHM (λL hL a e b n ha=>ADY hL ha) (λL hL a e b n ha=>AFL hL ha) t h31
end
end Go.Vi
