/- Part of the proof of CauseChecks (own work, made small). -/
import Derived.Test.YtlonlfiaclacdaaGreatE1
import Derived.WalkKit
import Derived.OneCell
import Derived.Deep.LoopGhost
import Derived.Deep.QuietTactic
import Derived.BigQuiet
import Derived.StillTailTactics
import Derived.BigRegion
import Derived.Deep.AppendLies
set_option linter.all false
set_option maxRecDepth 100000
section
variable{p:Prop}
def AdT(q:p:=by
 clear Af;obtain⟨d,rfl,hd9,hki,B⟩:=hrel;obtain⟨htc,htf⟩:=N0 B.out.cell;by_cases Ox:d<r.length
 .have KT:=B.out.i.HE;obtain⟨gk,cap,hv,Tn,vE⟩:=KT.form AA;obtain⟨rfl,rfl⟩:a0=some ⟨gk,0,none⟩/\cp=cap:=by injection hv with h1 h2 h3;exact⟨h1,h3⟩
  have JP:=Qr KT (g:=gk) rfl;obtain⟨v1,ZI⟩:=(JP ((m+d)*5+1) AA).1;obtain⟨v2,Tj⟩:=(JP ((m+d)*5+2) AA).1;have MS:=(JP ((m+d)*5+1) AA).2;have M4:=(JP ((m+d)*5+2) AA).2;have ZM:((m+d:Nat):Int)<(m+r.length:Nat):=AA;have Kk:wb.heap.size≠gk:=λe=>B.out.ne AaM;have B2:CH _:=Ro (kd:=kd) (ln:=ln) hx5 Ox▸(B.out.set hB (g:=gk) rfl ((m+d)*5+1) (.int .i64 kd)).set hB (g:=gk) rfl ((m+d)*5+2) (.int .i64 ln);clear KT JP hv;go_wp2
  go_roundg (r.length-(d+1))
  case measure=>omega
  case rel=>exact⟨d+1,by go_num,AA,AA,B2⟩
 .have ZM:¬((m+d:Nat):Int)<(m+r.length:Nat):=AA;obtain rfl:d=r.length:=AA;go_wp2
  go_ret
  exact⟨Kt,_,rfl,by have h9:=B.out.i;rw[Rn]at h9;exact h9⟩):=q
def AdU(q:p:=by
 clear Ad;obtain⟨d,rfl,hd9,hki,B⟩:=hrel;obtain⟨htc,htf⟩:=N0 B.out.cell;by_cases Ox:d<r.length
 .have KT:=B.out.i.HE;obtain⟨gk,cap,hv,Tn,vE⟩:=KT.form AA;obtain⟨rfl,rfl⟩:a0=some ⟨gk,0,none⟩/\cp=cap:=by injection hv with h1 h2 h3;exact⟨h1,h3⟩
  have JP:=Qr KT (g:=gk) rfl;obtain⟨v1,ZI⟩:=(JP ((m+d)*5+1) AA).1;obtain⟨v2,Tj⟩:=(JP ((m+d)*5+2) AA).1;have MS:=(JP ((m+d)*5+1) AA).2;have M4:=(JP ((m+d)*5+2) AA).2;have ZM:((m+d:Nat):Int)<(m+r.length:Nat):=AA;have Kk:wb.heap.size≠gk:=λe=>B.out.ne AaM;have B2:CH _:=Ro (kd:=kd) (ln:=0) hx5 Ox▸(B.out.set hB (g:=gk) rfl ((m+d)*5+1) (.int .i64 kd)).set hB (g:=gk) rfl ((m+d)*5+2) (.int .i64 0);clear KT JP hv;go_wp2
  go_roundg (r.length-(d+1))
  case measure=>omega
  case rel=>exact⟨d+1,by go_num,AA,AA,B2⟩
 .have ZM:¬((m+d:Nat):Int)<(m+r.length:Nat):=AA;obtain rfl:d=r.length:=AA;go_wp2
  go_ret
  exact⟨Kt,_,rfl,by have h9:=B.out.i;rw[Rn]at h9;exact h9⟩):=q
def Ahh(q:p:=by
 refine(Zp A5.out.hd dp (.Gh _)).mono ?_;rintro _ w6 ⟨K6,_,rfl,hd6,st6,hv6⟩;obtain rfl:=LG hv6;have A6:CH _:=A5.out.step hl hB hd6 st6;have hmr:m+dn.length+1=m+r.length:=AA;rw[<- PU.out,hmr]at A6;rw[hmr];clear hd6 st6 hv6 A5 An tf Ab Aa A A1 Xw hmr PU hlb;generalize(some (⟨gk,0,none⟩:Addr))=a0 at*;generalize cap=cp at*;clear HM;rcases ht.K5 with⟨rfl,a2,e2,b2,ZN,dp,rX⟩|⟨a2,e2,b2,a3,e3,b3,a4,ZN,dp,rX,hp4⟩
 .go_wp2_with (fail)
  refine(Zp A6.out.hd ZN (.Gh _)).mono ?_;rintro _ wa ⟨Ka,_,rfl,Un,Yl,Yf⟩;obtain rfl:=QR Yf;have Aa:CH _:=A6.out.step hl hB Un Yl;go_wp2_with (fail)
  refine(Vf Aa.out.hd dp).mono ?_;rintro _ wb ⟨Kb,_,rfl,T6,fF,bP⟩;obtain rfl:=VC bP;have Ab:CH _:=Aa.out.step hl hB T6 fF;have Ac:CH _:=Ab.out.t hl hB kd 0;go_wp2_with (fail)
  refine(Zp Ac.out.i.hd rX (.Gh _)).mono ?_;rintro _ wc ⟨Kt,_,rfl,Ws,cE,XA⟩;obtain rfl:=LG XA;have Ad:CH _:=Ac.out.step hl hB Ws cE;clear Un Yl Yf T6 fF bP Ws cE XA Aa Ab Ac A6
  try clear A
  go_wp2
  go_loopg [12] (r.length) (λkx s12 wr=>∃d:Nat,s12=.int .i64 ((m+d:Nat):Int)/\d<=r.length/\r.length-d<=kx/\CH (tW L n lo B0 K w Kt wr a' e' b' (.slice a0 (m+r.length) cp) (m+r.length) (Ty xs r kd 0 d) wb.heap.size kd 0))
  case atStart=>exact⟨0,rfl,AA,AA,by rw[YD];exact Ad.out⟩
  case round=>
   exact AdU
 .go_wp2_with (fail)
  refine(Zp A6.out.hd ZN (.Gh _)).mono ?_;rintro _ wa ⟨Ka,_,rfl,Un,Yl,Yf⟩;obtain rfl:=QR Yf;have Aa:CH _:=A6.out.step hl hB Un Yl;go_wp2_with (fail)
  refine(Vf Aa.out.hd dp).mono ?_;rintro _ wb ⟨Kb,_,rfl,T6,fF,bP⟩;obtain rfl:=VC bP;have Ab:CH _:=Aa.out.step hl hB T6 fF;have Ac:CH _:=Ab.out.t hl hB kd 0;go_wp2_with (fail)
  refine(Zp Ac.out.i.hd rX (.Gh _)).mono ?_;rintro _ wc ⟨Kc2,_,rfl,Ws,cE,XA⟩;obtain rfl:=LG XA;have Ad:CH _:=Ac.out.step hl hB Ws cE;go_wp2_with (fail)
  refine(Vf Ad.out.i.hd hp4).mono ?_;rintro _ wd ⟨Kt,_,rfl,mb,nV,ZO⟩;obtain rfl:=VC ZO;have Ae:CH _:=Ad.out.step hl hB mb nV;have Af:CH _:=Ae.out.ANw hB ln;obtain⟨htc,htf⟩:=N0 Ae.out.cell;have htl:=Dv Ae.out.cell;clear Un Yl Yf T6 fF bP Ws cE XA mb nV ZO Aa Ab Ac Ad Ae A6
  try clear A
  go_wp2
  go_loopg [12] (r.length) (λkx s12 wr=>∃d:Nat,s12=.int .i64 ((m+d:Nat):Int)/\d<=r.length/\r.length-d<=kx/\CH (tW L n lo B0 K w Kt wr a' e' b' (.slice a0 (m+r.length) cp) (m+r.length) (Ty xs r kd ln d) wb.heap.size kd ln))
  case atStart=>exact⟨0,rfl,AA,AA,by rw[YD];exact Af.out⟩
  case round=>
   exact AdT):=q
end
open Array renaming getElem?_eq_getElem->CQ
open ByteArray renaming size_extract->De
open Go renaming Obj->EE,Aside->CH,FuncId->B9,TypeId->Bz,Value->Bk,cell_of_row->Df,lt_of_block->Dv,wpList_append_lies->DM
open Go.Instr renaming field->FF
open Go.Proofs.Tryz renaming prog->BZ,underlying45->EK,underlying75->Ff
open Go.RowKit.Below renaming heap_alloc->Fl,heap_setCell->DQ
open Go.Value renaming ownBlock->FJ
open Go.Vi.At renaming O1->BQ
open Go.Vi.Edge renaming GG->A9
open Go.Vi.GD renaming GG->A8,wt->BG,HS->Ax
open Go.Vi.GO renaming GG->Ay,HS->BC
open Go.Vi.Ge renaming GG->Am
open Go.Vi.Gj renaming GG->Aw
open Go.Vi.Gw renaming GK->BB
open Go.Vi.Item renaming GG->Aq,wt->BF,HS->As
open Go.Vi.PT renaming GG->BJ
open Go.World renaming frozen?->DX,news_of_block->Dx,ownsRow_nil->EL
open Go.World.ownsRow renaming alloc->Dw,lt->Dc
open Int renaming le_refl->Ct,not_le->Dd
open List renaming all_cons->Co,append_assoc->B3,append_nil->CG,drop_drop->Dp,drop_eq_getElem_cons->Bt,drop_length->Fm,drop_zero->CA,flatMap_cons->C4,getD_eq_getElem?_getD->CK,getElem?_append_left->CL,getElem?_append_right->CT,getElem?_eq_getElem->Bc,getElem?_eq_some_iff->Bp,length_append->Bd,length_cons->CE,length_map->Bb,length_take->C2,map_append->Bu,map_nil->Dt,mem_append->Bf,mem_map->B8,mem_singleton->By,nil_append->CC,prefix_refl->Cs,range->CS,set_cons_succ->Cb,set_cons_zero->Ca,take_append_drop->CX,take_length->DG,take_of_length_le->Cc,take_succ_eq_append_getElem->Cm
open Nat renaming add_mul->Ce,add_sub_cancel_left->EC,beq->Br,le_refl->Bg,le_trans->CN,lt_of_lt_of_le->Cv,min_eq_left->C7,mul_le_mul_right->DD,one_mul->Dn,zero_add->CZ,zero_mul->Eu
open Option.some renaming injEq->Bh
open Prod.mk renaming injEq->Ch
namespace Go.Vi
attribute [local irreducible] H0 HR Gp Ht Gf Hu GJ GM Gc HK HC JI G6 Hs Hq Ho JZ Jd Ip JN JW G2 Gq Hb pQ I2 Ic Gn Gb Gs HA HZ H8 Int.instDecidableEq Int.decEq instBEqOfDecidableEq
section
open Go.Proofs
def PIt(L:List PT)(a0 e0 b0 n0:Int):Prop:=PQ BZ 162 [.GN 0 0] [cells L a0 e0 b0 n0] λr c=>∃a' e' b' n',c=[cells L a' e' b' n']/\∃GL f s nm tk tl i m GP Mr GB GY,r=.agg [.GV (GL.map GC),I f,I s,.Gh nm,I tk,I tl,I i,I m,.GV (BB GP),I Mr,.GV (GB.map A8),I GY]/\(Item.mk GL (.mk f s nm tk tl i m GP Mr) GB GY).WF/\At L a'/\((Item.mk GL (.mk f s nm tk tl i m GP Mr) GB GY).wt:Int)+mu L a' e'<=mu L a0 e0/\mu L a' e'<mu L a0 e0
def mG{s:St}{f s1 tk tl i m Mr GY:Int}{nm:BA}{nv kv sv:PV}{rn rk rs:LLP}(hn:nv.data=some (.GV rn))(hk:kv.data=some (.GV rk))(hs:sv.data=some (.GV rs)):
  (bif Br 0 0 then OB (Lg [.agg [nv,I f,I s1,.Gh nm,I tk,I tl,I i,I m,kv,I Mr,sv,I GY]])else TV 0 s (Lg [.agg [nv,I f,I s1,.Gh nm,I tk,I tl,I i,I m,kv,I Mr,sv,I GY]]))=
   some (.agg [.GV rn,I f,I s1,.Gh nm,I tk,I tl,I i,I m,.GV rk,I Mr,.GV rs,I GY]):=by
 have:JC [nv,I f,I s1,.Gh nm,I tk,I tl,I i,I m,kv,I Mr,sv,I GY]=some [.GV rn,I f,I s1,.Gh nm,I tk,I tl,I i,I m,.GV rk,I Mr,.GV rs,I GY]:=by
  simp only[JC,hn,hk,hs];rfl
 exact AfD
def Rg{nm:BA}{JB Jg:List Gj}{GA:List Ge}{GQ:List Item}{GY:Int}:(GD.mk nm JB Jg GA GQ GY).GG=[.Gh nm,.GV (JB.map Aw),.GV (Jg.map Aw),.GV (GA.map Am),.GV (GQ.map Aq),I GY]:=by rw[GD.IC];rfl
def km{l:List GD}:∀r∈l.map A8,r.length=6:=by intro r hr;exact Afd
def Gz{l:List BA}:∀r∈l.map GC,r.length=1:=AfI
section
variable{L:List PT} {a e b n a0 e0:Int}
def QZ(hL:Ii L)(ha:At L a){GB:List GD}{sv:PV}(hsv:sv.data=some (.GV (GB.map A8)))(lE:sv.IT=true)(hw:∀x∈GB,x.WF)(HM:GB.length<=16)(hW:(Ax GB:Int)+mu L a e<=mu L a0 e0)(hP:mu L a e<mu L a0 e0)
  {Od:LP}(JK:Od.length=12){hp:HO}{nx:Nat}{YH:Int}:
  MR 0 1 (λr c=>∃a' e' b' n',c=[cells L a' e' b' n']/\∃GL f s nm tk tl i m GP Mr GB GY,r=.agg [.GV (GL.map GC),I f,I s,.Gh nm,I tk,I tl,I i,I m,.GV (BB GP),I Mr,.GV (GB.map A8),I GY]/\(Item.mk GL (.mk f s nm tk tl i m GP Mr) GB GY).WF/\At L a'/\((Item.mk GL (.mk f s nm tk tl i m GP Mr) GB GY).wt:Int)+mu L a' e'<=mu L a0 e0/\mu L a' e'<mu L a0 e0)
   (.GN 0 0) (.GN 1 0) (.GN 2 0) (Qx [.box (cells L a e b n),.box Od,.box [.nil,I 0,I 0,.Gh ⟨#[]⟩,I 0,I 0,I 0,I 0,.nil,I 0,sv,I YH]] hp nx):=by
 unfold MR;refine H6 hL rfl ha λa1 e1 b1 h1=>?_;have YK:=h1.le ha;refine zv ?_;refine Fy (IZ rfl rfl (by simp only[Co,lE];rfl) JK) ?_;refine GW Abh (mG (rk:=[]) rfl rfl hsv) rfl ⟨_,_,_,_,rfl,[],0,0,⟨#[]⟩,0,0,0,0,[],0,GB,YH,rfl,.mk _ _ _ _ AD N1 AA hw,h1.1,?_,AA⟩;simp[BF,Gw.wt,Gw.HS];omega
def wX(hL:Ii L){M:Int}(I0:∀a e b n,At L a->mu L a e<=M->e=0->PSt L a e b n){YH:Int}:∀(c:Nat) {a e b n:Int} (ha:At L a) (hm:mu L a e<=M) (hc:mu L a e<=c) (l:List GD) (hw:∀x∈l,x.WF) (HM:l.length<=16) (hW:(Ax l:Int)+mu L a e<=mu L a0 e0) (hP:mu L a e<mu L a0 e0),
   ∃k,∀(hp:HO) (Od:LP) (JK:Od.length=12),RG 0 1 (λr c=>∃a' e' b' n',c=[cells L a' e' b' n']/\∃GL f s nm tk tl i m GP Mr GB GY,r=.agg [.GV (GL.map GC),I f,I s,.Gh nm,I tk,I tl,I i,I m,.GV (BB GP),I Mr,.GV (GB.map A8),I GY]/\(Item.mk GL (.mk f s nm tk tl i m GP Mr) GB GY).WF/\At L a'/\((Item.mk GL (.mk f s nm tk tl i m GP Mr) GB GY).wt:Int)+mu L a' e'<=mu L a0 e0/\mu L a' e'<mu L a0 e0) k (.GN 0 0) (.GN 1 0) (.GN 2 0)
    (Qx [.box (cells L a e b n),.box Od,.box [.nil,I 0,I 0,.Gh ⟨#[]⟩,I 0,I 0,I 0,I 0,.nil,I 0,.HL 3 (l.map A8),I YH],.HE (l.map A8).length 6] hp 4):=by
 intro c
 induction c with
 |zero=>
  intro a e b n ha hm hc l hw HM hW hP;have he:e≠0:=λh=>by have:=Om ha h;omega
  exact AeD
 |succ c ih=>
  intro a e b n ha hm hc l hw HM hW hP;by_cases he:e=0
  case neg=>
   exact AeD
  case pos=>
   have h2:=ew (e:=e) (b:=b) (n:=n) ha ⟨#[115,116,97,116,101]⟩;cases dk:TK L a e ⟨#[115,116,97,116,101]⟩with
   |false=>
    rw[dk]at h2;refine⟨1,λhp Od JK=>?_⟩;show KY _ _ _ _ _ _ _ _;unfold KY;refine zv ?_;refine GF (λh=>?_) AbT;refine AZb h2 ?_;refine GF (λh=>?_) λh=>?_
    .obtain⟨r,c0,pM,a1,e1,b1,n1,rfl,rfl,rfl,Nl,rfl⟩:=Xn (b:=b) (n:=n) (e:=e) hL ha (x:=12) AA;refine AZa pM ?_;unfold Qi;exact AfV
    .unfold Qi;exact IF (MR 0 1 _ _ _ _) rfl rfl rfl rfl λJs=>QZ hL ha (GB:=l) rfl rfl hw HM hW hP JK
   |true=>
    rw[dk]at h2;by_cases KM:(16:Int)<=((l.map A8).length:Int)
    .obtain⟨e1,b1,Nl,Jy⟩:=Nb (b:=b) (n:=n) (e:=e) hL ha KM;refine⟨1,λhp Od JK=>?_⟩;show KY _ _ _ _ _ _ _ _;unfold KY;refine zv ?_;refine GF (λh=>?_) AbT;refine AZb h2 ?_;refine AZb Jy ?_;exact AfV
    .have Jy:=Na (b:=b) (n:=n) (e:=e) hL ha (Dd.1 KM);obtain⟨r,cc,I4,a2,e2,b2,n2,rfl,nm,JB,Jg,GA,GQ,NO,rfl,S3,Lt,Me⟩:=I0 a e b n ha hm he;have AHR:e2=0->mu L a2 e2<mu L a e:=λh=>by simp only[BG]at Me;omega
     have Gl:(l++[GD.mk nm JB Jg GA GQ NO]).map A8=l.map A8++[[.Gh nm,.GV (JB.map Aw),.GV (Jg.map Aw),.GV (GA.map Am),.GV (GQ.map Aq),I NO]]:=by
      rw[Bu,<- Rg];rfl
     have bQ:Ax (l++[GD.mk nm JB Jg GA GQ NO])=Ax l+(GD.mk nm JB Jg GA GQ NO).wt:=by rw[GD.HY];simp[Ax]
     have YN:∀x∈l++[GD.mk nm JB Jg GA GQ NO],x.WF:=λx hx=>by
      exact Adq
     obtain⟨k,hk⟩:=ih (e:=e2) (b:=b2) (n:=n2) Lt AaF AZt (l++[GD.mk nm JB Jg GA GQ NO]) YN AaL AbJ Aaz;refine⟨k+1,λhp Od JK=>?_⟩;show KY _ _ _ _ _ _ _ _;unfold KY;refine zv ?_;refine GF (λh=>?_) AbT;refine AZb h2 ?_;refine AZb Jy ?_;refine AWe I4 ?_;refine AZc (Jp rfl rfl (G4 AB AA) (HQ km) zh (.inr rfl)) ?_;refine⟨by kernel_rfl,?_⟩;rw[<- Gl];exact LW (RG 0 1 _ k _ _ _) rfl rfl rfl AZp rfl λJs=>hk Js Od JK
def wY(hL:Ii L){M:Int}(I0:∀a e b n,At L a->mu L a e<=M->e=0->PSt L a e b n){YH:Int}:∀(c:Nat) {a e b n:Int} (ha:At L a) (hm:mu L a e<=M) (hc:mu L a e<=c) (hW:(Ax ([]:List GD):Int)+mu L a e<=mu L a0 e0) (hP:mu L a e<mu L a0 e0),
  ∃k,∀(hp:HO) (Od:LP) (JK:Od.length=12),RG 0 1 (λr c=>∃a' e' b' n',c=[cells L a' e' b' n']/\∃GL f s nm tk tl i m GP Mr GB GY,r=.agg [.GV (GL.map GC),I f,I s,.Gh nm,I tk,I tl,I i,I m,.GV (BB GP),I Mr,.GV (GB.map A8),I GY]/\(Item.mk GL (.mk f s nm tk tl i m GP Mr) GB GY).WF/\At L a'/\((Item.mk GL (.mk f s nm tk tl i m GP Mr) GB GY).wt:Int)+mu L a' e'<=mu L a0 e0/\mu L a' e'<mu L a0 e0) k (.GN 0 0) (.GN 1 0) (.GN 2 0)
   (Qx [.box (cells L a e b n),.box Od,.box [.nil,I 0,I 0,.Gh ⟨#[]⟩,I 0,I 0,I 0,I 0,.nil,I 0,.nil,I YH]] hp 3):=by
 intro c;intro a e b n ha hm hc hW hP;by_cases he:e=0
 case neg=>
  refine⟨1,λhp Od JK=>?_⟩;show KY _ _ _ _ _ _ _ _;unfold KY;refine zv ?_;refine GF Abg λh=>?_;exact IF (MR 0 1 _ _ _ _) rfl rfl rfl rfl λJs=>QZ hL ha (GB:=[]) rfl rfl AD AD hW hP JK
 case pos=>
  have h2:=ew (e:=e) (b:=b) (n:=n) ha ⟨#[115,116,97,116,101]⟩;cases dk:TK L a e ⟨#[115,116,97,116,101]⟩with
  |false=>
   rw[dk]at h2;obtain⟨r,c0,pM,a1,e1,b1,n1,rfl,rfl,rfl,Nl,rfl⟩:=Xn (b:=b) (n:=n) (e:=e) hL ha (x:=12) AA;refine⟨1,λhp Od JK=>?_⟩;show KY _ _ _ _ _ _ _ _;unfold KY;refine zv ?_;refine GF (λh=>?_) AbT;refine AZb h2 ?_;refine GF (λh=>?_) (λh=>by simp at h);refine AZa pM ?_;unfold Qi;exact AfT
  |true=>
   rw[dk]at h2;by_cases KM:(16:Int)<=(0:Int)
   .obtain⟨e1,b1,Nl,Jy⟩:=Nb (b:=b) (n:=n) (e:=e) hL ha KM;refine⟨1,λhp Od JK=>?_⟩;show KY _ _ _ _ _ _ _ _;unfold KY;refine zv ?_;refine GF (λh=>?_) AbT;refine AZb h2 ?_;refine AZb Jy ?_;exact AfT
   .have Jy:=Na (b:=b) (n:=n) (e:=e) hL ha (Dd.1 KM);obtain⟨r,cc,I4,a2,e2,b2,n2,rfl,nm,JB,Jg,GA,GQ,NO,rfl,S3,Lt,Me⟩:=I0 a e b n ha hm he;have AHR:e2=0->mu L a2 e2<mu L a e:=λh=>by simp only[BG]at Me;omega
    have Gl:(([]:List GD)++[GD.mk nm JB Jg GA GQ NO]).map A8=[[.Gh nm,.GV (JB.map Aw),.GV (Jg.map Aw),.GV (GA.map Am),.GV (GQ.map Aq),I NO]]:=by
     rw[Bu,<- Rg];rfl
    have bQ:Ax (([]:List GD)++[GD.mk nm JB Jg GA GQ NO])=Ax ([]:List GD)+(GD.mk nm JB Jg GA GQ NO).wt:=by rw[GD.HY];simp[Ax]
    have YN:∀x∈([]:List GD)++[GD.mk nm JB Jg GA GQ NO],x.WF:=λx hx=>by
     exact AgY
    obtain⟨k,hk⟩:=wX (a0:=a0) (e0:=e0) (YH:=YH) hL I0 (mu L a2 e2).toNat (e:=e2) (b:=b2) (n:=n2) Lt AaF AZt (([]:List GD)++[GD.mk nm JB Jg GA GQ NO]) YN AD (by rw[bQ];simp only[Ax];omega) Aaz;refine⟨k+1,λhp Od JK=>?_⟩;show KY _ _ _ _ _ _ _ _;unfold KY;refine zv ?_;refine GF (λh=>?_) AbT;refine AZb h2 ?_;refine AZb Jy ?_;refine AWe I4 ?_;refine AZc AcC ?_;refine⟨by kernel_rfl,?_⟩;rw[<- Gl];exact LW (RG 0 1 _ k _ _ _) rfl rfl rfl rfl rfl λJs=>hk Js Od JK
end
end
section
open Go.Proofs
attribute [local irreducible] Lj OR MZ MR Qi
section
variable{L:List PT} {a e b n a0 e0:Int}
def Tv(hL:Ii L)(ha:At L a){GL:List BA}{nv:PV}(pI:nv.data=some (.GV (GL.map GC)))(hns:nv.IT=true)(xp:mu L a0 e0<=20000)(hW:(GL.length:Int)+mu L a e<=mu L a0 e0)(hP:mu L a e<mu L a0 e0)
  {Od:LP}(JK:Od.length=12){hp:HO}{nx:Nat}{YH:Int}:
  MZ 0 1 (λr c=>∃a' e' b' n',c=[cells L a' e' b' n']/\∃GL f s nm tk tl i m GP Mr GB GY,r=.agg [.GV (GL.map GC),I f,I s,.Gh nm,I tk,I tl,I i,I m,.GV (BB GP),I Mr,.GV (GB.map A8),I GY]/\(Item.mk GL (.mk f s nm tk tl i m GP Mr) GB GY).WF/\At L a'/\((Item.mk GL (.mk f s nm tk tl i m GP Mr) GB GY).wt:Int)+mu L a' e'<=mu L a0 e0/\mu L a' e'<mu L a0 e0)
   (.GN 0 0) (.GN 1 0) (.GN 2 0) (Qx [.box (cells L a e b n),.box Od,.box [nv,I 0,I 0,.Gh ⟨#[]⟩,I 0,I 0,I 0,I 0,.nil,I 0,.nil,I YH]] hp nx):=by
 unfold MZ;refine H6 hL rfl ha λa1 e1 b1 h1=>?_;have YK:=h1.le ha;refine(xf hL _ a1 e1 b1 n h1.1 (Ct _)).call rfl rfl λf2 s2 YO YR YS i2 m2 LM NO a2 e2 b2 n2 S3 Lt Me=>?_;refine zv ?_;refine H6 hL rfl Lt λa3 e3 b3 h3=>?_;have mg:=h3.le Lt;refine zv ?_;refine Fy (IZ rfl rfl (by simp only[List.take,List.drop,List.cons_append,CC,CE,List.length_nil,Co,hns];rfl) JK) ?_;refine GW Abh (mG (rs:=[]) pI rfl rfl) rfl ⟨_,_,_,_,rfl,GL,f2,s2,YO,YR,YS,i2,m2,LM,NO,[],YH,rfl,.mk _ _ _ _ AJ S3 AD AD,h3.1,?_,AA⟩;simp only[BF,Ax];omega
def Ou(ha:At L a):PC BZ 119 [.GN 0 0] [cells L a e b n] (.agg (Hf L a).GG) [cells L a e b n]:=by obtain⟨r,c,IE,a',e',b',n',hc,hr,h1,h2,h3,h4⟩:=qG (b:=b) (n:=n) (e:=e) (a:=a) ha;exact AeZ
def AAa(hL:Ii L)(xp:mu L a0 e0<=20000){YH:Int}:∀(c:Nat) {a e b n:Int} (ha:At L a) (hc:mu L a e<=c) (l:List BA) (hW:(l.length:Int)+mu L a e<=mu L a0 e0) (hP:mu L a e<mu L a0 e0),
   ∃k,∀(hp:HO) (Od:LP) (JK:Od.length=12),Lk 0 1 (λr c=>∃a' e' b' n',c=[cells L a' e' b' n']/\∃GL f s nm tk tl i m GP Mr GB GY,r=.agg [.GV (GL.map GC),I f,I s,.Gh nm,I tk,I tl,I i,I m,.GV (BB GP),I Mr,.GV (GB.map A8),I GY]/\(Item.mk GL (.mk f s nm tk tl i m GP Mr) GB GY).WF/\At L a'/\((Item.mk GL (.mk f s nm tk tl i m GP Mr) GB GY).wt:Int)+mu L a' e'<=mu L a0 e0/\mu L a' e'<mu L a0 e0) k (.GN 0 0) (.GN 1 0) (.GN 2 0)
    (Qx [.box (cells L a e b n),.box Od,.box [.HL 3 (l.map GC),I 0,I 0,.Gh ⟨#[]⟩,I 0,I 0,I 0,I 0,.nil,I 0,.nil,I YH],.HE (l.map GC).length 1] hp 4):=by
 intro c
 induction c with
 |zero=>
  intro a e b n ha hc l hW hP;have he:e≠0:=λh=>by have:=Om ha h;omega
  exact Adn
 |succ c ih=>
  intro a e b n ha hc l hW hP;by_cases he:e=0
  case neg=>
   exact Adn
  case pos=>
   have SA:=Ou (e:=e) (b:=b) (n:=n) ha
   have Ju:∃k,∀(hp:HO) (Od:LP) (JK:Od.length=12),Lj 0 1 (λr c=>∃a' e' b' n',c=[cells L a' e' b' n']/\∃GL f s nm tk tl i m GP Mr GB GY,r=.agg [.GV (GL.map GC),I f,I s,.Gh nm,I tk,I tl,I i,I m,.GV (BB GP),I Mr,.GV (GB.map A8),I GY]/\(Item.mk GL (.mk f s nm tk tl i m GP Mr) GB GY).WF/\At L a'/\((Item.mk GL (.mk f s nm tk tl i m GP Mr) GB GY).wt:Int)+mu L a' e'<=mu L a0 e0/\mu L a' e'<mu L a0 e0) (Lk 0 1 (λr c=>∃a' e' b' n',c=[cells L a' e' b' n']/\∃GL f s nm tk tl i m GP Mr GB GY,r=.agg [.GV (GL.map GC),I f,I s,.Gh nm,I tk,I tl,I i,I m,.GV (BB GP),I Mr,.GV (GB.map A8),I GY]/\(Item.mk GL (.mk f s nm tk tl i m GP Mr) GB GY).WF/\At L a'/\((Item.mk GL (.mk f s nm tk tl i m GP Mr) GB GY).wt:Int)+mu L a' e'<=mu L a0 e0/\mu L a' e'<mu L a0 e0) k) (.GN 0 0) (.GN 1 0) (.GN 2 0)
    (Qx [.box (cells L a e b n),.box Od,.box [.HL 3 (l.map GC),I 0,I 0,.Gh ⟨#[]⟩,I 0,I 0,I 0,I 0,.nil,I 0,.nil,I YH],.HE (l.map GC).length 1] hp 4):=by
    obtain⟨w,a3,e3,b3,TJ,Wq⟩:=gS (b:=b) (n:=n) (e:=e) hL ha;have SR:=Wq.1;have mg:=Wq.2.1 he
    have Gl:(l++[w]).map GC=l.map GC++[[.Gh w]]:=by
     rw[Bu];rfl
    have hW':((l++[w]).length:Int)+mu L a3 e3<=mu L a0 e0:=by simp at hW⊢;omega
    cases fS:TK L a3 e3 ⟨#[44]⟩with
    |false=>
     refine⟨0,λhp Od JK=>?_⟩;unfold Lj;refine zv ?_;refine AWe TJ ?_;refine AZc AcL ?_;refine⟨by kernel_rfl,?_⟩;refine AZb (Nw hL SR fS) ?_;rw[<- Gl];unfold OR;refine H6 hL rfl SR λa9 e9 b9 h9=>?_;have hl9:=h9.le SR;exact IF (MZ 0 1 _ _ _ _) rfl rfl rfl rfl λJs=>Tv hL h9.1 (GL:=(l++[w])) rfl rfl xp AA AA JK
    |true=>
     obtain⟨he3,qR⟩:=L8 hL SR fS;have G7:mu L (a3+1) e3<mu L a3 e3:=by rw[Ha he3,Ha he3];omega
     obtain⟨k,hk⟩:=ih (e:=e3) (b:=b3) (n:=n) qR Aav (l++[w]) AA AA;refine⟨k,λhp Od JK=>?_⟩;unfold Lj;refine zv ?_;refine AWe TJ ?_;refine AZc AcL ?_;refine⟨by kernel_rfl,?_⟩;refine AZb (Nx hL SR fS) ?_;rw[<- Gl];exact LW (Lk 0 1 _ k _ _ _) rfl rfl rfl AZp rfl λJs=>hk Js Od JK
   by_cases LX:(Hf L a).kind=1
   .by_cases KM:(16:Int)<=((l.map GC).length:Int)
    .obtain⟨e1,b1,Nl,Jy⟩:=Nb (b:=b) (n:=n) (e:=e) hL ha KM;refine⟨1,λhp Od JK=>?_⟩;show Jj _ _ _ _ _ _ _ _;unfold Jj;refine zv ?_;refine GF (λh=>?_) AbT;refine AZb SA ?_;refine GF (λh=>?_) AdJ;refine zv ?_;refine AZb Jy ?_;refine GW Abh rfl rfl ⟨_,_,_,_,rfl,l,0,0,⟨#[]⟩,0,0,0,0,[],0,[],YH,rfl,.mk _ _ _ _ AJ N1 AD AD,BQ hL,?_,by rw[Kg Nl];have:=Qp (e:=e) ha;omega⟩;simp[BF,Ax,Gw.wt,Gw.HS];rw[Kg Nl];have:=Qp (e:=e) ha;skip;omega
    .have Jy:=Na (b:=b) (n:=n) (e:=e) hL ha (Dd.1 KM);obtain⟨k,hk⟩:=Ju;refine⟨k+1,λhp Od JK=>?_⟩;show Jj _ _ _ _ _ _ _ _;unfold Jj;refine zv ?_;refine GF (λh=>?_) AbT;refine AZb SA ?_;refine GF (λh=>?_) AdJ;refine zv ?_;refine AZb Jy ?_;exact Af6
   .obtain⟨k,hk⟩:=Ju;refine⟨k+1,λhp Od JK=>?_⟩;show Jj _ _ _ _ _ _ _ _;unfold Jj;refine zv ?_;refine GF (λh=>?_) AbT;refine AZb SA ?_;refine GF (λh=>Zq AE LX) λh=>?_;exact Af6
def AAb(hL:Ii L)(xp:mu L a0 e0<=20000){YH:Int}:∀(c:Nat) {a e b n:Int} (ha:At L a) (hc:mu L a e<=c) (hW:(([]:List BA).length:Int)+mu L a e<=mu L a0 e0) (hP:mu L a e<mu L a0 e0),
  ∃k,∀(hp:HO) (Od:LP) (JK:Od.length=12),Lk 0 1 (λr c=>∃a' e' b' n',c=[cells L a' e' b' n']/\∃GL f s nm tk tl i m GP Mr GB GY,r=.agg [.GV (GL.map GC),I f,I s,.Gh nm,I tk,I tl,I i,I m,.GV (BB GP),I Mr,.GV (GB.map A8),I GY]/\(Item.mk GL (.mk f s nm tk tl i m GP Mr) GB GY).WF/\At L a'/\((Item.mk GL (.mk f s nm tk tl i m GP Mr) GB GY).wt:Int)+mu L a' e'<=mu L a0 e0/\mu L a' e'<mu L a0 e0) k (.GN 0 0) (.GN 1 0) (.GN 2 0)
   (Qx [.box (cells L a e b n),.box Od,.box [.nil,I 0,I 0,.Gh ⟨#[]⟩,I 0,I 0,I 0,I 0,.nil,I 0,.nil,I YH]] hp 3):=by
 intro c;intro a e b n ha hc hW hP;by_cases he:e=0
 case neg=>
  refine⟨1,λhp Od JK=>?_⟩;show Jj _ _ _ _ _ _ _ _;unfold Jj;refine zv ?_;refine GF Abg λh=>?_;unfold OR;refine H6 hL rfl ha λa9 e9 b9 h9=>?_;have hl9:=h9.le ha;exact IF (MZ 0 1 _ _ _ _) rfl rfl rfl rfl λJs=>Tv hL h9.1 (GL:=[]) rfl rfl xp AA AA JK
 case pos=>
  have SA:=Ou (e:=e) (b:=b) (n:=n) ha
  have Ju:∃k,∀(hp:HO) (Od:LP) (JK:Od.length=12),Lj 0 1 (λr c=>∃a' e' b' n',c=[cells L a' e' b' n']/\∃GL f s nm tk tl i m GP Mr GB GY,r=.agg [.GV (GL.map GC),I f,I s,.Gh nm,I tk,I tl,I i,I m,.GV (BB GP),I Mr,.GV (GB.map A8),I GY]/\(Item.mk GL (.mk f s nm tk tl i m GP Mr) GB GY).WF/\At L a'/\((Item.mk GL (.mk f s nm tk tl i m GP Mr) GB GY).wt:Int)+mu L a' e'<=mu L a0 e0/\mu L a' e'<mu L a0 e0) (Lk 0 1 (λr c=>∃a' e' b' n',c=[cells L a' e' b' n']/\∃GL f s nm tk tl i m GP Mr GB GY,r=.agg [.GV (GL.map GC),I f,I s,.Gh nm,I tk,I tl,I i,I m,.GV (BB GP),I Mr,.GV (GB.map A8),I GY]/\(Item.mk GL (.mk f s nm tk tl i m GP Mr) GB GY).WF/\At L a'/\((Item.mk GL (.mk f s nm tk tl i m GP Mr) GB GY).wt:Int)+mu L a' e'<=mu L a0 e0/\mu L a' e'<mu L a0 e0) k) (.GN 0 0) (.GN 1 0) (.GN 2 0)
   (Qx [.box (cells L a e b n),.box Od,.box [.nil,I 0,I 0,.Gh ⟨#[]⟩,I 0,I 0,I 0,I 0,.nil,I 0,.nil,I YH]] hp 3):=by
   obtain⟨w,a3,e3,b3,TJ,Wq⟩:=gS (b:=b) (n:=n) (e:=e) hL ha;have SR:=Wq.1;have mg:=Wq.2.1 he
   have Gl:(([]:List BA)++[w]).map GC=[[.Gh w]]:=by
    rfl
   have hW':((([]:List BA)++[w]).length:Int)+mu L a3 e3<=mu L a0 e0:=by simp at hW⊢;omega
   cases fS:TK L a3 e3 ⟨#[44]⟩with
   |false=>
    refine⟨0,λhp Od JK=>?_⟩;unfold Lj;refine zv ?_;refine AWe TJ ?_;refine AZc AcC ?_;refine⟨by kernel_rfl,?_⟩;refine AZb (Nw hL SR fS) ?_;rw[<- Gl];unfold OR;refine H6 hL rfl SR λa9 e9 b9 h9=>?_;have hl9:=h9.le SR;exact IF (MZ 0 1 _ _ _ _) rfl rfl rfl rfl λJs=>Tv hL h9.1 (GL:=(([]:List BA)++[w])) rfl rfl xp AA AA JK
   |true=>
    obtain⟨he3,qR⟩:=L8 hL SR fS;have G7:mu L (a3+1) e3<mu L a3 e3:=by rw[Ha he3,Ha he3];omega
    obtain⟨k,hk⟩:=AAa (a0:=a0) (e0:=e0) (YH:=YH) hL xp (mu L (a3+1) e3).toNat (e:=e3) (b:=b3) (n:=n) qR Aav (([]:List BA)++[w]) AA AA;refine⟨k,λhp Od JK=>?_⟩;unfold Lj;refine zv ?_;refine AWe TJ ?_;refine AZc AcC ?_;refine⟨by kernel_rfl,?_⟩;refine AZb (Nx hL SR fS) ?_;rw[<- Gl];exact LW (Lk 0 1 _ k _ _ _) rfl rfl rfl rfl rfl λJs=>hk Js Od JK
  by_cases LX:(Hf L a).kind=1
  .by_cases KM:(16:Int)<=(0:Int)
   .obtain⟨e1,b1,Nl,Jy⟩:=Nb (b:=b) (n:=n) (e:=e) hL ha KM;refine⟨1,λhp Od JK=>?_⟩;show Jj _ _ _ _ _ _ _ _;unfold Jj;refine zv ?_;refine GF (λh=>?_) AbT;refine AZb SA ?_;refine GF (λh=>?_) AdJ;refine zv ?_;refine AZb Jy ?_;refine GW Abh rfl rfl ⟨_,_,_,_,rfl,([]:List BA),0,0,⟨#[]⟩,0,0,0,0,[],0,[],YH,rfl,.mk _ _ _ _ AD N1 AD AD,BQ hL,?_,by rw[Kg Nl];have:=Qp (e:=e) ha;omega⟩;simp[BF,Ax,Gw.wt,Gw.HS];rw[Kg Nl];have:=Qp (e:=e) ha;simp at hW;omega
   .have Jy:=Na (b:=b) (n:=n) (e:=e) hL ha (Dd.1 KM);obtain⟨k,hk⟩:=Ju;refine⟨k+1,λhp Od JK=>?_⟩;show Jj _ _ _ _ _ _ _ _;unfold Jj;refine zv ?_;refine GF (λh=>?_) AbT;refine AZb SA ?_;refine GF (λh=>?_) AdJ;refine zv ?_;refine AZb Jy ?_;exact AgJ
  .obtain⟨k,hk⟩:=Ju;refine⟨k+1,λhp Od JK=>?_⟩;show Jj _ _ _ _ _ _ _ _;unfold Jj;refine zv ?_;refine GF (λh=>?_) AbT;refine AZb SA ?_;refine GF (λh=>Zq AE LX) λh=>?_;exact AgJ
end
end
section
open Go.Proofs
attribute [local irreducible] Lj OR MZ MR Qi
section
variable{L:List PT} {a e b n:Int}
def yR(hL:Ii L)(ha:At L a):mu L a e<=20000:=by have:=hL.le;unfold mu;unfold At at ha;split<;>omega
def AHk(hL:Ii L){M:Int}(I0:∀a e b n,At L a->mu L a e<M->e=0->PSt L a e b n)(ha:At L a)(hm:mu L a e<=M)(he:e=0):PIt L a e b n:=by
 have hs:=Oq hL ha;have xp:=yR (e:=e) hL ha;refine AGV 0 rfl _ ?_;unfold APa;refine zv ?_;refine NX rfl ha ?_;refine zv ?_;refine PM rfl ha ?_;cases hi:TK L a e ⟨#[97,117,116,111,109,97,116,111,110]⟩with
 |true=>
  obtain⟨_,MI⟩:=L8 hL ha hi;have G7:mu L (a+1) e<mu L a e:=by rw[Ha he,Ha he];omega
  refine zv ?_;refine GF (λh=>?_) λh=>?_
  .have he0:=he;refine KA hL AA rfl ha λe' b' he=>?_;refine zv ?_;refine GW Abh rfl rfl ⟨_,_,_,_,rfl,[],0,0,⟨#[]⟩,0,0,0,0,[],0,[],_,rfl,.mk _ _ _ _ AD N1 AD AD,BQ hL,?_,by rw[Kg he];exact Om ha he0⟩;simp[BF,Ax,Gw.wt,Gw.HS];rw[Kg he];exact Qp ha
  .refine zv ?_;obtain⟨k,hk⟩:=wY (a0:=a) (e0:=e) (YH:=(Hf L a).GY) hL (M:=mu L (a+1) e) (λa e b n h1 h2 h3=>I0 a e b n h1 AA h3) (mu L (a+1) e).toNat (a:=IntKind.i64.wrap (a+1)) (e:=e) (b:=b) (n:=IntKind.i64.wrap (n+1)) AM AO (by rw[hs];have:=Qp (e:=e) MI;omega) (by rw[hs];simp only[Ax];omega) (by rw[hs];exact G7);refine⟨k,?_⟩;exact IF (RG 0 1 _ k _ _ _) rfl rfl rfl rfl λJs=>hk Js _ rfl
 |false=>
  refine zv ?_;refine Ln hL rfl ha (λdk=>?_) λdk he MI=>?_
  .refine zv ?_;refine Nr hL rfl ha λw a1 e1 b1 h1=>?_;have YK:=h1.2.1 he;refine zv ?_;exact IF (MZ 0 1 _ _ _ _) rfl rfl rfl rfl λJs=>Tv hL h1.1 (GL:=[w]) rfl rfl xp AB AA rfl
  .have G7:mu L (a+1) e<mu L a e:=by rw[Ha he,Ha he];omega
   refine zv ?_;obtain⟨k,hk⟩:=AAb (a0:=a) (e0:=e) hL xp (YH:=(Hf L a).GY) (mu L (a+1) e).toNat (a:=a+1) (e:=e) (b:=b) (n:=n) MI (by have:=Qp (e:=e) MI;omega) AB G7;refine⟨k,?_⟩;exact IF (Lk 0 1 _ k _ _ _) rfl rfl rfl rfl λJs=>hk Js _ rfl
def NB{l:List Item}:∀r∈l.map Aq,r.length=12:=by intro r hr;exact Afd
def zU(hL:Ii L)(ha:At L a):∃g:Bool,PC BZ 161 [.GN 0 0] [cells L a e b n] (.bool g) [cells L a e b n]/\(g=true->e=0):=by
 obtain⟨r,c,IE,a',e',b',n',hc,h1,h2,h3,h4,h5|⟨h5,h6⟩⟩:=zV (b:=b) (n:=n) (e:=e) hL ha
 .rw[h1,h2,h3,h4]at hc;rw[h5,hc]at IE;exact⟨false,IE,AD⟩
 .rw[h1,h2,h3,h4]at hc;rw[h5,hc]at IE;exact⟨true,IE,λ_=>h6⟩
def r6{GL:List BA}{f s tk tl i m Mr GY:Int}{nm:BA}{GP:List Gw}{GB:List GD}:(Item.mk GL (.mk f s nm tk tl i m GP Mr) GB GY).GG=[.GV (GL.map GC),I f,I s,.Gh nm,I tk,I tl,I i,I m,.GV (BB GP),I Mr,.GV (GB.map A8),I GY]:=by rw[Item.IC];simp only[Item.GL,Item.e,Item.GB,Item.GY,Gw.GG];rfl
def vU(hL:Ii L){M:Int}(Zs:∀a e b n,At L a->mu L a e<=M->e=0->PIt L a e b n){Q:PV->Int->Int->Int->Int->Prop}:∀(c:Nat) {a e b n:Int} (ha:At L a) (hm:mu L a e<=M) (hc:mu L a e<=c) (l:List Item) (hw:∀x∈l,x.WF) (HM:l.length<=200) {eo:Nat} (Uo:l.map Aq=[]\/eo=12)
   (hQ:∀(l':List Item) a' e' b' n',(∀x∈l',x.WF)->l'.length<=200->At L a'->(As l':Int)+mu L a' e'<=As l+mu L a e->Q (.HL 12 (l'.map Aq)) a' e' b' n'),
   ∃k,∀(hp:HO) (o1:Obj),Yp 12 1 (λr c=>∃a' e' b' n',c=[cells L a' e' b' n']/\Q r a' e' b' n') k (.GN 0 0) (.HL 2 (l.map Aq))
    (Qx [.box (cells L a e b n),o1,.HE (l.map Aq).length eo] hp 3):=by
 intro c
 induction c with
 |zero=>
  intro a e b n ha hm hc l hw HM eo Uo hQ;have he:e≠0:=λh=>by have:=Om ha h;omega
  exact AeK
 |succ c ih=>
  intro a e b n ha hm hc l hw HM eo Uo hQ;by_cases he:e=0
  case neg=>
   exact AeK
  case pos=>
   obtain⟨g,hg,hge⟩:=zU (b:=b) (n:=n) (e:=e) hL ha;cases g with
   |false=>
    obtain⟨r,c0,pM,a1,e1,b1,n1,rfl,rfl,rfl,Nl,rfl⟩:=Xn (b:=b) (n:=n) (e:=e) hL ha (x:=12) AA;refine⟨1,λhp o1=>?_⟩;show PG _ _ _ _ _ _ _;unfold PG;refine zv ?_;refine GF AbT λh=>?_;refine AZb hg ?_;refine GF (λh=>?_) λh=>?_
    .refine AZa pM ?_;unfold aG;refine zv ?_;exact AgT
    .unfold aG;refine zv ?_;refine GW rfl Acv rfl ⟨_,_,_,_,rfl,hQ _ _ _ _ _ hw HM ha (Ct _)⟩
   |true=>
    by_cases KM:(200:Int)<=((l.map Aq).length:Int)
    .obtain⟨e1,b1,Nl,Jy⟩:=Nb (b:=b) (n:=n) (e:=e) hL ha KM;refine⟨1,λhp o1=>?_⟩;show PG _ _ _ _ _ _ _;unfold PG;refine zv ?_;refine GF AbT λh=>?_;refine AZb hg ?_;refine AZb Jy ?_;exact AgT
    .have Jy:=Na (b:=b) (n:=n) (e:=e) hL ha (Dd.1 KM);obtain⟨r,cc,I4,a2,e2,b2,n2,rfl,GL,f,s,nm,tk,tl,i,m,GP,Mr,GB,NO,rfl,S3,Lt,Me,AHR⟩:=Zs a e b n ha hm he
     have Gl:(l++[Item.mk GL (.mk f s nm tk tl i m GP Mr) GB NO]).map Aq=l.map Aq++[[.GV (GL.map GC),I f,I s,.Gh nm,I tk,I tl,I i,I m,.GV (BB GP),I Mr,.GV (GB.map A8),I NO]]:=by
      rw[Bu,<- r6];rfl
     have bQ:As (l++[Item.mk GL (.mk f s nm tk tl i m GP Mr) GB NO])=As l+(Item.mk GL (.mk f s nm tk tl i m GP Mr) GB NO).wt:=by rw[Item.HY];simp[As]
     have YN:∀x∈l++[Item.mk GL (.mk f s nm tk tl i m GP Mr) GB NO],x.WF:=λx hx=>by
      exact Adq
     obtain⟨k,hk⟩:=ih (e:=e2) (b:=b2) (n:=n2) Lt AA AA (l++[Item.mk GL (.mk f s nm tk tl i m GP Mr) GB NO]) YN AaL (eo:=12) (.inr rfl) λl' a' e' b' n' h1 h2 h3 h4=>hQ l' a' e' b' n' h1 h2 h3 Aap;refine⟨k+1,λhp o1=>?_⟩;show PG _ _ _ _ _ _ _;unfold PG;refine zv ?_;refine GF AbT λh=>?_;refine AZb hg ?_;refine AZb Jy ?_;refine AZb I4 ?_;refine pQ_v (Jp rfl rfl (G4 AB AA) (HQ NB) rfl (Uo.imp (λh=>by rw[h];rfl) λh=>h.symm)) ?_;rw[<- Gl];exact IF (Yp 12 1 _ k _ _) rfl rfl AZp rfl λJs=>hk Js _
def ADq(hL:Ii L){M:Int}(Zs:∀a e b n,At L a->mu L a e<=M->e=0->PIt L a e b n)(ha:At L a)(hm:mu L a e<=M):PIs L a e b n:=by
 obtain⟨k,hk⟩:=vU hL Zs (mu L a e).toNat (a:=a) (e:=e) (b:=b) (n:=n) ha hm AJ [] AD AD (eo:=0) (.inl rfl)
  (Q:=λr a' e' b' n'=>∃l:List Item,r=.HL 12 (l.map Aq)/\(∀x∈l,x.WF)/\l.length<=200/\At L a'/\(As l:Int)+mu L a' e'<=mu L a e) λl' a' e' b' n' h1 h2 h3 h4=>⟨l',rfl,h1,h2,h3,by simpa[As]using h4⟩
 refine AGO 12 rfl _ ?_;unfold APT;refine zv ?_;refine⟨k,?_⟩;exact IF (Yp 12 1 _ k _ _) rfl rfl rfl rfl λJs=>hk Js _
def AAO(hL:Ii L)(TI:∀a e b n,At L a->PLs L a e b n):∀c:Nat,∀a e b n,At L a->mu L a e<=c->PIs L a e b n:=by
 intro c
 induction c using Nat.strongRecOn with
 |ind c ih=>
  intro a e b n ha hm;refine ADq hL (M:=c) (λa e b n ha hm he=>?_) ha hm;refine AHk hL (M:=c) (λa e b n ha hm he=>?_) ha hm he;have:=Qp (e:=e) ha;exact AE0 hL (M:=mu L a e) (λa1 e1 b1 n1 MI dk=>ih (mu L a e).toNat AA a1 e1 b1 n1 MI AA) TI ha (Ct _) he
end
end
section
open Go.Proofs
def zR{s:St}{nm:BA}{GY:Int}{bi:Nat}{v1 v2 v3:PV}{r1 r2 r3 ri:LLP}(h1:v1.data=some (.GV r1))(h2:v2.data=some (.GV r2))(h3:v3.data=some (.GV r3)):
  (bif Br 0 0 then OB (Lg [.agg [.Gh nm,v1,v2,v3,.HL bi ri,I GY]])else TV 0 s (Lg [.agg [.Gh nm,v1,v2,v3,.HL bi ri,I GY]]))=
   some (.agg [.Gh nm,.GV r1,.GV r2,.GV r3,.GV ri,I GY]):=by
 have:JC [.Gh nm,v1,v2,v3,.HL bi ri,I GY]=some [.Gh nm,.GV r1,.GV r2,.GV r3,.GV ri,I GY]:=by
  simp only[JC,h1,h2,h3];rfl
 exact AfD
def PNd(L:List PT)(a0 e0 b0 n0:Int):Prop:=PQ BZ 123 [.GN 0 0] [cells L a0 e0 b0 n0] λr c=>∃a' e' b' n',c=[cells L a' e' b' n']/\∃nm JS Hz GA GQ GY,r=.agg [.Gh nm,.GV (JS.map Am),.GV (Hz.map Am),.GV (GA.map Am),.GV (GQ.map Aq),I GY]/\(GO.mk nm JS Hz GA GQ GY).WF/\At L a'/\((GO.mk nm JS Hz GA GQ GY).wt:Int)+mu L a' e'<=mu L a0 e0
attribute [local irreducible] Sg Si
section
variable{L:List PT} {a e b n a0 e0:Int}
def kM(hL:Ii L)(TI:∀a e b n,At L a->PLs L a e b n)(ha:At L a){nm:BA}{JS Hz GA:List Ge}{v1 v2 v3:PV}(h1:v1.data=some (.GV (JS.map Am)))(h2:v2.data=some (.GV (Hz.map Am)))(h3:v3.data=some (.GV (GA.map Am)))
  (s1:v1.IT=true)(s2:v2.IT=true)(s3:v3.IT=true)(w1:TB.WF JS)(w2:TB.WF Hz)(w3:TB.WF GA)(ZI:∀v∈JS,v.Ga=[])(Tj:∀v∈Hz,v.Ga=[])(hW:(1:Int)+JS.length+Hz.length+GA.length+mu L a e<=mu L a0 e0){YH:Int}{hp:HO}{nx:Nat}{Od:LP}(JK:Od.length=6):
  Si 0 1 (λr c=>∃a' e' b' n',c=[cells L a' e' b' n']/\∃nm JS Hz GA GQ GY,r=.agg [.Gh nm,.GV (JS.map Am),.GV (Hz.map Am),.GV (GA.map Am),.GV (GQ.map Aq),I GY]/\(GO.mk nm JS Hz GA GQ GY).WF/\At L a'/\((GO.mk nm JS Hz GA GQ GY).wt:Int)+mu L a' e'<=mu L a0 e0)
   (.GN 0 0) (.GN 1 0) (.GN 2 0) (Qx [.box (cells L a e b n),.box Od,.box [.Gh nm,v1,v2,v3,.nil,I YH]] hp (nx+3)):=by
 unfold Si;refine H6 hL rfl ha λa1 e1 b1 h4=>?_;have YK:=h4.le ha;refine(AAO hL TI (mu L a1 e1).toNat a1 e1 b1 n h4.1 (by have:=Qp (e:=e1) h4.1;omega)).call rfl rfl λr a2 e2 b2 n2 h5=>?_;obtain⟨l,rfl,hwl,HM,Lt,Me⟩:=h5;refine zv ?_;refine H6 hL rfl Lt λa3 e3 b3 h6=>?_;have mg:=h6.le Lt;refine zv ?_;refine Fy (IZ rfl rfl (by simp only[Co,s1,s2,s3];rfl) JK) ?_;refine GW Abh (zR h1 h2 h3) rfl ⟨_,_,_,_,rfl,nm,JS,Hz,GA,l,YH,rfl,⟨w1,w2,w3,(show l.length<=100000 by omega),hwl,ZI,Tj⟩,h6.1,?_⟩;simp only[GO.wt];omega
def nB(hL:Ii L)(TI:∀a e b n,At L a->PLs L a e b n)(hds:∀a e b n,At L a->PDs L a e b n)(ha:At L a){nm:BA}{JS:List Ge}{v1:PV}(h1:v1.data=some (.GV (JS.map Am)))(s1:v1.IT=true)(w1:TB.WF JS)(ZI:∀v∈JS,v.Ga=[])
  (hW:(1:Int)+JS.length+mu L a e<=mu L a0 e0){YH:Int}{hp:HO}{nx:Nat}{Od:LP}(JK:Od.length=6):
  Sg 0 1 (λr c=>∃a' e' b' n',c=[cells L a' e' b' n']/\∃nm JS Hz GA GQ GY,r=.agg [.Gh nm,.GV (JS.map Am),.GV (Hz.map Am),.GV (GA.map Am),.GV (GQ.map Aq),I GY]/\(GO.mk nm JS Hz GA GQ GY).WF/\At L a'/\((GO.mk nm JS Hz GA GQ GY).wt:Int)+mu L a' e'<=mu L a0 e0)
   (.GN 0 0) (.GN 1 0) (.GN 2 0) (Qx [.box (cells L a e b n),.box Od,.box [.Gh nm,v1,.nil,.nil,.nil,I YH]] hp (nx+3)):=by
 unfold Sg;refine H6 hL rfl ha λa1 e1 b1 h4=>?_;have YK:=h4.le ha;refine H6 hL rfl h4.1 λa2 e2 b2 h5=>?_;have cM:=h5.le h4.1;refine H6 hL rfl h5.1 λa3 e3 b3 h6=>?_;have mg:=h6.le h5.1;refine(hds a3 e3 b3 n h6.1).call rfl rfl λr a4 e4 b4 n4 h7=>?_;obtain⟨Hz,rfl,w2,Tj,qR,AMd⟩:=h7;refine zv ?_;refine H6 hL rfl qR λa5 e5 b5 h8=>?_;have hl5:=h8.le qR;refine Ln hL rfl h8.1 (λdk=>?_) λdk he ha6=>?_
 .refine zv ?_;exact IF (Si 0 1 _ _ _ _) rfl rfl rfl rfl λJs=>kM hL TI h8.1 (GA:=[]) h1 rfl rfl s1 rfl rfl w1 w2 ⟨AD,AD⟩ ZI Tj AB JK
 .have G7:mu L (a5+1) e5<mu L a5 e5:=by rw[Ha he,Ha he];omega
  refine zv ?_;refine(TI (a5+1) e5 b5 n4 ha6).call rfl rfl λr a7 e7 b7 n7 h9=>?_;obtain⟨GA,rfl,w3,ha7,AMe⟩:=h9;refine zv ?_;exact IF (Si 0 1 _ _ _ _) rfl rfl rfl rfl λJs=>kM hL TI ha7 (GA:=GA) h1 rfl rfl s1 rfl rfl w1 w2 w3 ZI Tj AA JK
def AH0(hL:Ii L)(TI:∀a e b n,At L a->PLs L a e b n)(hds:∀a e b n,At L a->PDs L a e b n)(ha:At L a)(he:e=0):PNd L a e b n:=by
 refine AGC 0 rfl _ ?_;unfold APH;refine zv ?_;refine NX rfl ha ?_;refine zv ?_;refine H6 hL rfl ha λa1 e1 b1 h1=>?_;have YK:=h1.2.1 he;refine Nr hL rfl h1.1 λnm a2 e2 b2 h2=>?_;have cM:=h2.le h1.1;refine zv ?_;refine H6 hL rfl h2.1 λa3 e3 b3 h3=>?_;have mg:=h3.le h2.1;refine PM rfl h3.1 ?_;refine zv ?_;cases hi:TK L a3 e3 ⟨#[41]⟩
 .refine zv ?_;refine(hds a3 e3 b3 n h3.1).call rfl rfl λr a4 e4 b4 n4 h7=>?_;obtain⟨JS,rfl,w1,ZI,qR,AMd⟩:=h7;refine zv ?_;exact IF (Sg 0 1 _ _ _ _) rfl rfl rfl rfl λJs=>nB hL TI hds qR (JS:=JS) rfl rfl w1 ZI AA rfl (nx:=1)
 .refine zv ?_;exact IF (Sg 0 1 _ _ _ _) rfl rfl rfl rfl λJs=>nB hL TI hds h3.1 (JS:=[]) rfl rfl ⟨AD,AD⟩ AD AB rfl (nx:=0)
end
end
section
open Go.Proofs
def lj{l:List GO}:∀r∈l.map Ay,r.length=6:=AfI
attribute [local irreducible] OG
section
variable{L:List PT} {a e b n a0 e0:Int}
def Pf(hL:Ii L)(ha:At L a){LA:List GO}{v:PV}(hv:v=.nil/\LA=[]\/∃b,v=.HL b (LA.map Ay))(hw:∀x∈LA,x.WF)(HM:LA.length<=60)(hW:(BC LA:Int)+mu L a e<=mu L a0 e0){v1:PV}{hp:HO}{nx:Nat}:
  OG 0 1 (λr c=>∃a' e' b' n',c=[cells L a' e' b' n']/\∃LA:List GO,r=.agg [.GV (LA.map Ay)]/\(∀x∈LA,x.WF)/\LA.length<=60/\At L a'/\(BC LA:Int)+mu L a' e'<=mu L a0 e0) (.GN 1 0) (.GN 2 0) (Qx [.box (cells L a e b n),.box [v1],.box [v]] hp nx):=by
 unfold OG;rcases hv with⟨rfl,rfl⟩|⟨b,rfl⟩
 .refine zv ?_;refine GW Abh rfl rfl ⟨_,_,_,_,rfl,[],rfl,hw,HM,ha,hW⟩
 .refine zv ?_;refine GW Abh rfl rfl ⟨_,_,_,_,rfl,LA,rfl,hw,HM,ha,hW⟩
def fA{nm:BA}{JS Hz GA:List Ge}{GQ:List Item}{GY:Int}:(GO.mk nm JS Hz GA GQ GY).GG=[.Gh nm,.GV (JS.map Am),.GV (Hz.map Am),.GV (GA.map Am),.GV (GQ.map Aq),I GY]:=by simp only[Ay,Item.Iu]
def AAf(hL:Ii L)(KO:∀a e b n,At L a->e=0->PNd L a e b n):∀(c:Nat) {a e b n:Int} (ha:At L a) (hc:mu L a e<=c) (l:List GO) (hw:∀x∈l,x.WF) (HM:l.length<=60) (hW:(BC l:Int)+mu L a e<=mu L a0 e0),
   ∃k,∀(hp:HO) (v1:PV),Sf 0 1 (λr c=>∃a' e' b' n',c=[cells L a' e' b' n']/\∃LA:List GO,r=.agg [.GV (LA.map Ay)]/\(∀x∈LA,x.WF)/\LA.length<=60/\At L a'/\(BC LA:Int)+mu L a' e'<=mu L a0 e0) k (.GN 0 0) (.GN 1 0) (.GN 2 0)
    (Qx [.box (cells L a e b n),.box [v1],.box [.HL 3 (l.map Ay)],.HE (l.map Ay).length 6] hp 4):=by
 intro c
 induction c with
 |zero=>
  intro a e b n ha hc l hw HM hW;have he:e≠0:=λh=>by have:=Om ha h;omega
  exact Ad1
 |succ c ih=>
  intro a e b n ha hc l hw HM hW;by_cases he:e=0
  case neg=>
   exact Ad1
  case pos=>
   have SA:=Ou (e:=e) (b:=b) (n:=n) ha;have heq:(e==0)=true:=by simpa using he
   by_cases hk:(Hf L a).kind=5
   .refine⟨1,λhp v1=>?_⟩;show Ja _ _ _ _ _ _ _ _;unfold Ja;refine zv ?_;rw[heq];refine zv ?_;refine AWe SA ?_;cases h:(Hf L a).kind !=5
    case true=>exact Zq hk AE
    refine zv ?_;exact IF (OG 0 1 _ _ _) rfl rfl rfl rfl λJs=>Pf hL ha (LA:=l) (.inr ⟨_,rfl⟩) hw HM hW
   .have Rm:((Hf L a).kind !=5)=true:=by simpa using hk
    have h2:=ew (e:=e) (b:=b) (n:=n) ha ⟨#[110,111,100,101]⟩;cases dk:TK L a e ⟨#[110,111,100,101]⟩with
    |false=>
     rw[dk]at h2;obtain⟨r,c0,pM,a1,e1,b1,n1,rfl,rfl,rfl,Nl,rfl⟩:=Xn (b:=b) (n:=n) (e:=e) hL ha (x:=12) AA;refine⟨1,λhp v1=>?_⟩;show Ja _ _ _ _ _ _ _ _;unfold Ja;refine zv ?_;rw[heq];refine zv ?_;refine AWe SA ?_;rw[Rm];refine zv ?_;refine AZb h2 ?_;refine AZa pM ?_;exact AfX
    |true=>
     rw[dk]at h2;by_cases KM:(60:Int)<=((l.map Ay).length:Int)
     .obtain⟨e1,b1,Nl,Jy⟩:=Nb (b:=b) (n:=n) (e:=e) hL ha KM;refine⟨1,λhp v1=>?_⟩;show Ja _ _ _ _ _ _ _ _;unfold Ja;refine zv ?_;rw[heq];refine zv ?_;refine AWe SA ?_;rw[Rm];refine zv ?_;refine AZb h2 ?_;refine AZb Jy ?_;exact AfX
     .have Jy:=Na (b:=b) (n:=n) (e:=e) hL ha (Dd.1 KM);obtain⟨r,cc,I4,a2,e2,b2,n2,rfl,nm,JS,Hz,GA,GQ,NO,rfl,S3,Lt,Me⟩:=KO a e b n ha he;have lU:=Me;simp only[GO.wt]at lU
      have Gl:(l++[GO.mk nm JS Hz GA GQ NO]).map Ay=l.map Ay++[[.Gh nm,.GV (JS.map Am),.GV (Hz.map Am),.GV (GA.map Am),.GV (GQ.map Aq),I NO]]:=by
       rw[Bu,<- fA];rfl
      have bQ:BC (l++[GO.mk nm JS Hz GA GQ NO])=BC l+(GO.mk nm JS Hz GA GQ NO).wt:=by rw[GO.HY];simp[BC]
      have YN:∀x∈l++[GO.mk nm JS Hz GA GQ NO],x.WF:=λx hx=>by
       exact Adq
      obtain⟨k,Jm⟩:=ih (e:=e2) (b:=b2) (n:=n2) Lt Aaw (l++[GO.mk nm JS Hz GA GQ NO]) YN AaL AbJ;refine⟨k+1,λhp v1=>?_⟩;show Ja _ _ _ _ _ _ _ _;unfold Ja;refine zv ?_;rw[heq];refine zv ?_;refine AWe SA ?_;rw[Rm];refine zv ?_;refine AZb h2 ?_;refine AZb Jy ?_;refine AWe I4 ?_;refine AZc (Jp rfl rfl (G4 AB AA) (HQ lj) zh (.inr rfl)) ?_;refine⟨by kernel_rfl,?_⟩;rw[<- Gl];exact LW (Sf 0 1 _ k _ _ _) rfl rfl rfl AZp rfl λJs=>Jm Js v1
def AAg(hL:Ii L)(KO:∀a e b n,At L a->e=0->PNd L a e b n):∀(c:Nat) {a e b n:Int} (ha:At L a) (hc:mu L a e<=c) (hW:(BC ([]:List GO):Int)+mu L a e<=mu L a0 e0),
  ∃k,∀(hp:HO) (v1:PV),Sf 0 1 (λr c=>∃a' e' b' n',c=[cells L a' e' b' n']/\∃LA:List GO,r=.agg [.GV (LA.map Ay)]/\(∀x∈LA,x.WF)/\LA.length<=60/\At L a'/\(BC LA:Int)+mu L a' e'<=mu L a0 e0) k (.GN 0 0) (.GN 1 0) (.GN 2 0)
   (Qx [.box (cells L a e b n),.box [v1],.box [.nil]] hp 3):=by
 intro c;intro a e b n ha hc hW;by_cases he:e=0
 case neg=>
  refine⟨1,λhp v1=>?_⟩;show Ja _ _ _ _ _ _ _ _;unfold Ja;refine zv ?_;cases h:e==0
  case true=>exact Zq AE he
  exact AfG
 case pos=>
  have SA:=Ou (e:=e) (b:=b) (n:=n) ha;have heq:(e==0)=true:=by simpa using he
  by_cases hk:(Hf L a).kind=5
  .refine⟨1,λhp v1=>?_⟩;show Ja _ _ _ _ _ _ _ _;unfold Ja;refine zv ?_;rw[heq];refine zv ?_;refine AWe SA ?_;cases h:(Hf L a).kind !=5
   case true=>exact Zq hk AE
   exact AfG
  .have Rm:((Hf L a).kind !=5)=true:=by simpa using hk
   have h2:=ew (e:=e) (b:=b) (n:=n) ha ⟨#[110,111,100,101]⟩;cases dk:TK L a e ⟨#[110,111,100,101]⟩with
   |false=>
    rw[dk]at h2;obtain⟨r,c0,pM,a1,e1,b1,n1,rfl,rfl,rfl,Nl,rfl⟩:=Xn (b:=b) (n:=n) (e:=e) hL ha (x:=12) AA;refine⟨1,λhp v1=>?_⟩;show Ja _ _ _ _ _ _ _ _;unfold Ja;refine zv ?_;rw[heq];refine zv ?_;refine AWe SA ?_;rw[Rm];refine zv ?_;refine AZb h2 ?_;refine AZa pM ?_;exact AfO
   |true=>
    rw[dk]at h2;by_cases KM:(60:Int)<=(0:Int)
    .obtain⟨e1,b1,Nl,Jy⟩:=Nb (b:=b) (n:=n) (e:=e) hL ha KM;refine⟨1,λhp v1=>?_⟩;show Ja _ _ _ _ _ _ _ _;unfold Ja;refine zv ?_;rw[heq];refine zv ?_;refine AWe SA ?_;rw[Rm];refine zv ?_;refine AZb h2 ?_;refine AZb Jy ?_;exact AfO
    .have Jy:=Na (b:=b) (n:=n) (e:=e) hL ha (Dd.1 KM);obtain⟨r,cc,I4,a2,e2,b2,n2,rfl,nm,JS,Hz,GA,GQ,NO,rfl,S3,Lt,Me⟩:=KO a e b n ha he;have lU:=Me;simp only[GO.wt]at lU
     have Gl:(([]:List GO)++[GO.mk nm JS Hz GA GQ NO]).map Ay=[[.Gh nm,.GV (JS.map Am),.GV (Hz.map Am),.GV (GA.map Am),.GV (GQ.map Aq),I NO]]:=by
      rw[Bu,<- fA];rfl
     have bQ:BC (([]:List GO)++[GO.mk nm JS Hz GA GQ NO])=BC ([]:List GO)+(GO.mk nm JS Hz GA GQ NO).wt:=by rw[GO.HY];simp[BC]
     have YN:∀x∈([]:List GO)++[GO.mk nm JS Hz GA GQ NO],x.WF:=λx hx=>by
      exact AgY
     obtain⟨k,Jm⟩:=AAf (a0:=a0) (e0:=e0) hL KO (mu L a2 e2).toNat (e:=e2) (b:=b2) (n:=n2) Lt Aaw (([]:List GO)++[GO.mk nm JS Hz GA GQ NO]) YN AD (by rw[bQ];simp only[BC];omega);refine⟨k+1,λhp v1=>?_⟩;show Ja _ _ _ _ _ _ _ _;unfold Ja;refine zv ?_;rw[heq];refine zv ?_;refine AWe SA ?_;rw[Rm];refine zv ?_;refine AZb h2 ?_;refine AZb Jy ?_;refine AWe I4 ?_;refine AZc AcC ?_;refine⟨by kernel_rfl,?_⟩;rw[<- Gl];exact LW (Sf 0 1 _ k _ _ _) rfl rfl rfl rfl rfl λJs=>Jm Js v1
def wB(hL:Ii L)(KO:∀a e b n,At L a->e=0->PNd L a e b n)(ha:At L a0):PQ BZ 107 [.GN 0 0] [cells L a0 e0 b n] (λr c=>∃a' e' b' n',c=[cells L a' e' b' n']/\∃LA:List GO,r=.agg [.GV (LA.map Ay)]/\(∀x∈LA,x.WF)/\LA.length<=60/\At L a'/\(BC LA:Int)+mu L a' e'<=mu L a0 e0):=by obtain⟨k,hk⟩:=AAg (a0:=a0) (e0:=e0) hL KO (mu L a0 e0).toNat (a:=a0) (e:=e0) (b:=b) (n:=n) ha (by have:=Qp (e:=e0) ha;omega) (by simp[BC]);refine AF1 0 rfl _ ?_;unfold AO6;refine zv ?_;refine⟨k,?_⟩;exact IF (Sf 0 1 _ k _ _ _) rfl rfl rfl rfl λJs=>hk Js _
end
end
section
open Go.Proofs
def dy(x:Int):∃b,PC BZ 139 [.int .u8 x] [] (.bool b) []:=by
 have:PQ BZ 139 [.int .u8 x] [] (λr c=>c=[]/\∃w:Bool,r=.bool w):=by
  refine AGF 0 rfl _ ?_;unfold APK;have e3:∀s,Gv s (CS 0)=some []:=λs=>rfl;refine zv ?_;cases h1:decide (x>=97)<;>refine zv ?_
  all_goals try(cases h2:decide (x<=122)<;>refine zv ?_)
  all_goals try(cases h3:decide (x>=65)<;>refine zv ?_)
  all_goals try(cases h4:decide (x<=90)<;>refine zv ?_)
  all_goals try(cases h5:(x==95)<;>refine zv ?_)
  all_goals exact GW rfl rfl rfl ⟨rfl,_,rfl⟩
 exact Aec
def aj(x:Int):∃b,PC BZ 140 [.int .u8 x] [] (.bool b) []:=by
 have:PQ BZ 140 [.int .u8 x] [] (λr c=>c=[]/\∃w:Bool,r=.bool w):=by
  refine AGG 0 rfl _ ?_;unfold APL;refine zv ?_;cases h1:decide (x>=48)<;>refine zv ?_
  all_goals try(cases h2:decide (x<=57)<;>refine zv ?_)
  all_goals exact GW rfl rfl rfl ⟨rfl,_,rfl⟩
 exact Aec
def ANM(w:BA):∃b,PC BZ 141 [.Gh w] [] (.bool b) []:=by
 obtain⟨p,hp,hp0,hp9⟩:=pR w
 have:PQ BZ 141 [.Gh w] [] (λr c=>c=[]/\∃w:Bool,r=.bool w):=by
  have e4:∀(x:Bool) (s:St),Gv s (CS 0)=some []->JU 0 0 (λr c=>c=[]/\∃w:Bool,r=.bool w) (.bool x) s:=λx s hs=>by
   unfold JU;refine AT5 ?_ ?_
   .exact AeM
   .exact AeM
  refine AGH 0 rfl _ ?_;unfold APM;refine AZb hp ?_;refine AT5 ?_ ?_
  .exact Ad6
  repeat' first
   |exact e4 _ _ rfl
   |(refine AT5 ?_ ?_)
   |(apply Fy;· exact Gt rfl)
   |(apply Fy;· exact Lq)
 exact Aec
def AIZ(t:BA){i:Int}(h0:0<=i)(h1:i<t.size)(h8:t.size<=100000):∃n:Int,PC BZ 144 [.Gh t,I i] [] (I n) []/\0<=n/\n<=2/\i+n<=t.size:=by
 have hs:IntKind.i64.wrap (i+2)=i+2:=HB AA AA;have hx:t[i.toNat]?=some (t[i.toNat]' AA):=by rw[getElem?_pos]
 have:PQ BZ 144 [.Gh t,I i] [] (λr c=>c=[]/\∃n:Int,r=I n/\0<=n/\n<=2/\i+n<=t.size):=by
  have e6:∀(x:Bool) (s:St),Gv s (CS 0)=some []->MY 0 0 (λr c=>c=[]/\∃n:Int,r=I n/\0<=n/\n<=2/\i+n<=t.size) (.bool x) s:=λx s hs=>by
   unfold MY;refine AT5 ?_ ?_
   .exact AgI
   .exact AgI
  have e0:∀(s:St),Gv s (CS 0)=some []->gy 0 0 (λr c=>c=[]/\∃n:Int,r=I n/\0<=n/\n<=2/\i+n<=t.size) (.Gh t) (I i) s:=λs hs=>by
   unfold gy;refine Fy (TM h0 hx) ?_
   repeat' first
    |exact e6 _ _ rfl
    |(refine AT5 ?_ ?_)
    |(apply Fy;· exact Gt rfl)
    |(apply Fy;· exact Lq)
  have e87:∀(x:Bool) (s:St),i+2<=t.size->Gv s (CS 0)=some []->QI 0 0 (λr c=>c=[]/\∃n:Int,r=I n/\0<=n/\n<=2/\i+n<=t.size) (.Gh t) (I i) (.bool x) s:=λx s h hs=>by
   unfold QI;refine AT5 ?_ ?_
   .exact AgI
   .exact e0 _ hs
  refine AGK 0 rfl _ _ ?_;unfold APP;refine zv ?_;refine GF (λh=>?_) λh=>?_
  .have h:=Ot h;rw[hs]at h;refine zv ?_;have hn:Lv (I i)=some i.toNat:=by simp only[Lv];rw[Ps h0]
   have gJ:Lv (I (IntKind.i64.wrap (i+2)))=some (i+2).toNat:=by rw[hs];simp only[Lv];rw[Ps AA]
   refine Fy (AKB (r1:=[I (IntKind.i64.wrap (i+2))]) (r2:=[]) (a:=some i.toNat) (c:=some (i+2).toNat) (by simp only[Qy,hn]) (by simp only[Qy,gJ]) (by show(i+2).toNat<=t.size;omega) (by show i.toNat<=(i+2).toNat;omega)) ?_
   repeat' first
    |exact e87 _ _ h rfl
    |(refine AT5 ?_ ?_)
    |(apply Fy;· exact Gt rfl)
    |(apply Fy;· exact Lq)
  .exact e0 _ rfl
 exact AhM
end
section
open Go.Proofs
attribute [local irreducible] OQ NV aE aD
section
variable{Q:PV->LLP->Prop}
def yW(hQ:∀(m:Int) (b:Bool),Q (.tuple [I m,.bool b]) [])(kind x y:Int)(s:St)(hs:Gv s (CS 0)=some []):aE 0 0 Q (I kind) (I x) (I y) s:=by
 obtain⟨sg,hsg⟩:=Zk kind;obtain⟨w,hw⟩:=zG kind x;unfold aE;refine AZa hsg ?_;refine AT5 ?_ ?_
 .refine pQ_v (AKA AA) ?_;refine AT5 ?_ ?_
  .exact Adp
  .refine AZb hw ?_;exact Adp
 .exact Ahs
def AH5(hQ:∀(m:Int) (b:Bool),Q (.tuple [I m,.bool b]) [])(kind x w:Int)(hw:w<=64):∀(c:Nat),∃k,∀(i y:Int) (s:St),0<=i->w-i<=c->Gv s (CS 0)=some []->aF 0 0 Q k (I kind) (I x) (I w) (I y) (I i) s:=by
 intro c
 induction c with
 |zero=>
  refine⟨1,?_⟩;intro i y s hi hc hs;show WD _ _ _ _ _ _ _ _ _ _;unfold WD;refine zv ?_;refine GF Abq λ_=>?_;exact yW hQ _ _ _ _ hs
 |succ c ih=>
  obtain⟨k,ih⟩:=ih;refine⟨k+1,?_⟩;intro i y s hi hc hs;show WD _ _ _ _ _ _ _ _ _ _;unfold WD;refine zv ?_;refine AT7 (λh=>?_) ?_
  .have h:=Ot h;have hwr:=AZi i;refine zv ?_;have h5:w-IntKind.i64.wrap (i+1)<=c:=by rw[hwr];omega
   exact ih _ _ _ AA h5 hs
  .exact yW hQ _ _ _ _ hs
def yV(hQ:∀(m:Int) (b:Bool),Q (.tuple [I m,.bool b]) [])(kind x:Int)(s:St)(hs:Gv s (CS 0)=some []):aD 0 0 Q (I kind) (I x) s:=by
 obtain⟨w,hw,hw0,AHe⟩:=tU kind;unfold aD;refine zv ?_
 have Ju:∀(g:Bool) (s:St),Gv s (CS 0)=some []->Gs (.bool g) (pQ (HR (I x)) s λv32 s33=>HA (Q5 [some v32,some (.bool true)]) λl=>HZ 0 0 (Lg l) s33 Q) (pQ (HC BZ .eql 3 (I kind) (I 5)) s λv34 s35=>Gs v34 (pQ (HC BZ .eql 3 (I x) (I (-9223372036854775808))) s35 λv36 s37=>Gs v36 (pQ (HR (I x)) s37 λv38 s39=>HA (Q5 [some v38,some (.bool true)]) λl=>HZ 0 0 (Lg l) s39 Q) (pQ (JI .neg (I x)) s37 λv40 s41=>pQ (HR v40) s41 λv42 s43=>HA (Q5 [some v42,some (.bool true)]) λl=>HZ 0 0 (Lg l) s43 Q)) (Gn BZ 152 [(I kind)] s35 λv44 s45=>pQ (HR v44) s45 λv46 s47=>(∃m,aF 0 0 Q m (I kind) (I x) v46 (I 1) (I 0) s47))):=by
  intro g s hs;refine AT5 ?_ ?_
  .exact Ahs
  .refine zv ?_;refine AT5 ?_ ?_
   .refine zv ?_;refine AT5 ?_ ?_
    .exact Ahs
    .exact Ahs
   .refine AZb hw ?_;obtain⟨k,hk⟩:=AH5 hQ kind x w AA w.toNat
    exact⟨k,hk _ _ _ AA AA hs⟩
 cases h1:(kind==0)<;>refine zv ?_
 .exact Ju _ _ hs
 .exact Ahs
def AEC(hQ:∀(m:Int) (b:Bool),Q (.tuple [I m,.bool b]) []){d:BA}{kind i:Int}{W:PV->PV->PV->F1}(hW:∀(x:Int) (s:St),Gv s (CS 0)=some []->W (.Gh d) (I kind) (I x) (I (IntKind.i64.wrap (i+1))) s)
  (x y:Int)(g:Bool)(s:St)(hs:Gv s (CS 0)=some []):NV 0 0 Q W (.Gh d) (I kind) (I x) (I i) (I y) (I kind) (.bool g) s:=by
 have vV:∀(x:Int) (s:St),Gv s (CS 0)=some []->OQ 0 0 Q W (.Gh d) (I kind) (I x) (I i) s:=λx s hs=>by
  unfold OQ;refine zv ?_;exact hW _ _ hs
 unfold NV;refine AT5 ?_ ?_
 .refine zv ?_;cases h1:decide (kind>0)<;>refine zv ?_
  .exact AhO
  .refine AT5 ?_ ?_
   .exact Adp
   .exact AhO
 .refine zv ?_;refine AT5 ?_ ?_
  .refine zv ?_
   have Ju:∀(g:Bool) (s:St),Gv s (CS 0)=some []->Gs (.bool g) (HA (Q5 [some (I 0),some (.bool false)]) λl=>HZ 0 0 (Lg l) s Q) (pQ (HC BZ .mul 3 (I 10) (I x)) s λAFH wP=>pQ (HC BZ .sub 3 AFH (I y)) wP λAFI wQ=>pQ (HR AFI) wQ λAFJ wR=>OQ 0 0 Q W (.Gh d) (I kind) AFJ (I i) wR):=λg s hs=>by
    exact Ahu
   cases h1:decide (x< -922337203685477580)<;>refine zv ?_
   .cases h2:(x== -922337203685477580)<;>refine zv ?_
    .exact AhO
    .exact Ju _ _ hs
   .exact Adp
  .refine zv ?_;refine AT5 ?_ ?_
   .refine zv ?_
    have Ju:∀(g:Bool) (s:St),Gv s (CS 0)=some []->Gs (.bool g) (HA (Q5 [some (I 0),some (.bool false)]) λl=>HZ 0 0 (Lg l) s Q) (pQ (HC BZ .mul 3 (I 10) (I x)) s λAXP AWw=>pQ (HC BZ .add 3 AXP (I y)) AWw λAXQ AWx=>pQ (HR AXQ) AWx λAXR AWy=>OQ 0 0 Q W (.Gh d) (I kind) AXR (I i) AWy):=λg s hs=>by
     exact Ahu
    cases h1:decide (x<0)<;>refine zv ?_
    .cases h3:decide (x>1844674407370955161)<;>refine zv ?_
     .cases h2:(x==1844674407370955161)<;>refine zv ?_
      .exact AhO
      .exact Ju _ _ hs
     .exact Adp
    .exact Adp
   .exact AhO
def AH6(hQ:∀(m:Int) (b:Bool),Q (.tuple [I m,.bool b]) [])(d:BA)(hd:d.size<=20)(kind:Int):∀(c:Nat),∃k,∀(i x:Int) (s:St),0<=i->d.size-i<=c->Gv s (CS 0)=some []->Sj 0 0 Q k (.Gh d) (I kind) (I x) (I i) s:=by
 intro c
 induction c with
 |zero=>
  refine⟨1,?_⟩;intro i x s hi hc hs;show WE _ _ _ _ _ _ _ _ _;unfold WE;refine zv ?_;refine GF Abq λ_=>?_;exact yV hQ _ _ _ hs
 |succ c ih=>
  obtain⟨k,ih⟩:=ih;refine⟨k+1,?_⟩;intro i x s hi hc hs;show WE _ _ _ _ _ _ _ _ _;unfold WE;refine zv ?_;refine AT7 (λh=>?_) ?_
  .have h:=Ot h;have hwr:=AZi i;have hx:d[i.toNat]?=some (d[i.toNat]' AA):=by rw[getElem?_pos]
   have j:=λ(x y:Int) (g:Bool) (s:St) (hs:Gv s (CS 0)=some [])=>AEC (d:=d) (kind:=kind) (i:=i) (W:=Sj 0 0 Q k) hQ (λx s hs=>ih _ x s AA AA hs) x y g s hs;refine Fy (TM hi hx) ?_
   repeat' first
    |exact j _ _ _ _ hs
    |(refine AT5 ?_ ?_)
    |(apply Fy;· exact Gt rfl)
    |(apply Fy;· exact AEP)
    |(apply Fy;· exact Il)
    |(apply Fy;· exact Lq)
  .exact yV hQ _ _ _ hs
def AAh(d:BA)(hd8:d.size<=100000)(kind:Int):∃(m:Int) (b:Bool),PC BZ 143 [.Gh d,I kind] [] (.tuple [I m,.bool b]) []:=by
 have:PQ BZ 143 [.Gh d,I kind] [] (λr c=>c=[]/\∃(m:Int) (b:Bool),r=.tuple [I m,.bool b]):=by
  have hQ:∀(m:Int) (b:Bool),(λ(r:PV) (c:LLP)=>c=[]/\∃(m:Int) (b:Bool),r=.tuple [I m,.bool b]) (.tuple [I m,.bool b]) []:=λm b=>⟨rfl,m,b,rfl⟩
  refine AGJ 0 rfl _ _ ?_;unfold APO;refine zv ?_;cases h1:decide ((d.size:Int)>20)<;>refine zv ?_
  .have hd:d.size<=20:=by have:=Zy h1;omega
   have l88:∀s,Gv s (CS 0)=some []->∃m,Sj 0 0 (λ(r:PV) (c:LLP)=>c=[]/\∃(m:Int) (b:Bool),r=.tuple [I m,.bool b]) m (.Gh d) (I kind) (I 0) (I 0) s:=λs hs=>by
    obtain⟨k,hk⟩:=AH6 (Q:=λ(r:PV) (c:LLP)=>c=[]/\∃(m:Int) (b:Bool),r=.tuple [I m,.bool b]) hQ d hd kind d.size;exact⟨k,hk 0 0 s AA AA hs⟩
   cases h2:(kind==0)<;>refine zv ?_
   .exact l88 _ rfl
   .refine AT5 ?_ ?_
    .exact GW rfl rfl rfl (hQ _ _)
    .exact l88 _ rfl
  .exact GW rfl rfl rfl (hQ _ _)
 obtain⟨r,c,IE,rfl,m,b,rfl⟩:=this;exact⟨m,b,IE⟩
end
end
section
open Go.Proofs
def Qu{r:Option PV}{v u:PV}(h:r=some v):Q5 [r,some u]=some [v,u]:=by subst h;rfl
def sO{s:St}{t:BA}{i k:Int}(h0:0<=i)(h1:i<=k)(h2:k<=t.size):H8 (Hs true true (.Gh t) [I i,I k]) s (.Gh (t.extract i.toNat k.toNat)) s [] []:=by
 have hn:Lv (I i)=some i.toNat:=by simp only[Lv];rw[Ps h0]
 have gJ:Lv (I k)=some k.toNat:=by simp only[Lv];rw[Ps AA]
 exact AKB (r1:=[I k]) (r2:=[]) (a:=some i.toNat) (c:=some k.toNat) (by simp only[Qy,hn]) (by simp only[Qy,gJ]) (by show k.toNat<=t.size;omega) (by show i.toNat<=k.toNat;omega)
attribute [local irreducible] Xa gw WA aB
section
variable{Q:PV->LLP->Prop} {t:BA} {i:Int}
def TQ(t:BA)(i:Int)(Q:PV->LLP->Prop):Prop:=∀(kind:Int) (Pg:BA) (n tk tl GY e:Int),(e=0->kind≠5/\0<=tk/\tk<=9/\tl=0/\i+Pg.size<=t.size)->
 Q (.tuple [.agg [I kind,.Gh Pg,I n,I tk,I tl,I GY],I e]) []
def AE8(hQ:TQ t i Q)(h0:0<=i)(ht:t.size<=70000){k:Int}(dj:i<=k)(hk:k<=t.size){c0:LP}(hc:c0.length=6){hp:HO}:gw 0 0 Q (.Gh t) (I i) (.GN 0 0) (I k) (Qx [.box c0] hp 1):=by
 have hs:IntKind.i64.wrap (k-i)=k-i:=HB AA AA;obtain⟨b,hb⟩:=ANM (t.extract i.toNat k.toNat);have Of:i+(t.extract i.toNat k.toNat).size<=t.size:=by simp[De];omega
 unfold gw;refine zv ?_;refine GF (λh=>?_) λh=>?_
 .refine zv ?_;refine GW Abk rfl rfl (hQ _ _ _ _ _ _ _ AA)
 .refine pQ_v (sO h0 dj hk) ?_;refine AZb hb ?_;refine GF (λh=>?_) λh=>?_
  .refine zv ?_;exact Afe
  .exact Afe
def AN2(hQ:TQ t i Q)(h0:0<=i)(ht:t.size<=70000){c0:LP}(hc:c0.length=6):∀c:Nat,∃K,∀(k:Int) (hp:HO),i<=k->k<=t.size->t.size-k<=c->Xb 0 0 Q K (.Gh t) (I i) (.GN 0 0) (I k) (Qx [.box c0] hp 1):=by
 intro c
 induction c with
 |zero=>
  refine⟨1,λk hp dj hk Tj=>?_⟩;show WC _ _ _ _ _ _ _ _ _;unfold WC;refine zv ?_;cases h:decide (k<↑t.size)
  .exact AgK
  .exact Zq (Ot h) AA
 |succ c ih=>
  obtain⟨K,ih⟩:=ih;refine⟨K+1,λk hp dj hk Tj=>?_⟩;show WC _ _ _ _ _ _ _ _ _;unfold WC;refine zv ?_;cases h:decide (k<↑t.size)
  .exact AgK
  .have G7:=Ot h;have hx:t[k.toNat]?=some (t[k.toNat]' AA):=by rw[getElem?_pos]
   have hs:=AZi k;obtain⟨b,hb⟩:=dy ((t[k.toNat]' AA).toNat);obtain⟨b2,L0⟩:=aj ((t[k.toNat]' AA).toNat);have go:∀Js,Xb 0 0 Q K (.Gh t) (I i) (.GN 0 0) (I (IntKind.i64.wrap (k+1))) (Qx [.box c0] Js 1):=λJs=>ih _ Js AA AA AO;refine zv ?_;refine AYo (TM AA hx) ?_;refine AWe hb ?_;cases b
   .refine zv ?_;refine AYn (TM AA hx) ?_;refine AWe L0 ?_;cases b2
    .exact AgK
    .exact AgU
   .exact AgU
def qE(hQ:TQ t i Q)(h0:0<=i)(ht:t.size<=70000){k m:Int}(dj:i<=k)(hkm:k<=m)(hm:m<=t.size){d:BA}(hd:d.size<=100000){c0:LP}(hc:c0.length=6){hp:HO}:WA 0 0 Q (.Gh t) (I i) (.GN 0 0) (I k) (.Gh d) (I m) (Qx [.box c0] hp 1):=by
 obtain⟨p,ZN,hp0,hp9⟩:=pR (t.extract k.toNat m.toNat);obtain⟨x,ok,AVb⟩:=AAh d hd p;have Of:i+(t.extract i.toNat m.toNat).size<=t.size:=by simp[De];omega
 unfold WA;refine Fy (sO AA hkm hm) ?_;refine AZb ZN ?_
 have bad:∀(s:St) (e:Int),s.heap 0=some (.box c0)->e≠0->pQ (Gf [(I 0),(.Gh ⟨#[]⟩),(I 0),(I 0),(I 0),(I 0)] []) s (λAOA AIV=>pQ (Gc 6 AOA (.GN 0 0)) AIV λASo AEo=>HA (Q5 [IJ (GM 6 (.GN 0 0)) AEo,some (I e)]) λl=>HZ 0 0 (Lg l) AEo Q):=by
  intro s e hs he;refine zv ?_;refine GW Abk rfl rfl (hQ _ _ _ _ _ _ _ λh=>Zq h he)
 have de:∀(s:St),s.heap 0=some (.box c0)->Gn BZ 143 [.Gh d,I p] s (λAIm AIW=>pQ (JW 0 AIm) AIW λAOB ANr=>pQ (JW 1 AIm) ANr λAXB AWk=>pQ (HR AOB) AWk λAXC AWl=>pQ (HR AXB) AWl λAXD AWm=>pQ (JI .not AXD) AWm λAXF ASY=>Gs AXF (pQ (Gf [(I 0),(.Gh ⟨#[]⟩),(I 0),(I 0),(I 0),(I 0)] []) ASY λAXH AWp=>pQ (Gc 6 AXH (.GN 0 0)) AWp λv144 ASZ=>HA (Q5 [IJ (GM 6 (.GN 0 0)) ASZ,some (I 11)]) λl=>HZ 0 0 (Lg l) ASZ Q) (pQ (Hs true true (.Gh t) [I i,I m]) ASY λAXK AWs=>pQ (Gf [(I 0),(I 0)] [(some (0,1),I p)]) AWs λAXM AWu=>pQ (Gf [(I 0),(.Gh ⟨#[]⟩),(I 0),(I 0),(I 0),(I 0)] [(some (0,1),(I 2)),(some (1,1),AXK),(some (2,1),AXC),(some (3,2),AXM),(some (5,1),I i)]) AWu λAXO AWv=>pQ (Gc 6 AXO (.GN 0 0)) AWv λv152 ASa=>HA (Q5 [IJ (GM 6 (.GN 0 0)) ASa,some (I 0)]) λl=>HZ 0 0 (Lg l) ASa Q)):=by
  intro s hs;refine AZb AVb ?_;cases ok
  .exact AgR
  .refine zv ?_;refine pQ_v (sO h0 AA hm) ?_;refine GW Abk rfl rfl (hQ _ _ _ _ _ _ _ (λ_=>⟨AA,hp0,hp9,rfl,Of⟩))
 cases h1:decide (m>k)<;>refine zv ?_
 .exact de _ rfl
 .refine AT5 ?_ ?_
  .exact bad _ _ rfl AA
  .exact de _ rfl
def AIg(hQ:TQ t i Q)(h0:0<=i)(ht:t.size<=70000){k:Int}(dj:i<=k){d:BA}(hd:d.size<=100000){c0:LP}(hc:c0.length=6):∀c:Nat,∃K,∀(m:Int) (hp:HO),k<=m->m<=t.size->t.size-m<=c->WB 0 0 Q K (.Gh t) (I i) (.GN 0 0) (I k) (.Gh d) (I m) (Qx [.box c0] hp 1):=by
 intro c
 induction c with
 |zero=>
  refine⟨1,λm hp hkm hm Tj=>?_⟩;show Tc _ _ _ _ _ _ _ _ _ _ _;unfold Tc;refine zv ?_;cases h:decide (m<↑t.size)
  .exact Afo
  .exact Zq (Ot h) AA
 |succ c ih=>
  obtain⟨K,ih⟩:=ih;refine⟨K+1,λm hp hkm hm Tj=>?_⟩;show Tc _ _ _ _ _ _ _ _ _ _ _;unfold Tc;refine zv ?_;cases h:decide (m<↑t.size)
  .exact Afo
  .have G7:=Ot h;have hx:t[m.toNat]?=some (t[m.toNat]' AA):=by rw[getElem?_pos]
   have hs:=AZi m;obtain⟨b,hb⟩:=dy ((t[m.toNat]' AA).toNat);obtain⟨b2,L0⟩:=aj ((t[m.toNat]' AA).toNat);have go:∀Js,WB 0 0 Q K (.Gh t) (I i) (.GN 0 0) (I k) (.Gh d) (I (IntKind.i64.wrap (m+1))) (Qx [.box c0] Js 1):=λJs=>ih _ Js AA AA AO;refine zv ?_;refine AYo (TM AA hx) ?_;refine AWe hb ?_;cases b
   .refine zv ?_;refine AYn (TM AA hx) ?_;refine AWe L0 ?_;cases b2
    .exact Afo
    .exact AgU
   .exact AgU
def wh(hQ:TQ t i Q)(h0:0<=i)(ht:t.size<=70000){k:Int}(dj:i<=k)(hk:k<=t.size){c0:LP}(hc:c0.length=6){hp:HO}:aB 0 0 Q (.Gh t) (I i) (.GN 0 0) (I k) (Qx [.box c0] hp 1):=by obtain⟨K,hK⟩:=AIg hQ h0 ht dj (d:=t.extract i.toNat k.toNat) (by simp[De];omega) hc t.size;unfold aB;refine pQ_v (sO h0 dj hk) ?_;exact⟨K,hK k _ AA hk AA⟩
def AIh(hQ:TQ t i Q)(h0:0<=i)(ht:t.size<=70000){c0:LP}(hc:c0.length=6):∀c:Nat,∃K,∀(k:Int) (hp:HO),i<=k->k<=t.size->t.size-k<=c->Td 0 0 Q K (.Gh t) (I i) (.GN 0 0) (I k) (Qx [.box c0] hp 1):=by
 intro c
 induction c with
 |zero=>
  refine⟨1,λk hp dj hk Tj=>?_⟩;show Te _ _ _ _ _ _ _ _ _;unfold Te;refine zv ?_;cases h:decide (k<↑t.size)
  .exact AgO
  .exact Zq (Ot h) AA
 |succ c ih=>
  obtain⟨K,ih⟩:=ih;refine⟨K+1,λk hp dj hk Tj=>?_⟩;show Te _ _ _ _ _ _ _ _ _;unfold Te;refine zv ?_;cases h:decide (k<↑t.size)
  .exact AgO
  .have G7:=Ot h;have hx:t[k.toNat]?=some (t[k.toNat]' AA):=by rw[getElem?_pos]
   have hs:=AZi k;obtain⟨b2,L0⟩:=aj ((t[k.toNat]' AA).toNat);have go:∀Js,Td 0 0 Q K (.Gh t) (I i) (.GN 0 0) (I (IntKind.i64.wrap (k+1))) (Qx [.box c0] Js 1):=λJs=>ih _ Js AA AA AO;refine zv ?_;refine AYo (TM AA hx) ?_;refine AWe L0 ?_;cases b2
   .exact AgO
   .exact AgU
def AE9(ht:t.size<=70000)(h0:0<=i)(h1:i<t.size):∃(kind:Int) (Pg:BA) (n tk tl GY e:Int),PC BZ 118 [.Gh t,I i] [] (.tuple [.agg [I kind,.Gh Pg,I n,I tk,I tl,I GY],I e]) []/\
  (e=0->kind≠5/\0<=tk/\tk<=9/\tl=0/\i+Pg.size<=t.size):=by
 have hx:t[i.toNat]?=some (t[i.toNat]' AA):=by rw[getElem?_pos]
 obtain⟨b,hb⟩:=dy ((t[i.toNat]' AA).toNat);obtain⟨b2,L0⟩:=aj ((t[i.toNat]' AA).toNat);obtain⟨g,hg,vD,Tm,lR⟩:=AIZ t h0 h1 AA
 have:PQ BZ 118 [.Gh t,I i] [] (λr c=>c=[]/\∃(kind:Int) (Pg:BA) (n tk tl GY e:Int),r=.tuple [.agg [I kind,.Gh Pg,I n,I tk,I tl,I GY],I e]/\(e=0->kind≠5/\0<=tk/\tk<=9/\tl=0/\i+Pg.size<=t.size)):=by
  have hQ:TQ t i (λr c=>c=[]/\∃(kind:Int) (Pg:BA) (n tk tl GY e:Int),r=.tuple [.agg [I kind,.Gh Pg,I n,I tk,I tl,I GY],I e]/\(e=0->kind≠5/\0<=tk/\tk<=9/\tl=0/\i+Pg.size<=t.size)):=
   λkind Pg n tk tl GY e h=>⟨rfl,kind,Pg,n,tk,tl,GY,e,rfl,h⟩
  have l50:=AN2 hQ h0 ht (c0:=[(I 0),(.Gh ⟨#[]⟩),(I 0),(I 0),(I 0),(I 0)]) rfl t.size;have AWR:=AIh hQ h0 ht (c0:=[(I 0),(.Gh ⟨#[]⟩),(I 0),(I 0),(I 0),(I 0)]) rfl t.size;obtain⟨K,hK⟩:=l50;obtain⟨K2,hK2⟩:=AWR;refine AF7 0 rfl _ _ ?_;unfold APC;refine zv ?_;refine Fy (TM h0 hx) ?_;refine AZa hb ?_;refine AT5 ?_ ?_
  .refine⟨K,?_⟩;exact Rf (Xb 0 0 _ K _ _ _ _) rfl rfl λJs=>hK i Js AA AA AA
  .refine Fy (TM h0 hx) ?_;refine AZa L0 ?_;refine AT5 ?_ ?_
   .refine⟨K2,?_⟩;exact Rf (Td 0 0 _ K2 _ _ _ _) rfl rfl λJs=>hK2 i Js AA AA AA
   .refine AZb hg ?_;refine AT5 ?_ ?_
    .exact AgR
    .refine zv ?_;have hs:IntKind.i64.wrap (i+g)=i+g:=HB AA AA;refine pQ_v (sO h0 AA AA) ?_;refine GW Abk rfl rfl (hQ _ _ _ _ _ _ _ (λ_=>⟨AA,AA,AA,rfl,by simp[De];omega⟩))
 obtain⟨r,c,IE,rfl,kind,Pg,n,tk,tl,GY,e,rfl,h⟩:=this;exact⟨kind,Pg,n,tk,tl,GY,e,IE,h⟩
end
end
section
open Go.Proofs
def mS{A B:Prop}(h:Gs (.bool false) A B):B:=by unfold Gs at h;exact h.2 rfl
attribute [local irreducible] NG RF
section
variable{t:BA}
def AA3(ht:t.size<=70000):∀(c:Nat) (i:Int),0<=i->i<=t.size->t.size-i<=c->∃(i':Int) (K:Nat),i<=i'/\i'<=t.size/\(∀x,t[i.toNat]?=some x->x.toNat≠10->i<i')/\
  ∀(e n:Nat) (Q:PV->LLP->Prop) (Zu w97:PV->PV->F1) (v:PV) (s:St),w97 (.Gh t) v (I i') s->Vv e n Q Zu w97 K (.Gh t) v (I i) s:=by
 intro c
 induction c with
 |zero=>
  intro i h0 h1 hc;exact Ado
 |succ c ih=>
  intro i h0 h1 hc;by_cases G7:i<t.size
  .have hx:t[i.toNat]?=some (t[i.toNat]' AA):=by rw[getElem?_pos]
   have hs:=AZi i;by_cases z9:(t[i.toNat]' AA).toNat=10
   .refine⟨i,1,AA,AA,?_,?_⟩
    .intro x hx2 Kk;rw[hx]at hx2;cases hx2;exact Zq z9 Kk
    intro e n Q Zu w97 v s hw;show No _ _ _ _ _ _ _ _ _ _;unfold No;refine zv ?_;cases h:decide (i<↑t.size)
    .exact Zq G7 (Zy h)
    .refine zv ?_;refine AYo (TM h0 hx) ?_;refine GF (λh=>?_) λ_=>hw;simp[z9]at h
   .obtain⟨i',K,h2,h3,_,h4⟩:=ih (i+1) AA AA AA;refine⟨i',K+1,AA,h3,λ_ _ _=>by omega,?_⟩;intro e n Q Zu w97 v s hw;show No _ _ _ _ _ _ _ _ _ _;unfold No;refine zv ?_;cases h:decide (i<↑t.size)
    .exact Zq G7 (Zy h)
    .refine zv ?_;refine AYo (TM h0 hx) ?_;refine AT6 ?_ λh=>?_
     .refine zv ?_;rw[hs];exact h4 e n Q Zu w97 v s hw
     .simp at h;omega
  .exact Ado
def wU(ht:t.size<=70000):∀(c:Nat) (i:Int),0<=i->i<=t.size->t.size-i<=c->∃(i':Int) (K:Nat),i<=i'/\i'<=t.size/\
  ∀(e n:Nat) (Q:PV->LLP->Prop) (Zu:PV->PV->F1) (v:PV) (s:St),NG e n Q Zu (.Gh t) v (I i') s->UD e n Q Zu K (.Gh t) v (I i) s:=by
 intro c
 induction c with
 |zero=>
  intro i h0 h1 hc;exact Ae0
 |succ c ih=>
  intro i h0 h1 hc;by_cases G7:i<t.size
  case neg=>
   exact Ae0
  case pos=>
   have hx:t[i.toNat]?=some (t[i.toNat]' AA):=by rw[getElem?_pos]
   have hs:=AZi i;by_cases hb:(t[i.toNat]' AA).toNat=32\/(t[i.toNat]' AA).toNat=9\/(t[i.toNat]' AA).toNat=10\/(t[i.toNat]' AA).toNat=13
   .obtain⟨i',K,h2,h3,h4⟩:=ih (i+1) AA AA AA;refine⟨i',K+1,AA,h3,?_⟩;intro e n Q Zu v s hw;show O9 _ _ _ _ _ _ _ _ _;unfold O9;refine zv ?_;refine AT6 ?_ λh=>Zq G7 (Zy h);refine pQ_v (TM h0 hx) ?_;cases c1:((↑(t[i.toNat]' AA).toNat:Int)==32)<;>refine zv ?_
    .refine AYn (TM h0 hx) ?_;cases c2:((↑(t[i.toNat]' AA).toNat:Int)==9)<;>refine zv ?_
     .refine AYn (TM h0 hx) ?_;cases c3:((↑(t[i.toNat]' AA).toNat:Int)==10)<;>refine zv ?_
      .refine AYn (TM h0 hx) ?_;refine AT6 ?_ λh=>?_
       .refine zv ?_;exact Af9
       .simp at c1 c2 c3 h;omega
      .exact Af9
     .exact Af9
    .exact Af9
   .have AR7:∀(i':Int) (K:Nat) (de:Bool),(de=true<->(t[i.toNat]' AA).toNat=45/\i+1<t.size/\∃x,t[(i+1).toNat]?=some x/\x.toNat=45)->
      (∀(e n:Nat) (Q:PV->LLP->Prop) (Zu:PV->PV->F1) (v:PV) (s:St),NG e n Q Zu (.Gh t) v (I i') s->Gs (.bool de) (∃m,Vv e n Q Zu (UD e n Q Zu K) m (.Gh t) v (I i) s) (NG e n Q Zu (.Gh t) v (I i) s))->
      ∀(e n:Nat) (Q:PV->LLP->Prop) (Zu:PV->PV->F1) (v:PV) (s:St),NG e n Q Zu (.Gh t) v (I i') s->UD e n Q Zu (K+1) (.Gh t) v (I i) s:=by
     intro i' K de hg hh e n Q Zu v s hw;have hh:=hh e n Q Zu v s hw;show O9 _ _ _ _ _ _ _ _ _;unfold O9;refine zv ?_;refine AT6 ?_ λh=>Zq G7 (Zy h);refine pQ_v (TM h0 hx) ?_;cases c1:((↑(t[i.toNat]' AA).toNat:Int)==32)
     case true=>simp at c1;omega
     refine zv ?_;refine AYn (TM h0 hx) ?_;cases c2:((↑(t[i.toNat]' AA).toNat:Int)==9)
     case true=>simp at c2;omega
     refine zv ?_;refine AYn (TM h0 hx) ?_;cases c3:((↑(t[i.toNat]' AA).toNat:Int)==10)
     case true=>simp at c3;omega
     refine zv ?_;refine AYn (TM h0 hx) ?_;refine AT7 (λh=>?_) ?_
     .simp at h;omega
     refine pQ_v (TM h0 hx) ?_;cases c4:((↑(t[i.toNat]' AA).toNat:Int)==45)
     .have hgf:de=false:=by
       cases de
       .rfl
       .obtain⟨g1,_⟩:=hg.1 rfl;simp at c4;omega
      rw[hgf]at hh;refine zv ?_;exact mS hh
     .refine zv ?_;rw[hs];cases c5:decide (i+1<↑t.size)
      .have hgf:de=false:=by
        cases de
        .rfl
        .obtain⟨_,g1,_⟩:=hg.1 rfl;exact Zq g1 (Zy c5)
       rw[hgf]at hh;refine zv ?_;exact mS hh
      .have ADL:=Ot c5;have hx1:t[(i+1).toNat]?=some (t[(i+1).toNat]' AA):=by rw[getElem?_pos]
       refine zv ?_;rw[hs];refine AYo (TM AA hx1) ?_;cases c6:((↑(t[(i+1).toNat]' AA).toNat:Int)==45)
       .have hgf:de=false:=by
         cases de
         .rfl
         .obtain⟨_,_,x,g1,g2⟩:=hg.1 rfl;rw[hx1]at g1;cases g1;simp at c6;omega
        rw[hgf]at hh;exact hh
       .have hgt:de=true:=hg.2 ⟨by simp at c4;omega,ADL,_,hx1,by simp at c6;omega⟩;rw[hgt]at hh;exact hh
    by_cases hg:(t[i.toNat]' AA).toNat=45/\i+1<t.size/\∃x,t[(i+1).toNat]?=some x/\x.toNat=45
    .obtain⟨i1,K1,g1,g2,g3,g4⟩:=AA3 ht t.size i h0 h1 AA;have g5:=g3 _ hx AA;obtain⟨i',K,h2,h3,h4⟩:=ih i1 AA AA AA;refine⟨i',K+1,AA,h3,AR7 i' K true ⟨λ_=>hg,λ_=>rfl⟩ ?_⟩;intro e n Q Zu v s hw;exact Yz rfl ⟨K1,g4 e n Q Zu _ v s (h4 e n Q Zu v s hw)⟩
    .refine⟨i,0+1,AA,AA,AR7 i 0 false ⟨λh=>AbB,λh=>Zq h hg⟩ ?_⟩;intro e n Q Zu v s hw;exact Yy rfl hw
end
end
section
open Go.Proofs
def fB{l:List PT}:∀r∈l.map BJ,r.length=6:=AfI
def AIj{l:List PT}{z:PT}(hl:l.length<20000)(hw:∀x∈l,x.kind≠5/\0<=x.tk/\x.tk<=9/\x.tl=0)(hz:z.kind=5)(hk:0<=z.tk/\z.tk<=9/\z.tl=0):Ii (l++[z]):=by
 have key:∀a,At (l++[z]) a->(a<l.length/\Hf (l++[z]) a∈l)\/(a=l.length/\Hf (l++[z]) a=z):=by
  intro a ha;unfold At at ha;simp at ha;unfold Hf;by_cases h:a<l.length
  .refine .inl ⟨h,?_⟩;have:a.toNat<l.length:=AA;rw[CK,CL this,Bc this];simp
  .refine .inr ⟨AA,?_⟩;have:a.toNat=l.length:=AA;rw[CK,this];simp
 refine⟨AD,by simp;omega,?_,?_,?_⟩
 .intro a ha Kk;rcases key a ha with⟨h,_⟩|⟨_,h⟩
  .simp;omega
  .rw[h]at Kk;exact Zq hz Kk
 .intro a ha;rcases key a ha with⟨_,h⟩|⟨_,h⟩
  .exact⟨(hw _ h).2.1,(hw _ h).2.2.1⟩
  .rw[h];exact⟨hk.1,hk.2.1⟩
 .intro a ha;rcases key a ha with⟨_,h⟩|⟨_,h⟩
  .exact(hw _ h).2.2.2
  .rw[h];exact hk.2.2
def wJ{r:Option PV}{v b c:PV}(h:r=some v):Q5 [r,some b,some c]=some [v,b,c]:=by subst h;rfl
def sl{a b c:PV}:Q5 [some a,some b,some c]=some [a,b,c]:=rfl
attribute [local irreducible] NG RF
section
variable{t:BA}
def tL(ht:t.size<=65536){Q:PV->LLP->Prop}(hQ:∀(L:List PT) (GY e:Int),(e=0->Ii L)->Q (.tuple [.GV (L.map BJ),I GY,I e]) []):∀(c:Nat) (i:Int) (l:List PT),0<=i->i<=t.size->l.length<=20000->(20000:Int)-l.length<c->
  (∀x∈l,x.kind≠5/\0<=x.tk/\x.tk<=9/\x.tl=0)->∀{eo:Nat},(l.map BJ=[]\/eo=6)->∃k,∀(hp:HO) (o0:Obj) (nx:Nat),O8 0 0 Q k (.Gh t) (.HL 1 (l.map BJ)) (I i) (Qx [o0,.HE (l.map BJ).length eo] hp (nx+2)):=by
 intro c
 induction c with
 |zero=>intro i l h0 h1 hl hc;omega
 |succ c ih=>
  intro i l h0 h1 hl hc hw eo Uo;obtain⟨i',K,g1,g2,g3⟩:=wU AA t.size i h0 h1 AA;have Xx:(l.map BJ).length=l.length:=Bb _;by_cases G7:i'<t.size
  .obtain⟨kind,Pg,n,tk,tl,GY,e,IE,AQ0⟩:=AE9 (t:=t) (i:=i') AA AA G7;by_cases he:e=0
   .obtain⟨k5,ktk,AWM,ktl,ksz⟩:=AQ0 he;by_cases KM:(20000:Int)<=((l.map BJ).length:Int)
    .refine⟨1,λhp o0 nx=>?_⟩;show NP _ _ _ _ _ _ _ _;unfold NP;refine⟨K,g3 _ _ _ _ _ _ ?_⟩;unfold NG;refine zv ?_;refine AT6 ?_ λh=>Zq G7 (Zy h);refine AZb IE ?_;refine GF AbT λ_=>?_;refine zv ?_;exact AfH
    .have hf:Go.Ab.Im ((l.map BJ).length+1) 56=true:=G4 AA AA;have Gl:(l++[PT.mk kind Pg n tk tl GY]).map BJ=l.map BJ++[[I kind,.Gh Pg,I n,I tk,I tl,I GY]]:=by rw[Bu];rfl
     have hs:IntKind.i64.wrap (i'+Pg.size)=i'+Pg.size:=HB AA AA
     obtain⟨k,hk⟩:=ih (i'+Pg.size) (l++[PT.mk kind Pg n tk tl GY]) AA AA AB AB (λx hx=>by
      rcases Bf.1 hx with hx|hx
      .exact hw x hx
      .rw[By.1 hx];exact⟨k5,ktk,AWM,ktl⟩) (eo:=6) (.inr rfl)
     refine⟨k+1,λhp o0 nx=>?_⟩;show NP _ _ _ _ _ _ _ _;unfold NP;refine⟨K,g3 _ _ _ _ _ _ ?_⟩;unfold NG;refine zv ?_;refine AT6 ?_ λh=>Zq G7 (Zy h);refine AZb IE ?_;refine GF AbT λ_=>?_;refine zv ?_;unfold RF;refine zv ?_;refine GF (λh=>Zq (Ot h) KM) λh=>?_;refine zv ?_;refine pQ_v Abr ?_;refine GF (λh=>Zq AE k5) λ_=>?_;refine zv ?_;rw[<- Gl,hs];exact VE (O8 0 0 _ k _ _ _) (o0:=o0) zh AZp (by rfl) λJs=>hk Js _ (nx+2)
   .refine⟨1,λhp o0 nx=>?_⟩;show NP _ _ _ _ _ _ _ _;unfold NP;refine⟨K,g3 _ _ _ _ _ _ ?_⟩;unfold NG;refine zv ?_;refine AT6 ?_ λh=>Zq G7 (Zy h);refine AZb IE ?_;refine AT6 ?_ Abg;refine zv ?_;refine GW sl rfl rfl (hQ [] _ _ λh=>Zq h he)
  .by_cases KM:(20000:Int)<=((l.map BJ).length:Int)
   .refine⟨1,λhp o0 nx=>?_⟩;show NP _ _ _ _ _ _ _ _;unfold NP;refine⟨K,g3 _ _ _ _ _ _ ?_⟩;unfold NG;refine zv ?_;refine GF AdI λh=>?_;exact AfH
   .have hf:Go.Ab.Im ((l.map BJ).length+1) 56=true:=G4 AA AA;have Gl:(l++[PT.mk 5 ⟨#[]⟩ 0 0 0 i']).map BJ=l.map BJ++[[I 5,.Gh ⟨#[]⟩,I 0,I 0,I 0,I i']]:=by rw[Bu];rfl
    refine⟨1,λhp o0 nx=>?_⟩;show NP _ _ _ _ _ _ _ _;unfold NP;refine⟨K,g3 _ _ _ _ _ _ ?_⟩;unfold NG;refine zv ?_;refine GF AdI λh=>?_;unfold RF;refine zv ?_;refine GF (λh=>Zq (Ot h) KM) λh=>?_;refine zv ?_;refine pQ_v Abr ?_;refine AT6 ?_ (λh=>by simp at h);refine zv ?_;rw[<- show _=List.map BJ l++[[I 5,.Gh ⟨#[]⟩,I 0,I 0,I 0,I i']]from Gl];refine GW sl rfl rfl (hQ _ _ _ (λ_=>AIj AA hw rfl ⟨Ct 0,(show(0:Int)<=9 by omega),rfl⟩))
def ABA(t:BA)(h31:(t.size:Int)<=9223372036854775807):∃(L:List PT) (GY e:Int),PC BZ 106 [.Gh t] [] (.tuple [.GV (L.map BJ),I GY,I e]) []/\(e=0->Ii L):=by
 have:PQ BZ 106 [.Gh t] [] (λr c=>c=[]/\∃(L:List PT) (GY e:Int),r=.tuple [.GV (L.map BJ),I GY,I e]/\(e=0->Ii L)):=by
  have hQ:∀(L:List PT) (GY e:Int),(e=0->Ii L)->(λ(r:PV) (c:LLP)=>c=[]/\∃(L:List PT) (GY e:Int),r=.tuple [.GV (L.map BJ),I GY,I e]/\(e=0->Ii L)) (.tuple [.GV (L.map BJ),I GY,I e]) []:=λL GY e h=>⟨rfl,L,GY,e,rfl,h⟩
  refine AF0 0 rfl _ ?_;unfold AO5;refine zv ?_;refine AT6 ?_ λh=>?_
  .refine zv ?_;refine GW sl rfl rfl (hQ [] _ _ AA)
  .have h:=Zy h;obtain⟨k,hk⟩:=tL (t:=t) (Q:=λ(r:PV) (c:LLP)=>c=[]/\∃(L:List PT) (GY e:Int),r=.tuple [.GV (L.map BJ),I GY,I e]/\(e=0->Ii L)) AA hQ 20001 0 [] AA AA AD AD AD (eo:=0) (.inl rfl);refine zv ?_;refine⟨k,?_⟩;exact VE (O8 0 0 _ k _ _ _) rfl rfl rfl λJs=>hk Js _ 0
 obtain⟨r,c,IE,rfl,L,GY,e,rfl,h⟩:=this;exact⟨L,GY,e,IE,h⟩
def AEY(TI:∀L,Ii L->∀a e b n,At L a->PLs L a e b n)(hds:∀L,Ii L->∀a e b n,At L a->PDs L a e b n)(t:BA)(h31:(t.size:Int)<=9223372036854775807):
  ∃(N:List GO) (GY e:Int),PC BZ 83 [.Gh t] [] (.tuple [.agg [.GV (N.map Ay)],I GY,I e]) []/\(∀x∈N,x.WF)/\N.length<=60/\BC N<=20000:=by
 obtain⟨L,Mr,e1,IE,hL⟩:=ABA t h31
 have:PQ BZ 83 [.Gh t] [] (λr c=>c=[]/\∃(N:List GO) (GY e:Int),r=.tuple [.agg [.GV (N.map Ay)],I GY,I e]/\(∀x∈N,x.WF)/\N.length<=60/\BC N<=20000):=by
  refine ALJ 0 rfl _ ?_;unfold c83;refine zv ?_;refine AZb IE ?_;refine AT6 ?_ λh=>?_
  .refine zv ?_;exact Ago
  .have he:e1=0:=by simpa using h
   have hL:=hL he;have ha:At L 0:=by have:=hL.pos;constructor<;>omega
   obtain⟨r,cc,I4,a2,e2,b2,n2,rfl,N,rfl,hN,HM,Lt,Pv⟩:=wB (e0:=0) (b:=0) (n:=0) hL (λa e b n ha he=>AH0 hL (TI L hL) (hds L hL) ha he) ha;have xp:=yR (e:=0) hL ha
   have Me:(BC N:Int)<=20000:=by
    have:0<=mu L a2 e2:=Qp Lt;omega
   refine zv ?_;refine AZb I4 ?_;refine AT5 ?_ ?_
   .refine zv ?_;refine⟨by kernel_rfl,?_⟩;exact Ago
   .refine zv ?_;refine GW Acw rfl rfl ⟨rfl,N,_,_,rfl,hN,HM,AA⟩
 obtain⟨r,c,IE,rfl,N,GY,e,rfl,h⟩:=this;exact⟨N,GY,e,IE,h⟩
end
end
section
open Go Go.RowKit Go.Proofs
structure Hd (L:List PT) (B0:Nat) (K:KK) (w:World) (a e b n:Int):Prop where
 Xp:ABk K w
 kb:K B0=none
 HE:∃v0 ty,DR K (.GV (L.map BJ)) v0/\w.heap[B0]?=some (.cells #[v0,.int .i64 a,.int .i64 e,.int .i64 b,.int .i64 n] ty (0,0))
structure St1 (B0:Nat) (K:KK) (w:World) (K':KK) (w':World):Prop where
 le:Yn K K'
 old:∀B ks,K' B=some ks->B<w.heap.size->K B=some ks
 size:w.heap.size<=w'.heap.size
 LU:∀B,B<w.heap.size->B≠B0->w'.heap[B]?=w.heap[B]?
 os:w'.os=w.os
 output:w'.output=w.output
def Pk.gT{K:KK}{a:PV}{l':LV}(h:Pk K [a] l'):∃v,l'=[v]/\DR K a v:=by cases h with|cons _ v _ l h1 h2=>cases h2;exact⟨v,rfl,h1⟩
def Pk.L4{K:KK}{a:PV}{l:LP}{l':LV}(h:Pk K (a::l) l'):∃v r,l'=v::r/\DR K a v/\Pk K l r:=by cases h with|cons _ v _ r h1 h2=>exact⟨v,r,rfl,h1,h2⟩
def Ok{K:KK}{k:IntKind}{i:Int}{v:Bk}(h:DR K (.int k i) v):v=.int k i:=by cases h;rfl
def xZ{K:KK}{c:Bool}{v:Bk}(h:DR K (.bool c) v):v=.bool c:=by cases h;rfl
def oY{K:KK}{c:BA}{v:Bk}(h:DR K (.Gh c) v):v=.string c:=by cases h;rfl
def zf{K:KK}{L:List PT}{a e b n:Int}{l:LV}(h:Pk K (cells L a e b n) l):∃v0,DR K (.GV (L.map BJ)) v0/\l=[v0,.int .i64 a,.int .i64 e,.int .i64 b,.int .i64 n]:=by obtain⟨v0,l1,rfl,h0,h⟩:=h.L4;obtain⟨v1,l2,rfl,h1,h⟩:=h.L4;obtain⟨v2,l3,rfl,h2,h⟩:=h.L4;obtain⟨v3,l4,rfl,h3,h⟩:=h.L4;obtain⟨v4,rfl,h4⟩:=h.gT;rw[Ok h1,Ok h2,Ok h3,Ok h4];exact⟨v0,h0,rfl⟩
def Hd.HV{L:List PT}{B0:Nat}{K:KK}{w:World}{a e b n:Int}(h:Hd L B0 K w a e b n):O4 K w [B0] [cells L a e b n]:=by obtain⟨v0,ty,h0,h1⟩:=h.HE;exact .cons _ _ _ _ _ ty h.kb h1 (.cons _ _ _ _ h0 (.cons _ _ _ _ (.int _ _) (.cons _ _ _ _ (.int _ _) (.cons _ _ _ _ (.int _ _) (.cons _ _ _ _ (.int _ _) .nil))))) .nil
def Hd.of{L:List PT}{B0:Nat}{K:KK}{w:World}{a e b n:Int}(hf:ABk K w)(h:O4 K w [B0] [cells L a e b n]):Hd L B0 K w a e b n:=by
 cases h with|cons _ _ _ _ vs ty hk hw hd hr=>
 obtain⟨v0,h0,h1⟩:=zf hd;have Mt:vs=#[v0,.int .i64 a,.int .i64 e,.int .i64 b,.int .i64 n]:=by rw[<- Array.toArray_toList (xs:=vs),h1]
 exact⟨hf,hk,v0,ty,h0,by rw[hw,Mt]⟩
def tg.fE{K K':KK}{w w':World}{B0:Nat}{r:PV}{c:LLP}{v:Bk}(h:tg K w [B0] r c K' v w'):St1 B0 K w K' w':=⟨h.le,h.old,h.size,λB hB hn=>h.LU B hB AZz,h.os,h.output⟩
def Got(L:List PT)(B0:Nat)(K:KK)(w:World)(a e b n:Int)(r:PV)(en:Ending)(w':World):Prop:=∃K' v,en=.returned v/\Hd L B0 K' w' a e b n/\St1 B0 K w K' w'/\RR K' w' w.heap.size r v
section
variable{L:List PT} {B0:Nat} {K:KK} {w:World} {a e b n a' e' b' n':Int} {f:Nat} {r x y:PV} {u v:Value}
def hdN{args:LP}{HP:LV}(hd:Hd L B0 K w a e b n)(h:PC BZ f (.GN 0 0::args) [cells L a e b n] r [cells L a' e' b' n'])(ha:ARs K [B0] args HP):Calls BZ f (.pointer (some ⟨B0,0,none⟩)::HP).toArray w (Got L B0 K w a' e' b' n' r):=callsIn_wide.1 ((h K w [B0] (.pointer (some ⟨B0,0,none⟩)::HP) hd.Xp hd.HV AD (.cons _ _ _ _ (.GN 0 B0 rfl) ha)).mono λen w' ⟨K',v,h1,h2⟩=>⟨K',v,h1,.of h2.Xp h2.HV,h2.fE,h2.val⟩)
def Vf(hd:Hd L B0 K w a e b n)(h:PC BZ f [.GN 0 0] [cells L a e b n] r [cells L a' e' b' n']):Calls BZ f #[.pointer (some ⟨B0,0,none⟩)] w (Got L B0 K w a' e' b' n' r):=hdN hd h .nil
def Zp(hd:Hd L B0 K w a e b n)(h:PC BZ f [.GN 0 0,x] [cells L a e b n] r [cells L a' e' b' n'])(hx:DR K x u):Calls BZ f #[.pointer (some ⟨B0,0,none⟩),u] w (Got L B0 K w a' e' b' n' r):=hdN hd h (.cons _ _ _ _ (.data _ _ hx) .nil)
def tY(hd:Hd L B0 K w a e b n)(h:PC BZ f [.GN 0 0,x,y] [cells L a e b n] r [cells L a' e' b' n'])(hx:DR K x u)(hy:DR K y v):Calls BZ f #[.pointer (some ⟨B0,0,none⟩),u,v] w (Got L B0 K w a' e' b' n' r):=hdN hd h (.cons _ _ _ _ (.data _ _ hx) (.cons _ _ _ _ (.data _ _ hy) .nil))
def LG{IW:Nat}{c:Bool}{v:Bk}(h:RR K w IW (.bool c) v):v=.bool c:=by cases h with|one _ _ h=>cases h with|data _ _ h=>exact xZ h
def VC{IW:Nat}{k:IntKind}{c:Int}{v:Bk}(h:RR K w IW (.int k c) v):v=.int k c:=by cases h with|one _ _ h=>cases h with|data _ _ h=>exact Ok h
def px{IW:Nat}{c:BA}{v:Bk}(h:RR K w IW (.Gh c) v):v=.string c:=by cases h with|one _ _ h=>cases h with|data _ _ h=>exact oY h
def QR{IW:Nat}{v:Bk}(h:RR K w IW (.tuple []) v):v=.tuple #[]:=by
 cases h with
 |one _ _ h=>cases h with|data _ _ h=>cases h
 |tuple _ l h=>cases h;rfl
def SL{IW:Nat}{t:PT}{v:Bk}(h:RR K w IW (.agg t.GG) v):v=.agg #[.int .i64 t.kind,.string t.Pg,.int .i64 t.n,.int .i64 t.tk,.int .i64 t.tl,.int .i64 t.GY]:=by
 cases h with|one _ _ h=>cases h with
 |data _ _ h=>cases h
 |agg _ l h=>
  obtain⟨v0,l1,rfl,h0,h⟩:=h.L4;obtain⟨v1,l2,rfl,h1,h⟩:=h.L4;obtain⟨v2,l3,rfl,h2,h⟩:=h.L4;obtain⟨v3,l4,rfl,h3,h⟩:=h.L4;obtain⟨v4,l5,rfl,h4,h⟩:=h.L4;obtain⟨v5,rfl,h5⟩:=h.gT;rw[Ok h0,oY h1,Ok h2,Ok h3,Ok h4,Ok h5]
def Hd.lt(h:Hd L B0 K w a e b n):B0<w.heap.size:=by obtain⟨v0,ty,_,h1⟩:=h.HE;exact Dv h1
def Hd.c2(h:Hd L B0 K w a e b n):w.cell? ⟨B0,2,none⟩=some (.int .i64 e):=by obtain⟨v0,ty,_,h1⟩:=h.HE;simp[World.cell?,h1]
def Hd.OD{w':World}(h:Hd L B0 K w a e b n)(hs:∀B,B=B0\/(∃ks,K B=some ks)->w'.heap[B]?=w.heap[B]?):Hd L B0 K w' a e b n:=by
 obtain⟨v0,ty,h0,h1⟩:=h.HE
 exact⟨λB ks hk=>by
  obtain⟨vs,ty,h2,h3⟩:=h.Xp B ks hk;exact⟨vs,ty,(hs B (.inr ⟨ks,hk⟩)).trans h2,h3⟩,h.kb,v0,ty,h0,(hs B0 (.inl rfl)).trans h1⟩
def Hd.klt(h:Hd L B0 K w a e b n){B:Nat}{ks:LV}(hk:K B=some ks):B<w.heap.size:=by obtain⟨vs,ty,h2,h3⟩:=h.Xp B ks hk;exact Dv h2
end
section
variable{w w':World} {lo:Nat} {e:TypeId} {size:Nat} {v:Value} {n:Nat} {xs:LV}
def Qs(h:w.ownsRow lo e size v n xs):∃a c,v=.slice a n c:=by
 rcases h.2 with⟨rfl,rfl⟩|⟨g,cap,cur,rfl,_⟩
 .exact⟨_,_,rfl⟩
 .exact⟨_,_,rfl⟩
def eH(h:w.ownsRow lo e size v n xs)(hs:∀b,v.ownBlock=some b->w'.heap[b]?=w.heap[b]?):w'.ownsRow lo e size v n xs:=by
 refine⟨h.1,?_⟩;rcases h.2 with hn|⟨g,cap,cur,rfl,hb,hgg,Ju⟩
 .exact .inl hn
 .exact .inr ⟨g,cap,cur,rfl,hb,(hs g rfl).trans hgg,Ju⟩
def S2{b o:Nat}{cur:AV0}{e:Bz}{fz:Nat×Nat}(h:w.heap[b]?=some (.cells cur e fz))(u:Bk):
  (w.setCell ⟨b,o,none⟩ u).heap[b]?=some (.cells (cur.setIfInBounds o u) e fz):=by
 have G7:=Dv h;have h':w.heap[b]=.cells cur e fz:=by simpa[CQ G7]using h
 show(w.heap.modify b _)[b]?=_;rw[CQ AaZ,Array.getElem_modify_self,h'];rfl
def AAm(h:w.ownsRow lo e size v n xs){g:Nat}(hg:v.ownBlock=some g)(j:Nat)(u:Bk):(w.setCell ⟨g,j,none⟩ u).ownsRow lo e size v n (xs.set j u):=by
 refine⟨by rw[List.length_set];exact h.1,?_⟩;rcases h.2 with⟨rfl,_⟩|⟨g',cap,cur,rfl,hb,hgg,h1,h2,h3,h4⟩
 .cases hg
 .cases hg;refine .inr ⟨g',cap,cur.setIfInBounds j u,rfl,hb,S2 hgg u,h1,h2,by simpa using h3,?_⟩;rw[Array.toList_setIfInBounds,List.take_set,h4]
def Qr(h:w.ownsRow lo e size v n xs){g:Nat}(hg:v.ownBlock=some g)(j:Nat)(hj:j<n*size):(∃u,w.cell? ⟨g,j,none⟩=some u)/\w.frozen? ⟨g,j,none⟩=false:=by
 rcases h.2 with⟨rfl,_⟩|⟨g',cap,cur,rfl,hb,hgg,h1,h2,h3,h4⟩
 .cases hg
 .cases hg;have hjs:j<cur.size:=by rw[h3];exact Cv hj (DD _ h1)
  exact⟨⟨cur[j],by rw[Df _ _ _ _ _ _ hgg];exact CQ hjs⟩,frozen_of_row _ _ _ _ _ hgg⟩
def Ru(w:World)(o:EE):(w.alloc o).heap[w.heap.size]?=some o:=by show(w.heap.push o)[w.heap.size]?=some o;simp
end
end
section
open Go.Proofs
section
variable(L:List PT) (n:Int)
inductive Rs:Int->Int->Int->Nat->List (ByteArray×Int)->Int->Int->Int->Bool->Prop
 |eT (a e b:Int) (m:Nat):e≠0->Rs a e b m [] a e b false
 |z6 (a e b a1 e1 b1:Int) (m:Nat):At L a->e=0->(Hf L a).kind=1->PC BZ 122 [.GN 0 0,.int .i64 m,.int .i64 200] [cells L a e b n] (.bool true) [cells L a1 e1 b1 n]->Rs a e b m [] a1 e1 b1 true
 |one (a e b a1 e1 b1:Int) (m:Nat) (w:ByteArray):At L a->e=0->((Hf L a).kind=1->PC BZ 122 [.GN 0 0,.int .i64 m,.int .i64 200] [cells L a e b n] (.bool false) [cells L a e b n])->
  PC BZ 146 [.GN 0 0] [cells L a e b n] (.Gh w) [cells L a1 e1 b1 n]->PC BZ 148 [.GN 0 0,.Gh ⟨#[44]⟩] [cells L a1 e1 b1 n] (.bool false) [cells L a1 e1 b1 n]->Rs a e b m [(w,(Hf L a).GY)] a1 e1 b1 false
 |Ie (a e b a1 e1 b1 a2 a' e' b':Int) (m:Nat) (w:ByteArray) (r:List (ByteArray×Int)) (f:Bool):At L a->e=0->((Hf L a).kind=1->PC BZ 122 [.GN 0 0,.int .i64 m,.int .i64 200] [cells L a e b n] (.bool false) [cells L a e b n])->
  PC BZ 146 [.GN 0 0] [cells L a e b n] (.Gh w) [cells L a1 e1 b1 n]->PC BZ 148 [.GN 0 0,.Gh ⟨#[44]⟩] [cells L a1 e1 b1 n] (.bool true) [cells L a2 e1 b1 n]->Rs a2 e1 b1 (m+1) r a' e' b' f->Rs a e b m ((w,(Hf L a).GY)::r) a' e' b' f
inductive gX:Int->Int->Int->Int->Int->Int->Int->Int->Prop
 |val (a e b a1 e1 b1 a2 e2 b2:Int) (kd:Int):PC BZ 145 [.GN 0 0,.Gh ⟨#[58]⟩] [cells L a e b n] (.tuple []) [cells L a1 e1 b1 n]->PC BZ 163 [.GN 0 0] [cells L a1 e1 b1 n] (.int .i64 kd) [cells L a2 e2 b2 n]->
  PC BZ 148 [.GN 0 0,.Gh ⟨#[94]⟩] [cells L a2 e2 b2 n] (.bool false) [cells L a2 e2 b2 n]->gX a e b kd 0 a2 e2 b2
 |K7 (a e b a1 e1 b1 a2 e2 b2 a3 a4 e4 b4:Int) (kd ln:Int):PC BZ 145 [.GN 0 0,.Gh ⟨#[58]⟩] [cells L a e b n] (.tuple []) [cells L a1 e1 b1 n]->PC BZ 163 [.GN 0 0] [cells L a1 e1 b1 n] (.int .i64 kd) [cells L a2 e2 b2 n]->
  PC BZ 148 [.GN 0 0,.Gh ⟨#[94]⟩] [cells L a2 e2 b2 n] (.bool true) [cells L a3 e2 b2 n]->PC BZ 164 [.GN 0 0] [cells L a3 e2 b2 n] (.int .i64 ln) [cells L a4 e4 b4 n]->gX a e b kd ln a4 e4 b4
inductive fK:Int->Int->Int->Nat->List Ge->Int->Int->Int->Prop
 |z6 (a e b a' e' b':Int) (m:Nat) (r:List (ByteArray×Int)):Rs L n a e b m r a' e' b' true->fK a e b m (r.map λx=>⟨x.1,0,0,[],x.2⟩) a' e' b'
 |mk (a e b a1 e1 b1 a' e' b':Int) (m:Nat) (r:List (ByteArray×Int)) (kd ln:Int):Rs L n a e b m r a1 e1 b1 false->gX L n a1 e1 b1 kd ln a' e' b'->fK a e b m (r.map λx=>⟨x.1,kd,ln,[],x.2⟩) a' e' b'
end
section
variable{L:List PT} {a e b n:Int}
def ADr(hL:Ii L)(ha:At L a):∃w a' e' b',PC BZ 163 [.GN 0 0] [cells L a e b n] (.int .i64 w) [cells L a' e' b' n]/\0<=w/\w<=9/\T7 L a e a' e':=by obtain⟨r,c,IE,a',e',b',n',hc,hn,⟨w,hr,h0,h9⟩,pA⟩:=r7 (b:=b) (n:=n) (e:=e) hL ha;rw[hn]at hc;rw[hr,hc]at IE;exact⟨w,a',e',b',IE,h0,h9,pA⟩
def ACO(hL:Ii L)(n:Int):∀(c:Nat) (a e b:Int) (m:Nat),At L a->mu L a e<=c->∃r a' e' b' f,Rs L n a e b m r a' e' b' f/\At L a'/\(r.length:Int)+mu L a' e'<=mu L a e:=by
 intro c
 induction c with
 |zero=>
  intro a e b m ha hc;have he:e≠0:=λh=>by have:=Om ha h;omega
  exact⟨[],a,e,b,false,.eT a e b m he,ha,AD⟩
 |succ c ih=>
  intro a e b m ha hc;by_cases he:e=0
  case neg=>exact⟨[],a,e,b,false,.eT a e b m he,ha,AD⟩
  by_cases hf:(Hf L a).kind=1/\(200:Int)<=m
  .obtain⟨e1,b1,Nl,Jy⟩:=Nb (b:=b) (n:=n) (e:=e) hL ha hf.2;exact⟨[],_,_,_,true,.z6 a e b _ _ _ m ha he hf.1 Jy,BQ hL,by rw[Kg Nl];have:=Qp (e:=e) ha;simpa using this⟩
  .have KM:(Hf L a).kind=1->PC BZ 122 [.GN 0 0,.int .i64 m,.int .i64 200] [cells L a e b n] (.bool false) [cells L a e b n]:=λh1=>
    Na hL ha (by have:¬(200:Int)<=m:=λh2=>hf ⟨h1,h2⟩;omega)
   obtain⟨w,a1,e1,b1,Jy,VL⟩:=gS (b:=b) (n:=n) (e:=e) hL ha;have YK:=VL.2.1 he;cases pH:TK L a1 e1 ⟨#[44]⟩with
   |false=>exact⟨_,_,_,_,_,.one a e b _ _ _ m w ha he KM Jy (Nw hL VL.1 pH),VL.1,by simp;omega⟩
   |true=>
    obtain⟨Nl,Lt⟩:=L8 hL VL.1 pH;have G7:mu L (a1+1) e1<mu L a1 e1:=by rw[Ha Nl,Ha Nl];omega
    obtain⟨r,a',e',b',f,h1,h2,h3⟩:=ih (a1+1) e1 b1 (m+1) Lt AA;exact⟨_,_,_,_,_,.Ie a e b _ _ _ _ _ _ _ m w r f ha he KM Jy (Nx hL VL.1 pH) h1,h2,by simp;omega⟩
def ACR(hL:Ii L)(ha:At L a):∃kd ln a' e' b',gX L n a e b kd ln a' e' b'/\At L a'/\mu L a' e'<=mu L a e/\0<=kd/\kd<=9:=by
 obtain⟨a1,e1,b1,Jy,VL⟩:=YE (b:=b) (n:=n) (e:=e) hL ha ⟨#[58]⟩;obtain⟨kd,a2,e2,b2,I4,hk0,hk9,S1⟩:=ADr (b:=b1) (n:=n) (e:=e1) hL VL.1;have YK:=VL.le ha;have cM:=S1.le VL.1;cases pH:TK L a2 e2 ⟨#[94]⟩with
 |false=>exact⟨kd,0,a2,e2,b2,.val _ _ _ _ _ _ _ _ _ _ Jy I4 (Nw hL S1.1 pH),S1.1,AA,hk0,hk9⟩
 |true=>
  obtain⟨YI,SR⟩:=L8 hL S1.1 pH;have G7:mu L (a2+1) e2<mu L a2 e2:=by rw[Ha YI,Ha YI];omega
  obtain⟨ln,a4,e4,b4,rY,bI⟩:=yz (b:=b2) (n:=n) (e:=e2) hL SR;have lT:=bI.le SR;exact⟨kd,ln,a4,e4,b4,.K7 _ _ _ _ _ _ _ _ _ _ _ _ _ _ _ Jy I4 (Nx hL S1.1 pH) rY,bI.1,AA,hk0,hk9⟩
def oX(hL:Ii L)(ha:At L a)(m:Nat):∃l a' e' b',fK L n a e b m l a' e' b'/\At L a'/\(l.length:Int)+mu L a' e'<=mu L a e/\∀v∈l,0<=v.tk/\v.tk<=9/\v.Ga=[]:=by
 obtain⟨r,a1,e1,b1,f,h1,h2,h3⟩:=ACO hL n (mu L a e).toNat a e b m ha AJ;cases f with
 |true=>
  refine⟨_,_,_,_,.z6 _ _ _ _ _ _ _ _ h1,h2,by simpa using h3,λv hv=>?_⟩;obtain⟨x,_,rfl⟩:=B8.1 hv;exact⟨by show(0:Int)<=0;omega,by show(0:Int)<=9;omega,rfl⟩
 |false=>
  obtain⟨kd,ln,a2,e2,b2,h4,h5,h6,h7,h8⟩:=ACR (n:=n) (b:=b1) (e:=e1) hL h2;refine⟨_,_,_,_,.mk _ _ _ _ _ _ _ _ _ _ _ _ _ h1 h4,h5,by simp;omega,λv hv=>?_⟩;obtain⟨x,_,rfl⟩:=B8.1 hv;exact⟨h7,h8,rfl⟩
def gX.K5{kd ln a' e' b':Int}(h:gX L n a e b kd ln a' e' b'):(ln=0/\∃a1 e1 b1,PC BZ 145 [.GN 0 0,.Gh ⟨#[58]⟩] [cells L a e b n] (.tuple []) [cells L a1 e1 b1 n]/\PC BZ 163 [.GN 0 0] [cells L a1 e1 b1 n] (.int .i64 kd) [cells L a' e' b' n]/\
   PC BZ 148 [.GN 0 0,.Gh ⟨#[94]⟩] [cells L a' e' b' n] (.bool false) [cells L a' e' b' n])\/
  ∃a1 e1 b1 a2 e2 b2 a3,PC BZ 145 [.GN 0 0,.Gh ⟨#[58]⟩] [cells L a e b n] (.tuple []) [cells L a1 e1 b1 n]/\PC BZ 163 [.GN 0 0] [cells L a1 e1 b1 n] (.int .i64 kd) [cells L a2 e2 b2 n]/\
   PC BZ 148 [.GN 0 0,.Gh ⟨#[94]⟩] [cells L a2 e2 b2 n] (.bool true) [cells L a3 e2 b2 n]/\PC BZ 164 [.GN 0 0] [cells L a3 e2 b2 n] (.int .i64 ln) [cells L a' e' b' n]:=by
 cases h with
 |val=>exact .inl ⟨rfl,_,_,_,‹_›,‹_›,‹_›⟩
 |K7=>exact .inr ⟨_,_,_,_,_,_,_,‹_›,‹_›,‹_›,‹_›⟩
def Rs.K5{m:Nat}{r:List (BA×Int)}{a' e' b':Int}{f:Bool}(h:Rs L n a e b m r a' e' b' f):(e≠0/\r=[]/\a'=a/\e'=e/\b'=b/\f=false)\/
  (At L a/\e=0/\(Hf L a).kind=1/\r=[]/\f=true/\PC BZ 122 [.GN 0 0,.int .i64 m,.int .i64 200] [cells L a e b n] (.bool true) [cells L a' e' b' n])\/
  (At L a/\e=0/\((Hf L a).kind=1->PC BZ 122 [.GN 0 0,.int .i64 m,.int .i64 200] [cells L a e b n] (.bool false) [cells L a e b n])/\∃w,r=[(w,(Hf L a).GY)]/\f=false/\
   PC BZ 146 [.GN 0 0] [cells L a e b n] (.Gh w) [cells L a' e' b' n]/\PC BZ 148 [.GN 0 0,.Gh ⟨#[44]⟩] [cells L a' e' b' n] (.bool false) [cells L a' e' b' n])\/
  (At L a/\e=0/\((Hf L a).kind=1->PC BZ 122 [.GN 0 0,.int .i64 m,.int .i64 200] [cells L a e b n] (.bool false) [cells L a e b n])/\∃w a1 e1 b1 a2 r',r=(w,(Hf L a).GY)::r'/\
   PC BZ 146 [.GN 0 0] [cells L a e b n] (.Gh w) [cells L a1 e1 b1 n]/\PC BZ 148 [.GN 0 0,.Gh ⟨#[44]⟩] [cells L a1 e1 b1 n] (.bool true) [cells L a2 e1 b1 n]/\Rs L n a2 e1 b1 (m+1) r' a' e' b' f):=by
 cases h with
 |eT=>exact .inl ⟨‹_›,rfl,rfl,rfl,rfl,rfl⟩
 |z6=>exact .inr (.inl ⟨‹_›,‹_›,‹_›,rfl,rfl,‹_›⟩)
 |one=>exact .inr (.inr (.inl ⟨‹_›,‹_›,‹_›,_,rfl,rfl,‹_›,‹_›⟩))
 |Ie=>exact .inr (.inr (.inr ⟨‹_›,‹_›,‹_›,_,_,_,_,_,_,rfl,‹_›,‹_›,‹_›⟩))
end
end
section
open Go Go.RowKit Go.Proofs
def KH(l:List Ge):LV:=l.flatMap λv=>[.string v.name,.int .i64 v.tk,.int .i64 v.tl,.slice none 0 0,.int .i64 v.GY]
def Is(l:List (BA×Int)):LV:=l.flatMap λx=>[.string x.1,.int .i64 0,.int .i64 0,.slice none 0 0,.int .i64 x.2]
structure Lf (lo B0:Nat) (K:KK) (w:World) (K':KK) (w':World):Prop where
 le:Yn K K'
 old:∀B ks,K' B=some ks->K B=some ks\/lo<=B
 size:w.heap.size<=w'.heap.size
 LU:∀B,B<lo->B≠B0->w'.heap[B]?=w.heap[B]?
 os:w'.os=w.os
 output:w'.output=w.output
def Lf.refl(lo B0:Nat)(K:KK)(w:World):Lf lo B0 K w K w:=⟨Yn.refl K,λ_ _ h=> .inl h,Bg _,λ_ _ _=>rfl,rfl,rfl⟩
structure T8 (L:List PT) (n:Int) (lo B0:Nat) (K0:KK) (w0:World) (K:KK) (w:World) (a e b:Int) (v:Bk) (m:Nat) (xs:List Bk):Prop where
 hd:Hd L B0 K w a e b n
 lf:Lf lo B0 K0 w0 K w
 HE:w.ownsRow lo 77 5 v m xs
 kn:∀g,v.ownBlock=some g->K g=none
 nz:m=0->v=.slice none 0 0
section
variable{L:List PT} {n:Int} {lo B0:Nat} {K0 K K':KK} {w0 w w':World} {a e b a' e' b':Int} {v:Value} {m:Nat} {xs:LV}
def T8.step(h:T8 L n lo B0 K0 w0 K w a e b v m xs)(hl:lo<=w0.heap.size)(hB:B0<lo)(hd:Hd L B0 K' w' a' e' b' n)(st:St1 B0 K w K' w'):T8 L n lo B0 K0 w0 K' w' a' e' b' v m xs:=by
 have G7:∀g,v.ownBlock=some g->lo<=g/\g<w.heap.size:=λg hg=>Dc h.HE g hg;have gK:=h.lf.size;refine⟨hd,⟨h.lf.le.trans st.le,λB ks hk=>?_,CN gK st.size,λB pG hn=>(st.LU B AA hn).trans (h.lf.LU B pG hn),st.os.trans h.lf.os,st.output.trans h.lf.output⟩,eH h.HE λg hg=>?_,λg hg=>?_,h.nz⟩
 .by_cases hB':B<w.heap.size
  .exact h.lf.old B ks (st.old B ks hk hB')
  .exact AgD
 .have:=G7 g hg;exact st.LU g this.2 AA
 .cases hk:K' g with
  |none=>rfl
  |some ks=>
   have:=st.old g ks hk (G7 g hg).2;rw[h.kn g hg]at this;cases this
def T8.new(h:T8 L n lo B0 K0 w0 K w a e b v m xs)(hl:lo<=w0.heap.size)(hB:B0<lo)(o:EE):T8 L n lo B0 K0 w0 K (w.alloc o) a e b v m xs:=
 h.step hl hB (h.hd.OD λB hb=>Fl _ _ _ (by
  rcases hb with rfl|⟨ks,hk⟩
  .exact h.hd.lt
  .exact h.hd.klt hk)) ⟨Yn.refl _,λ_ _ hk _=>hk,AD,λB G7 _=>Fl _ _ _ G7,rfl,rfl⟩
def T8.yg(h:T8 L n lo B0 K0 w0 K w a e b v m xs)(hB:B0<lo){T:Nat}(hT:lo<=T)(hk:K T=none)(hv:v.ownBlock≠some T)(j:Nat)(u:Bk):T8 L n lo B0 K0 w0 K (w.setCell ⟨T,j,none⟩ u) a e b v m xs:=
 ⟨h.hd.OD λB hb=>DQ _ _ _ _ (by
   rcases hb with rfl|⟨ks,Rm⟩
   .exactλe=>by simp at e;omega
   .exactλe=>by simp at e;rw[e,hk]at Rm;cases Rm),⟨h.lf.le,h.lf.old,by simpa using h.lf.size,λB pG hn=>(DQ _ _ _ _ (λe=>by simp at e;omega)).trans (h.lf.LU B pG hn),h.lf.os,h.lf.output⟩,
  eH h.HE λg hg=>DQ _ _ _ _ (λe=>by simp at e;rw[e]at hg;exact hv hg),h.kn,h.nz⟩
def T8.set(h:T8 L n lo B0 K0 w0 K w a e b v m xs)(hB:B0<lo){g:Nat}(hg:v.ownBlock=some g)(j:Nat)(u:Bk):T8 L n lo B0 K0 w0 K (w.setCell ⟨g,j,none⟩ u) a e b v m (xs.set j u):=by
 have pG:=(Dc h.HE g hg).1;have hk:=h.kn g hg
 exact⟨h.hd.OD λB hb=>DQ _ _ _ _ (by
   rcases hb with rfl|⟨ks,Rm⟩
   .exactλe=>by simp at e;omega
   .exactλe=>by simp at e;rw[e,hk]at Rm;cases Rm),⟨h.lf.le,h.lf.old,by simpa using h.lf.size,λB AVN hn=>(DQ _ _ _ _ (λe=>by simp at e;omega)).trans (h.lf.LU B AVN hn),h.lf.os,h.lf.output⟩,
  AAm h.HE hg j u,h.kn,h.nz⟩
def T8.xn(h:T8 L n lo B0 K0 w0 K w a e b v m xs)(hl:lo<=w0.heap.size)(hB:B0<lo){w':World}(hg:w.grownBy w' v.ownBlock){g cap m' H:Nat}{xs':LV}(KT:w'.ownsRow lo 77 5 (.slice (some ⟨g,0,none⟩) m' cap) m' xs')(SU:v.ownBlock=some g\/g=H)(hH:w.heap.size=H)(hm:m'≠0):
  T8 L n lo B0 K0 w0 K w' a e b (.slice (some ⟨g,0,none⟩) m' cap) m' xs':=by
 have gK:=h.lf.size;have hv:∀B,v.ownBlock=some B->lo<=B/\K B=none:=λB hb=>⟨(Dc h.HE B hb).1,h.kn B hb⟩
 refine⟨h.hd.OD λB hb=>hg.block B ?_ ?_,⟨h.lf.le,h.lf.old,CN gK hg.size,λB pG hn=>(hg.block B AA (λe=>by have:=(hv B e.symm).1;omega)).trans (h.lf.LU B pG hn),hg.os.trans h.lf.os,hg.output.trans h.lf.output⟩,KT,λg' hg'=>?_,λe=>Zq e hm⟩
 .rcases hb with rfl|⟨ks,hk⟩
  .exact h.hd.lt
  .exact h.hd.klt hk
 .intro e;obtain⟨h1,h2⟩:=hv B e.symm;rcases hb with rfl|⟨ks,hk⟩
  .omega
  .rw[h2]at hk;cases hk
 .have:g'=g:=by simpa[FJ]using hg'.symm
  rw[this];rcases SU with SU|rfl
  .exact(hv g SU).2
  .cases hk:K g with
   |none=>rfl
   |some ks=>have:=h.hd.klt hk;omega
structure tW (L:List PT) (n:Int) (lo B0:Nat) (K0:KK) (w0:World) (K:KK) (w:World) (a e b:Int) (v:Bk) (m:Nat) (xs:List Bk) (T:Nat) (kd ln:Int):Prop where
 i:T8 L n lo B0 K0 w0 K w a e b v m xs
 lo:lo<=T
 cell:w.heap[T]?=some (.cells #[.int .i64 kd,.int .i64 ln] 74 (0,0))
 kn:K T=none
 ne:v.ownBlock≠some T
def T8.t(h:T8 L n lo B0 K0 w0 K w a e b v m xs)(hl:lo<=w0.heap.size)(hB:B0<lo)(kd ln:Int):tW L n lo B0 K0 w0 K (w.alloc (.cells #[.int .i64 kd,.int .i64 ln] 74)) a e b v m xs w.heap.size kd ln:=by
 refine⟨h.new hl hB _,CN hl h.lf.size,Ru _ _,?_,λe=>?_⟩
 .cases hk:K w.heap.size with
  |none=>rfl
  |some ks=>have:=h.hd.klt hk;omega
 .have:=(Dc h.HE _ e).2;omega
def tW.step{T:Nat}{kd ln:Int}(h:tW L n lo B0 K0 w0 K w a e b v m xs T kd ln)(hl:lo<=w0.heap.size)(hB:B0<lo)(hd:Hd L B0 K' w' a' e' b' n)(st:St1 B0 K w K' w'):tW L n lo B0 K0 w0 K' w' a' e' b' v m xs T kd ln:=by
 have G7:=Dv h.cell;have pG:=h.lo;refine⟨h.i.step hl hB hd st,pG,(st.LU T G7 AA).trans h.cell,?_,h.ne⟩;cases hk:K' T with
 |none=>rfl
 |some ks=>have:=st.old T ks hk G7;rw[h.kn]at this;cases this
def tW.ANw{T:Nat}{kd ln:Int}(h:tW L n lo B0 K0 w0 K w a e b v m xs T kd ln)(hB:B0<lo)(ln':Int):tW L n lo B0 K0 w0 K (w.setCell ⟨T,1,none⟩ (.int .i64 ln')) a e b v m xs T kd ln':=⟨h.i.yg hB h.lo h.kn h.ne _ _,h.lo,S2 h.cell _,h.kn,h.ne⟩
def tW.set{T g:Nat}{kd ln:Int}(h:tW L n lo B0 K0 w0 K w a e b v m xs T kd ln)(hB:B0<lo)(hg:v.ownBlock=some g)(j:Nat)(u:Bk):tW L n lo B0 K0 w0 K (w.setCell ⟨g,j,none⟩ u) a e b v m (xs.set j u) T kd ln:=⟨h.i.set hB hg j u,h.lo,(DQ _ _ _ _ (λe=>by simp at e;rw[<- e]at hg;exact h.ne hg)).trans h.cell,h.kn,h.ne⟩
def N0{w:World}{b:Nat}{cs:AV0}{t:Bz}(h:w.heap[b]?=some (.cells cs t (0,0))):(∀j,w.cell? ⟨b,j,none⟩=cs[j]?)/\(∀j,w.frozen? ⟨b,j,none⟩=false):=⟨λ_=>Df _ _ _ _ _ _ h,λ_=>frozen_of_row _ _ _ _ _ h⟩
def vh(r:List (BA×Int)):KH (r.map λx=>⟨x.1,0,0,[],x.2⟩)=Is r:=by simp[KH,Is,List.flatMap_map]
def Ty(xs:LV)(r:List (BA×Int))(kd ln:Int)(d:Nat):LV:=xs++KH ((r.take d).map λx=>⟨x.1,kd,ln,[],x.2⟩)++Is (r.drop d)
def qI(l:List Ge):(KH l).length=l.length*5:=by
 induction l with
 |nil=>rfl
 |cons x l ih=>simp only[KH,C4,Bd,CE,List.length_nil]at ih⊢;omega
def VT(l k:List Ge):KH (l++k)=KH l++KH k:=by simp[KH]
def Nz(l k:List (BA×Int)):Is (l++k)=Is l++Is k:=by simp[Is]
def p8(P Q:LV)(j i:Nat)(u:Bk)(hi:i=P.length+j):(P++Q).set i u=P++Q.set j u:=by rw[hi,List.set_append_right _ _ AA,EC]
def Ro{xs:LV}{r:List (BA×Int)}{kd ln:Int}{d m:Nat}(hx:xs.length=m*5)(hd:d<r.length):
  ((Ty xs r kd ln d).set ((m+d)*5+1) (.int .i64 kd)).set ((m+d)*5+2) (.int .i64 ln)=Ty xs r kd ln (d+1):=by
 have h1:r.drop d=r[d]::r.drop (d+1):=Bt hd;have h2:r.take (d+1)=r.take d++[r[d]]:=by rw[Cm hd]
 have HM:(xs++KH ((r.take d).map λx=>(⟨x.1,kd,ln,[],x.2⟩:Ge))).length=(m+d)*5:=by
  rw[Bd,qI,hx,Bb,C2];omega
 unfold Ty;rw[p8 _ _ 1 _ _ (by rw[HM]),p8 _ _ 2 _ _ (by rw[HM]),h1,h2,Bu,VT,<- B3,B3 (xs++_)];congr 1
def Rn{xs:LV}{r:List (BA×Int)}{kd ln:Int}:Ty xs r kd ln r.length=xs++KH (r.map λx=>⟨x.1,kd,ln,[],x.2⟩):=by simp[Ty,Is]
def YD{xs:LV}{r:List (BA×Int)}{kd ln:Int}:Ty xs r kd ln 0=xs++Is r:=by simp[Ty,KH]
end
def ANG:(Tryz.prog.info? 77).map (λi=>(i.zero,i.size,i.bytes))=some (some (.agg #[.string ⟨#[]⟩,.int .i64 0,.int .i64 0,.slice none 0 0,.int .i64 0]),5,64):=by kernel_rfl
def jM(a:Int)(b:BA)(c d e f:Int)(w:World):(FF 196 (.agg #[.int .i64 a,.string b,.int .i64 c,.int .i64 d,.int .i64 e,.int .i64 f]) 0).run BZ w=.ok (.int .i64 a) w:=by kernel_rfl
def uy(a:Int)(b:BA)(c d e f:Int)(w:World):(FF 196 (.agg #[.int .i64 a,.string b,.int .i64 c,.int .i64 d,.int .i64 e,.int .i64 f]) 4).run BZ w=.ok (.int .i64 f) w:=by kernel_rfl
set_option maxHeartbeats 16000000 in
def fm{L:List PT}{n a e b a' e' b':Int}{m:Nat}{l:List Ge}(h:fK L n a e b m l a' e' b')(AMW:m+l.length<=20000){K:KK}{w:World}{B0 lo:Nat}{v:Bk}{xs:LV}(hd:Hd L B0 K w a e b n)(hL:w.ownsRow lo 77 5 v m xs)(hk:∀g,v.ownBlock=some g->K g=none)(hnz:m=0->v=.slice none 0 0)
  (hl:lo<=w.heap.size)(hB:B0<lo):
  Calls BZ 159 #[.pointer (some ⟨B0,0,none⟩),v] w λen w'=>∃K' v',en=.returned v'/\T8 L n lo B0 K w K' w' a' e' b' v' (m+l.length) (xs++KH l):=by
 have A0:CH (T8 L n lo B0 K w K w a e b v m xs):=⟨hd,Lf.refl _ _ _ _,hL,hk,hnz⟩
 obtain⟨i0,hi,hz0,hz1,hz2⟩:∃i,Tryz.prog.info? 77=some i/\i.zero=some (.agg #[.string ⟨#[]⟩,.int .i64 0,.int .i64 0,.slice none 0 0,.int .i64 0])/\i.size=5/\i.bytes=64:=by
  have:=ANG;cases h:Tryz.prog.info? 77 with
  |none=>rw[h]at this;cases this
  |some i=>
   exact AgN
 have hf0:=jM;have hf4:=uy;obtain⟨a0,cp,rfl⟩:=Qs hL
 obtain⟨r,a1,e1,b1,f,hdl,Lu⟩:∃r a1 e1 b1 f,Rs L n a e b m r a1 e1 b1 f/\(f=true/\a'=a1/\e'=e1/\b'=b1/\l=r.map (λx=>⟨x.1,0,0,[],x.2⟩)\/f=false/\∃kd ln,gX L n a1 e1 b1 kd ln a' e' b'/\l=r.map λx=>⟨x.1,kd,ln,[],x.2⟩):=by
  cases h with
  |z6 _ _ _ _ r h1=>exact⟨r,_,_,_,true,h1,.inl ⟨rfl,rfl,rfl,rfl,rfl⟩⟩
  |mk a1 e1 b1 _ _ _ _ r kd ln h1 h2=>exact⟨r,a1,e1,b1,false,h1,.inr ⟨rfl,kd,ln,h2,rfl⟩⟩
 have rZ:l.length=r.length:=by rcases Lu with⟨_,_,_,_,rfl⟩|⟨_,_,_,_,rfl⟩<;>simp
 rw[rZ]at AMW;have hx5:xs.length=m*5:=hL.1;clear hd hL hk hnz;go_enter Tryz.func159,Tryz.ntmps159
 go_wp2
 go_loopg [1,6,7,8,9] (r.length) (λkx s1 s6 s7 s8 s9 wr=>∃(Kc:KK) (ac ec bc:Int) (dn rs:List (BA×Int)),r=dn++rs/\rs.length<=kx/\CH (Rs L n ac ec bc (m+dn.length) rs a1 e1 b1 f/\T8 L n lo B0 K w Kc wr ac ec bc s1 (m+dn.length) (xs++Is dn)))
 case atStart=>exact⟨K,a,e,b,[],r,rfl,Bg _,hdl,by simpa[Is]using A0.out⟩
 case round=>
  clear A0;obtain⟨Kc,ac,ec,bc,dn,rs,hr,hkx,A⟩:=hrel;obtain⟨a0,cp,rfl⟩:=Qs A.out.2.HE;have c2:=A.out.2.hd.c2;have G7:=A.out.2.hd.lt;obtain⟨ZK,Xw⟩:=A.out;rcases ZK.K5 with⟨he,rfl,rfl,rfl,rfl,rfl⟩|⟨ha,he,LX,rfl,rfl,hpf⟩|⟨ha,he,hfl,nm,rfl,rfl,ZN,dp⟩|⟨ha,he,hfl,nm,a3,e3,b3,a4,r',rfl,ZN,dp,rO⟩
  .obtain rfl:r=dn:=by simpa using hr
   clear hr hkx ZK;have A1:CH _:=Xw;obtain⟨hf,_⟩|⟨_,kd,ln,ht,rfl⟩:=Lu
   .cases hf
   rcases ht.K5 with⟨rfl,a2,e2,b2,ZN,dp,rX⟩|⟨a2,e2,b2,a3,e3,b3,a4,ZN,dp,rX,hp4⟩
   .go_wp2_with (fail)
    refine(Zp A1.out.hd ZN (.Gh _)).mono ?_;rintro _ wa ⟨Ka,_,rfl,Un,Yl,Yf⟩;obtain rfl:=QR Yf;have Aa:CH _:=A1.out.step hl hB Un Yl;go_wp2_with (fail)
    refine(Vf Aa.out.hd dp).mono ?_;rintro _ wb ⟨Kb,_,rfl,T6,fF,bP⟩;obtain rfl:=VC bP;have Ab:CH _:=Aa.out.step hl hB T6 fF;have Ac:CH _:=Ab.out.t hl hB kd 0;go_wp2_with (fail)
    refine(Zp Ac.out.i.hd rX (.Gh _)).mono ?_;rintro _ wc ⟨Kt,_,rfl,Ws,cE,XA⟩;obtain rfl:=LG XA;have Ad:CH _:=Ac.out.step hl hB Ws cE;clear Un Yl Yf T6 fF bP Ws cE XA Aa Ab Ac A1
    try clear A
    go_wp2
    go_loopg [12] (r.length) (λkx s12 wr=>∃d:Nat,s12=.int .i64 ((m+d:Nat):Int)/\d<=r.length/\r.length-d<=kx/\CH (tW L n lo B0 K w Kt wr a' e' b' (.slice a0 (m+r.length) cp) (m+r.length) (Ty xs r kd 0 d) wb.heap.size kd 0))
    case atStart=>exact⟨0,rfl,AA,AA,by rw[YD];exact Ad.out⟩
    case round=>
     exact AdU
   .go_wp2_with (fail)
    refine(Zp A1.out.hd ZN (.Gh _)).mono ?_;rintro _ wa ⟨Ka,_,rfl,Un,Yl,Yf⟩;obtain rfl:=QR Yf;have Aa:CH _:=A1.out.step hl hB Un Yl;go_wp2_with (fail)
    refine(Vf Aa.out.hd dp).mono ?_;rintro _ wb ⟨Kb,_,rfl,T6,fF,bP⟩;obtain rfl:=VC bP;have Ab:CH _:=Aa.out.step hl hB T6 fF;have Ac:CH _:=Ab.out.t hl hB kd 0;go_wp2_with (fail)
    refine(Zp Ac.out.i.hd rX (.Gh _)).mono ?_;rintro _ wc ⟨Kc2,_,rfl,Ws,cE,XA⟩;obtain rfl:=LG XA;have Ad:CH _:=Ac.out.step hl hB Ws cE;go_wp2_with (fail)
    refine(Vf Ad.out.i.hd hp4).mono ?_;rintro _ wd ⟨Kt,_,rfl,mb,nV,ZO⟩;obtain rfl:=VC ZO;have Ae:CH _:=Ad.out.step hl hB mb nV;have Af:CH _:=Ae.out.ANw hB ln;obtain⟨htc,htf⟩:=N0 Ae.out.cell;have htl:=Dv Ae.out.cell;clear Un Yl Yf T6 fF bP Ws cE XA mb nV ZO Aa Ab Ac Ad Ae A1
    try clear A
    go_wp2
    go_loopg [12] (r.length) (λkx s12 wr=>∃d:Nat,s12=.int .i64 ((m+d:Nat):Int)/\d<=r.length/\r.length-d<=kx/\CH (tW L n lo B0 K w Kt wr a' e' b' (.slice a0 (m+r.length) cp) (m+r.length) (Ty xs r kd ln d) wb.heap.size kd ln))
    case atStart=>exact⟨0,rfl,AA,AA,by rw[YD];exact Af.out⟩
    case round=>
     exact AdT
  .obtain rfl:r=dn:=by simpa using hr
   obtain⟨_,rfl,rfl,rfl,rfl⟩|⟨hf,_⟩:=Lu
   case inr=>cases hf
   have A1:CH _:=Xw;clear hr hkx ZK;go_wp2_with (fail)
   refine(Vf A1.out.hd (Ou ha)).mono ?_;rintro _ wa ⟨Ka,_,rfl,Un,Yl,Yf⟩;obtain rfl:=SL Yf;have Aa:CH _:=A1.out.step hl hB Un Yl;clear Un Yl Yf;go_wp2_with (fail)
   refine(tY Aa.out.hd hpf (.int _ _) (.int _ _)).mono ?_;rintro _ wb ⟨Kb,_,rfl,T6,fF,bP⟩;obtain rfl:=LG bP;have Ab:CH _:=Aa.out.step hl hB T6 fF;clear T6 fF bP;go_wp2
   go_ret
   exact⟨Kb,_,rfl,by rw[vh,Bb];exact Ab.out⟩
  .have A1:CH _:=Xw;obtain⟨hf,_⟩|⟨_,kd,ln,ht,rfl⟩:=Lu
   case inl=>cases hf
   have HM:r.length=dn.length+1:=by rw[hr];simp
   have PU:CH (r=dn++[(nm,(Hf L ac).GY)]):=hr;clear hr hkx ZK;go_wp2_with (fail)
   refine(Vf A1.out.hd (Ou ha)).mono ?_;rintro _ wa ⟨Ka,_,rfl,Un,Yl,Yf⟩;obtain rfl:=SL Yf;have Aa:CH _:=A1.out.step hl hB Un Yl;clear Un Yl Yf;by_cases LX:(Hf L ac).kind=1
   .go_wp2_with (fail)
    refine(tY Aa.out.hd (hfl LX) (.int _ _) (.int _ _)).mono ?_;rintro _ wb ⟨Kb,_,rfl,T6,fF,bP⟩;obtain rfl:=LG bP;have Ab:CH _:=Aa.out.step hl hB T6 fF;clear T6 fF bP;go_wp2_with (fail)
    refine(Vf Ab.out.hd (Ou ha)).mono ?_;rintro _ wt ⟨Kt1,_,rfl,jl,kp,jy⟩;obtain rfl:=SL jy;have tf:CH _:=Ab.out.step hl hB jl kp;go_wp2_with (fail)
    refine(Vf tf.out.hd ZN).mono ?_;rintro _ wn ⟨Kn,_,rfl,hdn,stn,lY⟩;obtain rfl:=px lY;have An:CH _:=tf.out.step hl hB hdn stn;have HX:CH (wn.ownsRow lo 77 5 (.slice a0 (m+dn.length) cp) (m+dn.length) (xs++Is dn)):=An.out.HE;have hlb:lo<=wn.heap.size:=CN hl An.out.lf.size;clear jl kp jy hdn stn lY;go_wp2_with (first|(at_builtin;refine DM _ rfl _ _ 45 rfl lo 77 i0 _ 5 64 EK hi hz0 hz1 hz2 rfl AL _ (m+dn.length) (xs++Is dn) rfl (Dw HX.out _) ⟨wn.heap.size,0,none⟩ 1 1 [.string nm,.int .i64 0,.int .i64 0,.slice none 0 0,.int .i64 (Hf L ac).GY] rfl rfl ?c1 ?c0 AL ?c2 ?c3 ?c4 wn.heap.size.succ ?c5 ?_))
    case c0=>intro u hu;simp at hu;rcases hu with rfl|rfl|rfl|rfl|rfl<;>rfl
    case c1=>exact Dx (Ru wn _)
    case c2=>unfold maxLen;omega
    case c3=>omega
    case c4=>simp;omega
    case c5=>simp
    intro gk cap w5 KT Qn SU AMZ;have A5:CH (T8 L n lo B0 K w Kn w5 _ _ _ (.slice (some ⟨gk,0,none⟩) (m+dn.length+1) cap) (m+dn.length+1) (xs++Is (dn++[(nm,(Hf L ac).GY)]))):=(An.out.new hl hB _).xn hl hB Qn AaN SU AD AA;clear KT Qn SU HX;go_wp2_with (fail)
    exact Ahh
   .have Ab:CH _:=Aa.out;go_wp2_with (fail)
    refine(Vf Ab.out.hd (Ou ha)).mono ?_;rintro _ wt ⟨Kt1,_,rfl,jl,kp,jy⟩;obtain rfl:=SL jy;have tf:CH _:=Ab.out.step hl hB jl kp;go_wp2_with (fail)
    refine(Vf tf.out.hd ZN).mono ?_;rintro _ wn ⟨Kn,_,rfl,hdn,stn,lY⟩;obtain rfl:=px lY;have An:CH _:=tf.out.step hl hB hdn stn;have HX:CH (wn.ownsRow lo 77 5 (.slice a0 (m+dn.length) cp) (m+dn.length) (xs++Is dn)):=An.out.HE;have hlb:lo<=wn.heap.size:=CN hl An.out.lf.size;clear jl kp jy hdn stn lY;go_wp2_with (first|(at_builtin;refine DM _ rfl _ _ 45 rfl lo 77 i0 _ 5 64 EK hi hz0 hz1 hz2 rfl AL _ (m+dn.length) (xs++Is dn) rfl (Dw HX.out _) ⟨wn.heap.size,0,none⟩ 1 1 [.string nm,.int .i64 0,.int .i64 0,.slice none 0 0,.int .i64 (Hf L ac).GY] rfl rfl ?c1 ?c0 AL ?c2 ?c3 ?c4 wn.heap.size.succ ?c5 ?_))
    case c0=>intro u hu;simp at hu;rcases hu with rfl|rfl|rfl|rfl|rfl<;>rfl
    case c1=>exact Dx (Ru wn _)
    case c2=>unfold maxLen;omega
    case c3=>omega
    case c4=>simp;omega
    case c5=>simp
    intro gk cap w5 KT Qn SU AMZ;have A5:CH (T8 L n lo B0 K w Kn w5 _ _ _ (.slice (some ⟨gk,0,none⟩) (m+dn.length+1) cap) (m+dn.length+1) (xs++Is (dn++[(nm,(Hf L ac).GY)]))):=(An.out.new hl hB _).xn hl hB Qn AaN SU AD AA;clear KT Qn SU HX;go_wp2_with (fail)
    exact Ahh
  .have A1:CH _:=Xw;have PU:CH (r=dn++(nm,(Hf L ac).GY)::r'):=hr;have HM:r.length=dn.length+1+r'.length:=by rw[hr];simp;omega
   have AVG:=hkx;rw[CE]at AVG;clear hr hkx ZK;go_wp2_with (fail)
   refine(Vf A1.out.hd (Ou ha)).mono ?_;rintro _ wa ⟨Ka,_,rfl,Un,Yl,Yf⟩;obtain rfl:=SL Yf;have Aa:CH _:=A1.out.step hl hB Un Yl;clear Un Yl Yf;by_cases LX:(Hf L ac).kind=1
   .go_wp2_with (fail)
    refine(tY Aa.out.hd (hfl LX) (.int _ _) (.int _ _)).mono ?_;rintro _ wb ⟨Kb,_,rfl,T6,fF,bP⟩;obtain rfl:=LG bP;have Ab:CH _:=Aa.out.step hl hB T6 fF;clear T6 fF bP;go_wp2_with (fail)
    refine(Vf Ab.out.hd (Ou ha)).mono ?_;rintro _ wt ⟨Kt1,_,rfl,jl,kp,jy⟩;obtain rfl:=SL jy;have tf:CH _:=Ab.out.step hl hB jl kp;go_wp2_with (fail)
    refine(Vf tf.out.hd ZN).mono ?_;rintro _ wn ⟨Kn,_,rfl,hdn,stn,lY⟩;obtain rfl:=px lY;have An:CH _:=tf.out.step hl hB hdn stn;have HX:CH (wn.ownsRow lo 77 5 (.slice a0 (m+dn.length) cp) (m+dn.length) (xs++Is dn)):=An.out.HE;have hlb:lo<=wn.heap.size:=CN hl An.out.lf.size;clear jl kp jy hdn stn lY;go_wp2_with (first|(at_builtin;refine DM _ rfl _ _ 45 rfl lo 77 i0 _ 5 64 EK hi hz0 hz1 hz2 rfl AL _ (m+dn.length) (xs++Is dn) rfl (Dw HX.out _) ⟨wn.heap.size,0,none⟩ 1 1 [.string nm,.int .i64 0,.int .i64 0,.slice none 0 0,.int .i64 (Hf L ac).GY] rfl rfl ?c1 ?c0 AL ?c2 ?c3 ?c4 wn.heap.size.succ ?c5 ?_))
    case c0=>intro u hu;simp at hu;rcases hu with rfl|rfl|rfl|rfl|rfl<;>rfl
    case c1=>exact Dx (Ru wn _)
    case c2=>unfold maxLen;omega
    case c3=>omega
    case c4=>simp;omega
    case c5=>simp
    intro gk cap w5 KT Qn SU AMZ;have A5:CH (T8 L n lo B0 K w Kn w5 _ _ _ (.slice (some ⟨gk,0,none⟩) (m+dn.length+1) cap) (m+dn.length+1) (xs++Is (dn++[(nm,(Hf L ac).GY)]))):=(An.out.new hl hB _).xn hl hB Qn AaN SU AD AA;clear KT Qn SU HX;go_wp2_with (fail)
    refine(Zp A5.out.hd dp (.Gh _)).mono ?_;rintro _ w6 ⟨K6,_,rfl,hd6,st6,hv6⟩;obtain rfl:=LG hv6
    have A6:CH (Rs L n a4 e3 b3 (m+(dn++[(nm,(Hf L ac).GY)]).length) r' a1 e1 b1 f/\T8 L n lo B0 K w K6 w6 a4 e3 b3 (.slice (some ⟨gk,0,none⟩) (m+dn.length+1) cap) (m+(dn++[(nm,(Hf L ac).GY)]).length) (xs++Is (dn++[(nm,(Hf L ac).GY)]))):=
     ⟨by rw[Bd];exact rO,by rw[Bd];exact A5.out.step hl hB hd6 st6⟩
    clear hd6 st6 hv6 A5 An tf Ab Aa A A1 Xw;go_wp2
    go_roundg (r'.length)
    case measure=>omega
    case rel=>exact⟨K6,a4,e3,b3,dn++[(nm,(Hf L ac).GY)],r',by rw[B3];exact PU.out,Bg _,A6⟩
   .have Ab:CH _:=Aa.out;go_wp2_with (fail)
    refine(Vf Ab.out.hd (Ou ha)).mono ?_;rintro _ wt ⟨Kt1,_,rfl,jl,kp,jy⟩;obtain rfl:=SL jy;have tf:CH _:=Ab.out.step hl hB jl kp;go_wp2_with (fail)
    refine(Vf tf.out.hd ZN).mono ?_;rintro _ wn ⟨Kn,_,rfl,hdn,stn,lY⟩;obtain rfl:=px lY;have An:CH _:=tf.out.step hl hB hdn stn;have HX:CH (wn.ownsRow lo 77 5 (.slice a0 (m+dn.length) cp) (m+dn.length) (xs++Is dn)):=An.out.HE;have hlb:lo<=wn.heap.size:=CN hl An.out.lf.size;clear jl kp jy hdn stn lY;go_wp2_with (first|(at_builtin;refine DM _ rfl _ _ 45 rfl lo 77 i0 _ 5 64 EK hi hz0 hz1 hz2 rfl AL _ (m+dn.length) (xs++Is dn) rfl (Dw HX.out _) ⟨wn.heap.size,0,none⟩ 1 1 [.string nm,.int .i64 0,.int .i64 0,.slice none 0 0,.int .i64 (Hf L ac).GY] rfl rfl ?c1 ?c0 AL ?c2 ?c3 ?c4 wn.heap.size.succ ?c5 ?_))
    case c0=>intro u hu;simp at hu;rcases hu with rfl|rfl|rfl|rfl|rfl<;>rfl
    case c1=>exact Dx (Ru wn _)
    case c2=>unfold maxLen;omega
    case c3=>omega
    case c4=>simp;omega
    case c5=>simp
    intro gk cap w5 KT Qn SU AMZ;have A5:CH (T8 L n lo B0 K w Kn w5 _ _ _ (.slice (some ⟨gk,0,none⟩) (m+dn.length+1) cap) (m+dn.length+1) (xs++Is (dn++[(nm,(Hf L ac).GY)]))):=(An.out.new hl hB _).xn hl hB Qn AaN SU AD AA;clear KT Qn SU HX;go_wp2_with (fail)
    refine(Zp A5.out.hd dp (.Gh _)).mono ?_;rintro _ w6 ⟨K6,_,rfl,hd6,st6,hv6⟩;obtain rfl:=LG hv6
    have A6:CH (Rs L n a4 e3 b3 (m+(dn++[(nm,(Hf L ac).GY)]).length) r' a1 e1 b1 f/\T8 L n lo B0 K w K6 w6 a4 e3 b3 (.slice (some ⟨gk,0,none⟩) (m+dn.length+1) cap) (m+(dn++[(nm,(Hf L ac).GY)]).length) (xs++Is (dn++[(nm,(Hf L ac).GY)]))):=
     ⟨by rw[Bd];exact rO,by rw[Bd];exact A5.out.step hl hB hd6 st6⟩
    clear hd6 st6 hv6 A5 An tf Ab Aa A A1 Xw;go_wp2
    go_roundg (r'.length)
    case measure=>omega
    case rel=>exact⟨K6,a4,e3,b3,dn++[(nm,(Hf L ac).GY)],r',by rw[B3];exact PU.out,Bg _,A6⟩
end
section
open Go Go.RowKit Go.Proofs
section
variable{L:List PT} {n:Int} {lo B0:Nat} {K0 K K':KK} {w0 w w':World} {a e b a' e' b':Int} {v v':Value} {m m':Nat} {xs xs':LV}
def T8.chain(h:T8 L n lo B0 K0 w0 K w a e b v m xs)(g:T8 L n lo B0 K w K' w' a' e' b' v' m' xs'):T8 L n lo B0 K0 w0 K' w' a' e' b' v' m' xs':=⟨g.hd,⟨h.lf.le.trans g.lf.le,λB ks hk=>(g.lf.old B ks hk).elim (λh1=>h.lf.old B ks h1) .inr,CN h.lf.size g.lf.size,λB pG hn=>(g.lf.LU B pG hn).trans (h.lf.LU B pG hn),g.lf.os.trans h.lf.os,g.lf.output.trans h.lf.output⟩,g.HE,g.kn,g.nz⟩
def mO{GK:LLP}(Vf:Hd L B0 K w a e b n)(h:T8 L n w.heap.size B0 K w K' w' a' e' b' v m xs)(hr:Rows K' 5 GK xs)(hm:GK.length=m):∃K'',tg K w [B0] (.HL 5 GK) [cells L a' e' b' n] K'' v w':=by
 have hB:=Vf.lt
 have hfz:∀a:Addr,a.block<w.heap.size->w'.frozen? a=w.frozen? a:=by
  intro ad G7;by_cases hb:ad.block=B0
  .obtain⟨v0,ty,_,h1⟩:=Vf.HE;obtain⟨v0',ly,_,h1'⟩:=h.hd.HE;simp only[DX,hb,h1,h1']
  .exact World.frozen?_of_block (h.lf.LU _ G7 hb)
 rcases Nat.eq_zero_or_pos m with h0|h0
 .have hv:=h.nz h0;have NJ:GK=[]:=by rw[h0]at hm;exact List.length_eq_zero_iff.1 hm
  subst hv NJ;refine⟨K',h.lf.le,h.hd.Xp,λB ks hk G7=>(h.lf.old B ks hk).resolve_right AA,h.hd.HV,h.lf.size,λB G7 hn=>h.lf.LU B G7 AZz,h.lf.os,h.lf.output,hfz,.ph 5⟩
 .obtain⟨g,cap,rfl,pG,G7⟩:=h.HE.form h0;have hk:=h.kn g rfl;rcases h.HE.2 with⟨h1,_⟩|⟨g',AT4,cur,h1,h2,h3,h4,h5,h6,h7⟩
  .cases h1
  .cases h1;let K'':KK:=λB=>if B=g then some xs else K' B
   have hle:Yn K' K'':=λB ks vF=>⟨ks,by
    show(if _ then _ else _)=_;rw[Ng (by rintro rfl;rw[hk]at vF;cases vF)];exact vF,Cs _⟩
   have AHV:xs<+:cur.toList:=by rw[<- h7];exact List.take_prefix _ _
   have hgB:g≠B0:=AA;refine⟨K'',h.lf.le.trans hle,λB ks vF=>?_,λB ks vF ADK=>?_,?_,h.lf.size,λB G7 hn=>h.lf.LU B G7 AZz,h.lf.os,h.lf.output,hfz,?_⟩
   .have vF:(if B=g then some xs else K' B)=some ks:=vF;by_cases hBg:B=g
    .rw[Ps hBg]at vF;cases vF;exact⟨cur,77,by rw[hBg];exact h3,AHV⟩
    .rw[Ng hBg]at vF;exact h.hd.Xp B ks vF
   .have vF:(if B=g then some xs else K' B)=some ks:=vF;rw[Ng AA]at vF;exact(h.lf.old B ks vF).resolve_right AA
   .obtain⟨v0,ty,q0,q1⟩:=h.hd.HE;have q0:=q0.mono hle;refine .cons B0 _ _ _ _ ty ?_ q1 (.cons _ _ _ _ q0 (.cons _ _ _ _ (.int _ _) (.cons _ _ _ _ (.int _ _) (.cons _ _ _ _ (.int _ _) (.cons _ _ _ _ (.int _ _) .nil))))) .nil;exact Ag7
   .subst hm;exact .HE GK g 5 cap xs cur 77 pG AaB (hr.mono hle) h0 h4 h3 AA
def wo{K:KK}(x:Ge)(hx:x.Ga=[]):Pk K x.GG [.string x.name,.int .i64 x.tk,.int .i64 x.tl,.slice none 0 0,.int .i64 x.GY]:=by unfold Am;rw[hx];exact .cons _ _ _ _ (.Gh _) (.cons _ _ _ _ (.int _ _) (.cons _ _ _ _ (.int _ _) (.cons _ _ _ _ (.none none 0 λ_=>rfl) (.cons _ _ _ _ (.int _ _) .nil))))
def Rows.ANh{K:KK}{e:Nat}{GG:LP}{ks:LV}(h:Pk K GG ks)(hl:GG.length=e):Rows K e [GG] ks:=by
 have HM:=h.length;refine⟨by simp;omega,λi r hr=>?_,λi r hr=>?_⟩
 .cases i with
  |zero=>simp at hr;rw[<- hr];exact hl
  |succ i=>simp at hr
 .cases i with
  |zero=>simp at hr;rw[<- hr];simp;rw[Cc AA];exact h
  |succ i=>simp at hr
def Rows.nil{K:KK}{e:Nat}:Rows K e [] []:=⟨AD,λi r hr=>by simp at hr,λi r hr=>by simp at hr⟩
def QS{K:KK}:∀(l:List Ge),(∀v∈l,v.Ga=[])->Rows K 5 (l.map Am) (KH l)
 |[],_=>Rows.nil
 |x::l,h=>by
  have h1:=Rows.ANh (wo (K:=K) x (h x AD)) (e:=5) rfl;have h2:=QS (K:=K) l λv hv=>h v AW;exact h1.append h2
end
inductive Rt (L:List PT) (n:Int):Nat->Int->Int->Int->Nat->List Ge->Int->Int->Int->Prop
 |eT (k:Nat) (a e b:Int) (m:Nat):e≠0->Rt L n k a e b m [] a e b
 |j3 (k:Nat) (a e b:Int) (m:Nat):e=0->PC BZ 148 [.GN 0 0,.Gh ⟨#[59]⟩] [cells L a e b n] (.bool false) [cells L a e b n]->Rt L n k a e b m [] a e b
 |Ie (k:Nat) (a e b a1 a2 e2 b2 a' e' b':Int) (m:Nat) (l1 l2:List Ge):e=0->PC BZ 148 [.GN 0 0,.Gh ⟨#[59]⟩] [cells L a e b n] (.bool true) [cells L a1 e b n]->fK L n a1 e b m l1 a2 e2 b2->Rt L n k a2 e2 b2 (m+l1.length) l2 a' e' b'->
  Rt L n (k+1) a e b m (l1++l2) a' e' b'
def Rt.K5{L:List PT}{n a e b a' e' b':Int}{k m:Nat}{l:List Ge}(h:Rt L n k a e b m l a' e' b'):(e≠0/\l=[]/\a'=a/\e'=e/\b'=b)\/
  (e=0/\PC BZ 148 [.GN 0 0,.Gh ⟨#[59]⟩] [cells L a e b n] (.bool false) [cells L a e b n]/\l=[]/\a'=a/\e'=e/\b'=b)\/
  ∃k' a1 a2 e2 b2 l1 l2,k=k'+1/\e=0/\PC BZ 148 [.GN 0 0,.Gh ⟨#[59]⟩] [cells L a e b n] (.bool true) [cells L a1 e b n]/\fK L n a1 e b m l1 a2 e2 b2/\Rt L n k' a2 e2 b2 (m+l1.length) l2 a' e' b'/\l=l1++l2:=by
 cases h with
 |eT=>exact .inl ⟨‹_›,rfl,rfl,rfl,rfl⟩
 |j3=>exact .inr (.inl ⟨‹_›,‹_›,rfl,rfl,rfl,rfl⟩)
 |Ie=>exact .inr (.inr ⟨_,_,_,_,_,_,_,rfl,‹_›,‹_›,‹_›,‹_›,rfl⟩)
def zz{L:List PT}(hL:Ii L)(n:Int):∀(c:Nat) (a e b:Int) (m:Nat),At L a->mu L a e<=c->∃k l a' e' b',Rt L n k a e b m l a' e' b'/\At L a'/\(l.length:Int)+mu L a' e'<=mu L a e/\∀v∈l,0<=v.tk/\v.tk<=9/\v.Ga=[]:=by
 intro c
 induction c with
 |zero=>
  exact AfC
 |succ c ih=>
  intro a e b m ha hc;by_cases he:e=0
  case neg=>exact⟨0,[],a,e,b,.eT 0 a e b m he,ha,AD,AD⟩
  cases pH:TK L a e ⟨#[59]⟩with
  |false=>exact⟨0,[],a,e,b,.j3 0 a e b m he (Nw hL ha pH),ha,AD,AD⟩
  |true=>
   obtain⟨_,MI⟩:=L8 hL ha pH;have G7:mu L (a+1) e<mu L a e:=by rw[Ha he,Ha he];omega
   obtain⟨l1,a2,e2,b2,h1,h2,h3,h4⟩:=oX (e:=e) (b:=b) (n:=n) hL MI m;obtain⟨k,l2,a',e',b',g1,g2,g3,g4⟩:=ih a2 e2 b2 (m+l1.length) h2 AA;refine⟨k+1,l1++l2,a',e',b',.Ie _ _ _ _ _ _ _ _ _ _ _ _ _ _ he (Nx hL ha pH) h1 g1,g2,by simp;omega,λv hv=>?_⟩;exact Agi
set_option maxHeartbeats 16000000 in
def ACL{L:List PT}{n a e b a1 e1 b1 a' e' b':Int}{l0 l:List Ge}(h0:fK L n a e b 0 l0 a1 e1 b1){k0:Nat}(h:Rt L n k0 a1 e1 b1 l0.length l a' e' b')(AMW:l0.length+l.length<=20000){K:KK}{w:World}{B0:Nat}(hd:Hd L B0 K w a e b n):
  Calls BZ 147 #[.pointer (some ⟨B0,0,none⟩)] w λen w'=>∃K' v',en=.returned v'/\T8 L n w.heap.size B0 K w K' w' a' e' b' v' (l0.length+l.length) (KH (l0++l)):=by
 have hB:=hd.lt;have H:=fm h0 AA (lo:=w.heap.size) (v:=.slice none 0 0) (xs:=[]) hd (EL w w.heap.size 77 5) (by intro g hg;cases hg) (λ_=>rfl) (Bg _) hB;simp only[CZ,CC]at H;go_enter Tryz.func147,Tryz.ntmps147
 go_wp2_with (fail)
 refine H.mono ?_;rintro _ w1 ⟨K1,v1,rfl,Zp⟩;obtain⟨a0,cp,rfl⟩:=Qs Zp.HE;have A1:CH _:=Zp;have hl0:=hB;clear Zp H hd;go_wp2
 go_loopg [3,4] (k0) (λkx s3 s4 wr=>∃(Kc:KK) (ac ec bc:Int) (dn rs:List Ge) (kk:Nat),l0++l=dn++rs/\kk<=kx/\CH (Rt L n kk ac ec bc dn.length rs a' e' b'/\T8 L n w.heap.size B0 K w Kc wr ac ec bc s3 dn.length (KH dn)))
 case atStart=>exact⟨K1,a1,e1,b1,l0,l,k0,rfl,Bg _,h,A1.out⟩
 case round=>
  clear A1;obtain⟨Kc,ac,ec,bc,dn,rs,kk,hr,hkx,A⟩:=hrel;obtain⟨a0,cp,rfl⟩:=Qs A.out.2.HE;have c2:=A.out.2.hd.c2;have G7:=A.out.2.hd.lt;obtain⟨ZK,Xw⟩:=A.out;have PU:CH (l0++l=dn++rs):=hr;have HM:l0.length+l.length=dn.length+rs.length:=by have:=congrArg List.length hr;simpa using this
  clear hr;rcases ZK.K5 with⟨he,rfl,rfl,rfl,rfl⟩|⟨he,ZN,rfl,rfl,rfl,rfl⟩|⟨k',a2,a3,e3,b3,l1,l2,rfl,he,ZN,mb,rO,rfl⟩
  .have A1:CH _:=Xw;clear ZK hkx;go_wp2
   go_ret
   exact⟨Kc,_,rfl,by rw[PU.out,HM];simpa using A1.out⟩
  .have A1:CH _:=Xw;clear ZK hkx;go_wp2_with (fail)
   refine(Zp A1.out.hd ZN (.Gh _)).mono ?_;rintro _ wa ⟨Ka,_,rfl,Un,Yl,Yf⟩;obtain rfl:=LG Yf;have Aa:CH _:=A1.out.step (Bg _) hB Un Yl;clear Un Yl Yf;go_wp2
   go_ret
   exact⟨Ka,_,rfl,by rw[PU.out,HM];simpa using Aa.out⟩
  .have A1:CH _:=Xw;have AZF:l0.length+l.length=dn.length+(l1.length+l2.length):=by rw[HM,Bd]
   clear ZK HM;go_wp2_with (fail)
   refine(Zp A1.out.hd ZN (.Gh _)).mono ?_;rintro _ wa ⟨Ka,_,rfl,Un,Yl,Yf⟩;obtain rfl:=LG Yf;have Aa:CH _:=A1.out.step (Bg _) hB Un Yl;clear Un Yl Yf;go_wp2_with (fail)
   refine(fm mb AA Aa.out.hd Aa.out.HE Aa.out.kn Aa.out.nz Aa.out.lf.size hB).mono ?_;rintro _ wb ⟨Kb,v2,rfl,T6⟩;obtain⟨a9,cp9,rfl⟩:=Qs T6.HE
   have Ab:CH (Rt L n k' a3 e3 b3 (dn++l1).length l2 a' e' b'/\T8 L n w.heap.size B0 K w Kb wb a3 e3 b3 (.slice a9 (dn.length+l1.length) cp9) (dn++l1).length (KH (dn++l1))):=
    ⟨by rw[Bd];exact rO,by rw[Bd,VT];exact Aa.out.chain T6⟩
   clear T6 rO;go_wp2
   go_roundg (k')
   case measure=>omega
   case rel=>exact⟨Kb,a3,e3,b3,dn++l1,l2,k',by rw[B3];exact PU.out,Bg _,Ab⟩
def ACN{L:List PT}(hL:Ii L){a e b n:Int}(ha:At L a):PDs L a e b n:=by
 obtain⟨l0,a1,e1,b1,h1,h2,h3,h4⟩:=oX (e:=e) (b:=b) (n:=n) hL ha 0;obtain⟨k,l,a2,e2,b2,g1,g2,g3,g4⟩:=zz hL n (mu L a1 e1).toNat a1 e1 b1 l0.length h2 (by have:=Qp (e:=e1) h2;omega);have xp:=yR (e:=e) hL ha;have pH:=Qp (e:=e2) g2;have Pq:∀v∈l0++l,0<=v.tk/\v.tk<=9/\v.Ga=[]:=λv hv=>(Bf.1 hv).elim (h4 v) (g4 v);refine⟨.HL 5 ((l0++l).map Am),[cells L a2 e2 b2 n],?_,a2,e2,b2,n,rfl,l0++l,rfl,⟨by rw[Bd];omega,λv hv=>⟨⟨(Pq v hv).1,(Pq v hv).2.1⟩,by rw[(Pq v hv).2.2];simp⟩⟩,λv hv=>(Pq v hv).2.2,g2,by rw[Bd];omega⟩;intro K w Bs HP hK hC KO hA
 obtain⟨B0,rfl⟩:∃B0,Bs=[B0]:=by
  exact AgS
 have hd:Hd L B0 K w a e b n:=.of hK hC
 obtain rfl:HP=[.pointer (some ⟨B0,0,none⟩)]:=by
  exact Aew
 refine callsIn_wide.2 ((ACL h1 g1 AA hd).mono ?_);rintro en w' ⟨K',v',rfl,Xw⟩;obtain⟨K'',hc⟩:=mO hd Xw (QS _ λv hv=>(Pq v hv).2.2) AD;exact⟨K'',v',rfl,hc⟩
end
section
open Go Go.RowKit Go.Proofs
def Ge.on(v:Ge)(c:List Edge):Ge:={v with Ga:=c}
def KR(c:List Edge):LV:=c.flatMap λg=>[.string g.name,.bool g.on]
section
variable{K:KK} {e:Nat} {GK r1 r2:LLP} {ks:LV} {GG:LP}
def Rows.split(h:Rows K e (r1++r2) ks):∃k1 k2,ks=k1++k2/\k1.length=r1.length*e/\Rows K e r1 k1/\Rows K e r2 k2:=by
 have HM:=h.len;rw[Bd,Ce]at HM;refine⟨ks.take (r1.length*e),ks.drop (r1.length*e),(CX _ _).symm,by rw[C2];omega,⟨by rw[C2];omega,λi r hr=>?_,λi r hr=>?_⟩,⟨by rw[List.length_drop];omega,λi r hr=>?_,λi r hr=>?_⟩⟩
 .have hi:=(Bp.1 hr).1;exact h.GG i r (by rw[CL hi];exact hr)
 .have hi:=(Bp.1 hr).1;have:=h.rel i r (by rw[CL hi];exact hr)
  have h2:i*e+e<=r1.length*e:=by
   have:=DD e hi;rw[Nat.succ_mul]at this;exact this
  rw[List.drop_take,List.take_take,C7 AA];exact this
 .exact h.GG (r1.length+i) r Aah
 .have:=h.rel (r1.length+i) r Aah;rw[Dp,<- Ce];exact this
def Rows.jB(h:Rows K e (GG::GK) ks):∃k1 k2,ks=k1++k2/\k1.length=e/\Pk K GG k1/\Rows K e GK k2:=by obtain⟨k1,k2,h1,h2,h3,h4⟩:=Rows.split (r1:=[GG]) (r2:=GK) h;have h5:=h3.rel 0 GG rfl;simp only[CE,List.length_nil,CZ,Dn]at h2;simp only[Eu,CA]at h5;rw[Cc AA]at h5;exact⟨k1,k2,h1,h2,h5,h4⟩
def dK:∀{c:List Edge} {ks:LV},Rows K 2 (c.map A9) ks->ks=KR c
 |[],ks,h=>by have:=h.len;simpa[KR]using this
 |g::c,ks,h=>by
  obtain⟨k1,k2,rfl,_,h2,h3⟩:=Rows.jB h;obtain⟨v1,l1,rfl,g1,h2⟩:=h2.L4;obtain⟨v2,rfl,g2⟩:=h2.gT;rw[oY g1,xZ g2,dK h3];rfl
def Zi:∀(c:List Edge),Rows K 2 (c.map A9) (KR c)
 |[]=>Rows.nil
 |g::c=>(Rows.ANh (.cons _ _ _ _ (.Gh _) (.cons _ _ _ _ (.bool _) .nil)) rfl:Rows K 2 [g.GG] _).append (Zi c)
def YZ(c:List Edge):(KR c).length=c.length*2:=by
 induction c with
 |nil=>rfl
 |cons x c ih=>simp only[KR,C4,Bd,CE,List.length_nil]at ih⊢;omega
def Ya(c:List Edge):∀u∈KR c,u.oneCell'=true:=by intro u hu;simp only[KR,List.mem_flatMap]at hu;obtain⟨g,_,hu⟩:=hu;simp at hu;rcases hu with rfl|rfl<;>rfl
def AIo{x:Ge}{l:LV}(h:Pk K x.GG l):∃vc,DR K (.GV (x.Ga.map A9)) vc/\l=[.string x.name,.int .i64 x.tk,.int .i64 x.tl,vc,.int .i64 x.GY]:=by obtain⟨v0,l1,rfl,h0,h⟩:=h.L4;obtain⟨v1,l2,rfl,h1,h⟩:=h.L4;obtain⟨v2,l3,rfl,h2,h⟩:=h.L4;obtain⟨v3,l4,rfl,h3,h⟩:=h.L4;obtain⟨v4,rfl,h4⟩:=h.gT;rw[oY h0,Ok h1,Ok h2,Ok h4];exact⟨v3,h3,rfl⟩
def Rows.tB{l1 l2:List Ge}{x:Ge}{c:List Edge}{xs:LV}{vc:Bk}(h:Rows K 5 ((l1++x::l2).map Am) xs)(hc:DR K (.GV (c.map A9)) vc):Rows K 5 ((l1++x.on c::l2).map Am) (xs.set (l1.length*5+3) vc):=by
 rw[Bu]at h;obtain⟨k1,k2,rfl,LX,h1,h2⟩:=h.split;obtain⟨k3,k4,rfl,gI,h3,h4⟩:=Rows.jB h2;obtain⟨vc0,_,rfl⟩:=AIo h3;rw[Bb]at LX
 have:(k1++([.string x.name,.int .i64 x.tk,.int .i64 x.tl,vc0,.int .i64 x.GY]++k4)).set (l1.length*5+3) vc=k1++([.string x.name,.int .i64 x.tk,.int .i64 x.tl,vc,.int .i64 x.GY]++k4):=by
  rw[p8 _ _ 3 _ _ (by rw[LX])];rfl
 rw[this,Bu];refine h1.append ?_
 have h5:Pk K (x.on c).GG [.string x.name,.int .i64 x.tk,.int .i64 x.tl,vc,.int .i64 x.GY]:=
  .cons _ _ _ _ (.Gh _) (.cons _ _ _ _ (.int _ _) (.cons _ _ _ _ (.int _ _) (.cons _ _ _ _ hc (.cons _ _ _ _ (.int _ _) .nil))))
 exact(Rows.ANh h5 rfl:Rows K 5 [(x.on c).GG] _).append h4
end
inductive T9 (L:List PT) (n:Int):Int->Int->Int->Nat->List Ge->Int->Int->Int->Prop
 |plain (a e b a1 e1 b1 a2 e2 b2:Int) (m:Nat) (l:List Ge):fK L n a e b m l a1 e1 b1->PC BZ 148 [.GN 0 0,.Gh ⟨#[119,104,101,110]⟩] [cells L a1 e1 b1 n] (.bool false) [cells L a1 e1 b1 n]->
  PC BZ 145 [.GN 0 0,.Gh ⟨#[59]⟩] [cells L a1 e1 b1 n] (.tuple []) [cells L a2 e2 b2 n]->T9 L n a e b m l a2 e2 b2
 |Ga (a e b a1 e1 b1 a2 a3 e3 b3 a4 e4 b4:Int) (m:Nat) (l:List Ge) (c:List Edge):fK L n a e b m l a1 e1 b1->PC BZ 148 [.GN 0 0,.Gh ⟨#[119,104,101,110]⟩] [cells L a1 e1 b1 n] (.bool true) [cells L a2 e1 b1 n]->
  PC BZ 160 [.GN 0 0] [cells L a2 e1 b1 n] (.HL 2 (c.map A9)) [cells L a3 e3 b3 n]->0<c.length->c.length<=17->PC BZ 145 [.GN 0 0,.Gh ⟨#[59]⟩] [cells L a3 e3 b3 n] (.tuple []) [cells L a4 e4 b4 n]->
  T9 L n a e b m (l.map λv=>v.on c) a4 e4 b4
def T9.K5{L:List PT}{n a e b a4 e4 b4:Int}{m:Nat}{l':List Ge}(h:T9 L n a e b m l' a4 e4 b4):∃l a1 e1 b1,fK L n a e b m l a1 e1 b1/\
  ((l'=l/\PC BZ 148 [.GN 0 0,.Gh ⟨#[119,104,101,110]⟩] [cells L a1 e1 b1 n] (.bool false) [cells L a1 e1 b1 n]/\PC BZ 145 [.GN 0 0,.Gh ⟨#[59]⟩] [cells L a1 e1 b1 n] (.tuple []) [cells L a4 e4 b4 n])\/
  ∃a2 a3 e3 b3 c,l'=l.map (λv=>v.on c)/\PC BZ 148 [.GN 0 0,.Gh ⟨#[119,104,101,110]⟩] [cells L a1 e1 b1 n] (.bool true) [cells L a2 e1 b1 n]/\PC BZ 160 [.GN 0 0] [cells L a2 e1 b1 n] (.HL 2 (c.map A9)) [cells L a3 e3 b3 n]/\0<c.length/\c.length<=17/\
   PC BZ 145 [.GN 0 0,.Gh ⟨#[59]⟩] [cells L a3 e3 b3 n] (.tuple []) [cells L a4 e4 b4 n]):=by
 cases h with
 |plain=>exact⟨_,_,_,_,‹_›,.inl ⟨rfl,‹_›,‹_›⟩⟩
 |Ga=>exact⟨_,_,_,_,‹_›,.inr ⟨_,_,_,_,_,rfl,‹_›,‹_›,‹_›,‹_›,‹_›⟩⟩
inductive Q1 (L:List PT) (n:Int):Nat->Int->Int->Int->Nat->List Ge->Int->Int->Int->Prop
 |eT (k:Nat) (a e b:Int) (m:Nat):e≠0->Q1 L n k a e b m [] a e b
 |j3 (k:Nat) (a e b a' e' b':Int) (m:Nat) (l:List Ge):e=0->T9 L n a e b m l a' e' b'->At L a'->(e'≠0\/(Hf L a').kind≠1)->Q1 L n k a e b m l a' e' b'
 |Ie (k:Nat) (a e b a1 e1 b1 a' e' b':Int) (m:Nat) (l1 l2:List Ge):e=0->T9 L n a e b m l1 a1 e1 b1->At L a1->e1=0->(Hf L a1).kind=1->Q1 L n k a1 e1 b1 (m+l1.length) l2 a' e' b'->Q1 L n (k+1) a e b m (l1++l2) a' e' b'
def Q1.K5{L:List PT}{n a e b a' e' b':Int}{k m:Nat}{l:List Ge}(h:Q1 L n k a e b m l a' e' b'):(e≠0/\l=[]/\a'=a/\e'=e/\b'=b)\/
  (e=0/\T9 L n a e b m l a' e' b'/\At L a'/\(e'≠0\/(Hf L a').kind≠1))\/
  ∃k' a1 e1 b1 l1 l2,k=k'+1/\e=0/\T9 L n a e b m l1 a1 e1 b1/\At L a1/\e1=0/\(Hf L a1).kind=1/\Q1 L n k' a1 e1 b1 (m+l1.length) l2 a' e' b'/\l=l1++l2:=by
 cases h with
 |eT=>exact .inl ⟨‹_›,rfl,rfl,rfl,rfl⟩
 |j3=>exact .inr (.inl ⟨‹_›,‹_›,‹_›,‹_›⟩)
 |Ie=>exact .inr (.inr ⟨_,_,_,_,_,_,rfl,‹_›,‹_›,‹_›,‹_›,‹_›,‹_›,rfl⟩)
section
variable{L:List PT}
def ACX(hL:Ii L){a e b n:Int}(ha:At L a)(he:e=0):∃(c:List Edge) (a' e' b':Int),PC BZ 160 [.GN 0 0] [cells L a e b n] (.HL 2 (c.map A9)) [cells L a' e' b' n]/\0<c.length/\c.length<=17/\At L a'/\mu L a' e'<=mu L a e:=by obtain⟨r,cc,IE,a',e',b',n',hc,hn,⟨l,hr,hl,h0⟩,h1,h2⟩:=ACY (b:=b) (n:=n) (e:=e) hL ha;rw[hn]at hc;rw[hr,hc]at IE;exact⟨l,a',e',b',IE,h0 he,hl,h1,h2⟩
def AAR(hL:Ii L)(n:Int){a e b:Int}(ha:At L a)(he:e=0)(m:Nat):∃l a' e' b',T9 L n a e b m l a' e' b'/\At L a'/\(l.length:Int)+mu L a' e'<=mu L a e/\mu L a' e'<mu L a e/\∀v∈l,0<=v.tk/\v.tk<=9/\v.Ga.length<=17:=by
 obtain⟨l,a1,e1,b1,h1,h2,h3,h4⟩:=oX (e:=e) (b:=b) (n:=n) hL ha m;cases hm:TK L a1 e1 ⟨#[119,104,101,110]⟩with
 |false=>
  obtain⟨a2,e2,b2,I4,S1⟩:=YE (b:=b1) (n:=n) (e:=e1) hL h2 ⟨#[59]⟩;have cM:=S1.le h2;refine⟨l,a2,e2,b2,.plain _ _ _ _ _ _ _ _ _ _ _ h1 (Nw hL h2 hm) I4,S1.1,AA,?_,λv hv=>⟨(h4 v hv).1,(h4 v hv).2.1,by rw[(h4 v hv).2.2];simp⟩⟩;by_cases Nl:e1=0
  .have:=S1.2.1 Nl;omega
  .rw[Kg (S1.2.2 Nl)];exact Om ha he
 |true=>
  obtain⟨Nl,Lt⟩:=L8 hL h2 hm;have G7:mu L (a1+1) e1<mu L a1 e1:=by rw[Ha Nl,Ha Nl];omega
  obtain⟨c,a3,e3,b3,TJ,hc0,AC7,SR,lU⟩:=ACX (b:=b1) (n:=n) hL Lt Nl;obtain⟨a4,e4,b4,rY,bI⟩:=YE (b:=b3) (n:=n) (e:=e3) hL SR ⟨#[59]⟩;have lT:=bI.le SR;refine⟨_,a4,e4,b4,.Ga _ _ _ _ _ _ _ _ _ _ _ _ _ _ _ c h1 (Nx hL h2 hm) TJ hc0 AC7 rY,bI.1,by simp;omega,AA,λv hv=>?_⟩;obtain⟨x,hx,rfl⟩:=B8.1 hv;exact⟨(h4 x hx).1,(h4 x hx).2.1,AC7⟩
def AAQ(hL:Ii L)(n:Int):∀(c:Nat) (a e b:Int) (m:Nat),At L a->mu L a e<=c->∃k l a' e' b',Q1 L n k a e b m l a' e' b'/\At L a'/\(l.length:Int)+mu L a' e'<=mu L a e/\∀v∈l,0<=v.tk/\v.tk<=9/\v.Ga.length<=17:=by
 intro c
 induction c with
 |zero=>
  exact AfC
 |succ c ih=>
  intro a e b m ha hc;by_cases he:e=0
  case neg=>exact⟨0,[],a,e,b,.eT 0 a e b m he,ha,AD,AD⟩
  obtain⟨l1,a1,e1,b1,h1,h2,h3,h5,h4⟩:=AAR (e:=e) (b:=b) hL n ha he m;by_cases ZL:e1=0/\(Hf L a1).kind=1
  .obtain⟨k,l2,a',e',b',g1,g2,g3,g4⟩:=ih a1 e1 b1 (m+l1.length) h2 AA;refine⟨k+1,l1++l2,a',e',b',.Ie _ _ _ _ _ _ _ _ _ _ _ _ _ he h1 h2 ZL.1 ZL.2 g1,g2,by simp;omega,λv hv=>?_⟩;exact Agi
  .exact⟨0,l1,a1,e1,b1,.j3 0 _ _ _ _ _ _ m _ he h1 h2 (by by_cases h:e1=0;exact .inr λh'=>ZL ⟨h,h'⟩;exact .inl h),h2,h3,h4⟩
end
end
section
open Go Go.RowKit Go.Proofs
def fK.plain{L:List PT}{n a e b a' e' b':Int}{m:Nat}{l:List Ge}(h:fK L n a e b m l a' e' b'):∀v∈l,v.Ga=[]:=by
 intro v hv;cases h with
 |z6=>obtain⟨x,_,rfl⟩:=B8.1 hv;rfl
 |mk=>obtain⟨x,_,rfl⟩:=B8.1 hv;rfl
def AEm{K:KK}{w:World}{IW e:Nat}{GK:LLP}{v:Bk}(h:RR K w IW (.HL e GK) v)(h0:0<GK.length):∃B c ks vs ty,v=.slice (some ⟨B,0,none⟩) GK.length c/\IW<=B/\K B=some ks/\Rows K e GK ks/\w.heap[B]?=some (.cells vs ty (0,0))/\GK.length<=c:=by
 cases h with
 |one _ _ h=>cases h with|data _ _ h=>cases h
 |ph=>simp at h0
 |HE _ B _ c ks vs ty h1 h2 h3 h4 h5 h6 h7=>exact⟨B,c,ks,vs,ty,rfl,h1,h2,h3,h6,h5⟩
section
variable{L:List PT} {n:Int} {lo B0:Nat} {K0 K:KK} {w0 w w':World} {a e b:Int} {v:Value} {m:Nat} {xs:LV}
def T8.AR1(h:T8 L n lo B0 K0 w0 K w a e b v m xs)(hl:lo<=w0.heap.size)(hB:B0<lo)(hg:w.grownBy w' none){g cap k:Nat}{t:Bz}{sz:Nat}{ks:LV}(KT:w'.ownsRow w.heap.size t sz (.slice (some ⟨g,0,none⟩) k cap) k ks):
  ∃K',T8 L n lo B0 K0 w0 K' w' a e b v m xs/\K' g=some ks/\Yn K K'/\k<=cap/\∀B,B≠g->K' B=K B:=by
 have gK:=h.lf.size;rcases KT.2 with⟨h1,_⟩|⟨g',AT4,cur,h1,h2,h3,h4,h5,h6,h7⟩
 .cases h1
 .cases h1
  have hle:Yn K (λB=>if B=g then some ks else K B):=λB kb hk=>⟨kb,by
   have:=h.hd.klt hk;show(if B=g then some ks else K B)=some kb;rw[Ng AA];exact hk,Cs _⟩
  have G7:=h.hd.lt;have K9:∀B,B<w.heap.size->w'.heap[B]?=w.heap[B]?:=λB G7=>hg.block B G7 AD;refine⟨λB=>if B=g then some ks else K B,⟨⟨λB kb hk=>?_,?_,?_⟩,⟨h.lf.le.trans hle,λB kb hk=>?_,CN gK hg.size,λB pG hn=>(K9 B AA).trans (h.lf.LU B pG hn),hg.os.trans h.lf.os,hg.output.trans h.lf.output⟩,eH h.HE λB hb=>K9 B (Dc h.HE B hb).2,λB hb=>?_,h.nz⟩,?_,hle,h4,λB Kk=>?_⟩
  .by_cases hBg:B=g
   .rw[Ps hBg]at hk;cases hk;exact⟨cur,t,by rw[hBg];exact h3,by rw[<- h7];exact List.take_prefix _ _⟩
   .rw[Ng hBg]at hk;obtain⟨vs,ty,q1,q2⟩:=h.hd.Xp B kb hk;exact⟨vs,ty,(K9 B (h.hd.klt hk)).trans q1,q2⟩
  .exact Ag7
  .obtain⟨v0,ty,q0,q1⟩:=h.hd.HE;exact⟨v0,ty,q0.mono hle,(K9 B0 G7).trans q1⟩
  .by_cases hBg:B=g
   .exact AgD
   .rw[Ng hBg]at hk;exact h.lf.old B kb hk
  .show(if _ then _ else _)=_;have:=(Dc h.HE B hb).2;rw[Ng AA];exact h.kn B hb
  .exact AfR
  .show(if _ then _ else _)=_;rw[Ng Kk]
end
def cG{l:List Ge}{d:Nat}(hd:d<l.length)(c:List Edge):(l.take d).map (λv=>v.on c)++(l[d]).on c::l.drop (d+1)=(l.take (d+1)).map (λv=>v.on c)++l.drop (d+1):=by rw[Cm hd,Bu,B3];rfl
def ANH:(Tryz.prog.info? 80).map (λi=>(i.zero,i.size,i.bytes))=some (some (.agg #[.string ⟨#[]⟩,.bool false]),2,24):=by kernel_rfl
structure qN (L:List PT) (n:Int) (lo B0:Nat) (K0:KK) (w0:World) (K:KK) (w:World) (a e b:Int) (v:Bk) (m:Nat) (l:List Ge) (xs:List Bk):Prop where
 i:T8 L n lo B0 K0 w0 K w a e b v m xs
 r:Rows K 5 (l.map Am) xs
def qN.step{L:List PT}{n:Int}{lo B0:Nat}{K0 K K':KK}{w0 w w':World}{a e b a' e' b':Int}{v:Bk}{m:Nat}{l:List Ge}{xs:LV}(h:qN L n lo B0 K0 w0 K w a e b v m l xs)(hl:lo<=w0.heap.size)(hB:B0<lo)(hd:Hd L B0 K' w' a' e' b' n)(st:St1 B0 K w K' w'):qN L n lo B0 K0 w0 K' w' a' e' b' v m l xs:=⟨h.i.step hl hB hd st,h.r.mono st.le⟩
set_option maxHeartbeats 16000000 in
def AAV{L:List PT}{n a e b a' e' b':Int}{k0:Nat}{l:List Ge}(h:Q1 L n k0 a e b 0 l a' e' b')(AMW:l.length<=20000){K:KK}{w:World}{B0:Nat}(hd:Hd L B0 K w a e b n):
  Calls BZ 149 #[.pointer (some ⟨B0,0,none⟩)] w λen w'=>∃K' v' xs,en=.returned v'/\qN L n w.heap.size B0 K w K' w' a' e' b' v' l.length l xs:=by
 have hB:=hd.lt
 obtain⟨i0,hi,hz0,hz1,hz2⟩:∃i,Tryz.prog.info? 80=some i/\i.zero=some (.agg #[.string ⟨#[]⟩,.bool false])/\i.size=2/\i.bytes=24:=by
  have:=ANH;cases h:Tryz.prog.info? 80 with
  |none=>rw[h]at this;cases this
  |some i=>
   exact AgN
 have hf0:=jM;have A0:CH (qN L n w.heap.size B0 K w K w a e b (.slice none 0 0) 0 [] []):=⟨⟨hd,Lf.refl _ _ _ _,EL w w.heap.size 77 5,(by intro g hg;cases hg),λ_=>rfl⟩,Rows.nil⟩
 clear hd;go_enter Tryz.func149,Tryz.ntmps149
 go_wp2
 go_loopg [3,4,5,6,7] (k0) (λkx s3 s4 s5 s6 s7 wr=>∃(Kc:KK) (ac ec bc:Int) (dn rs:List Ge) (kk:Nat) (xs:LV),l=dn++rs/\kk<=kx/\CH (Q1 L n kk ac ec bc dn.length rs a' e' b'/\qN L n w.heap.size B0 K w Kc wr ac ec bc s3 dn.length dn xs))
 case atStart=>exact⟨K,a,e,b,[],l,k0,[],rfl,Bg _,h,A0.out⟩
 case round=>
  clear A0;obtain⟨Kc,ac,ec,bc,dn,rs,kk,xs,hr,hkx,A⟩:=hrel;obtain⟨a0,cp,rfl⟩:=Qs A.out.2.i.HE;have c2:=A.out.2.i.hd.c2;have G7:=A.out.2.i.hd.lt;obtain⟨ZK,Xw⟩:=A.out;have PU:CH (l=dn++rs):=hr;have HM:l.length=dn.length+rs.length:=by rw[hr];simp
  clear hr;have A1:CH _:=Xw;clear Xw A;rcases ZK.K5 with⟨he,rfl,rfl,rfl,rfl⟩|⟨he,I0,hae,ZL⟩|⟨k',a1,e1,b1,l1,l2,rfl,he,I0,hae,Nl,LX,rO,rfl⟩
  .clear ZK hkx;go_wp2
   go_ret
   exact⟨Kc,_,xs,rfl,by rw[HM,PU.out];simpa using A1.out⟩
  .obtain⟨l0,a2,e2,b2,mb,NH⟩:=I0.K5;have hl0:rs.length=l0.length:=by rcases NH with⟨rfl,_⟩|⟨_,_,_,_,_,rfl,_⟩<;>simp
   have AVH:dn.length+l0.length<=20000:=AA;clear ZK;have fW:=mb.plain;go_wp2_with (fail)
   refine(fm mb AA A1.out.i.hd A1.out.i.HE A1.out.i.kn A1.out.i.nz A1.out.i.lf.size hB).mono ?_;rintro _ wb ⟨Kb,v2,rfl,T6⟩;obtain⟨a3,ua,rfl⟩:=Qs T6.HE
   have Ab:CH (qN L n w.heap.size B0 K w Kb wb a2 e2 b2 (.slice a3 (dn.length+l0.length) ua) (dn.length+l0.length) (dn++l0) (xs++KH l0)):=
    ⟨A1.out.i.chain T6,by rw[Bu];exact(A1.out.r.mono T6.lf.le).append (QS l0 fW)⟩
   clear T6 A1;rcases NH with⟨rfl,ZN,dp⟩|⟨a4,a5,e5,b5,c,rfl,ZN,dp,hc0,AC7,rX⟩
   .go_wp2_with (fail)
    refine(Zp Ab.out.i.hd ZN (.Gh _)).mono ?_;rintro _ wc ⟨Kc3,_,rfl,Xw,cE,hvc⟩;obtain rfl:=LG hvc;have Ac:CH _:=Ab.out.step (Bg _) hB Xw cE;clear Xw cE hvc Ab;go_wp2_with (fail)
    refine(Zp Ac.out.i.hd dp (.Gh _)).mono ?_;rintro _ wd ⟨Kd,_,rfl,jk,nV,ZO⟩;obtain rfl:=QR ZO;have Ad:CH _:=Ac.out.step (Bg _) hB jk nV;clear jk nV ZO Ac;have c29:=Ad.out.i.hd.c2;have AMa:=Ad.out.i.hd.lt;by_cases he9:e'=0
    .have hk9:(Hf L a').kind≠1:=ZL.resolve_left λh=>h he9;go_wp2_with (fail)
     refine(Vf Ad.out.i.hd (Ou hae)).mono ?_;rintro _ wt ⟨Kt,_,rfl,jl,kp,jy⟩;obtain rfl:=SL jy;have At:CH _:=Ad.out.step (Bg _) hB jl kp;clear jl kp jy;go_wp2
     go_ret
     exact Af7
    .go_wp2
     go_ret
     exact⟨_,_,_,rfl,by rw[HM,PU.out];first|exact Ad.out|(rw[Bb];exact Ad.out)⟩
   .go_wp2_with (fail)
    refine(Zp Ab.out.i.hd ZN (.Gh _)).mono ?_;rintro _ wc ⟨Kc3,_,rfl,Xw,cE,hvc⟩;obtain rfl:=LG hvc;have Ac:CH _:=Ab.out.step (Bg _) hB Xw cE;clear Xw cE hvc Ab;go_wp2_with (fail)
    refine(Vf Ac.out.i.hd dp).mono ?_;rintro _ wd ⟨Kd,_,rfl,jk,nV,ZO⟩;obtain⟨gc,cc,kc,vs,ty,rfl,hgc,hkc,hrc,hwc,er⟩:=AEm ZO AaO;obtain rfl:=dK hrc;rw[Bb]at er;rw[Bb];have Ad:CH (qN L n w.heap.size B0 K w Kd wd a5 e5 b5 (.slice a3 (dn.length+l0.length) ua) (dn.length+l0.length) (dn++l0) (xs++KH l0)/\Kd gc=some (KR c)):=⟨Ac.out.step (Bg _) hB jk nV,hkc⟩
    clear jk nV ZO Ac hrc hwc hkc;go_wp2
    go_loopg [7] (l0.length) (λkx s7 wr=>∃(d:Nat) (Ke:KK) (xd:LV),s7=.int .i64 ((dn.length+d:Nat):Int)/\d<=l0.length/\l0.length-d<=kx/\CH (qN L n w.heap.size B0 K w Ke wr a5 e5 b5 (.slice a3 (dn.length+l0.length) ua) (dn.length+l0.length) (dn++((l0.take d).map (λv=>v.on c)++l0.drop d)) xd/\Ke gc=some (KR c)))
    case atStart=>exact⟨0,Kd,_,rfl,AA,AA,by rw[List.take_zero,Dt,CC,CA];exact Ad.out⟩
    case round=>
     clear Ad;obtain⟨d,Ke,xd,rfl,hd9,hki,B⟩:=hrel;by_cases Ox:d<l0.length
     .have KT:=B.out.1.i.HE;obtain⟨gk,cap,hv,Tn,vE⟩:=KT.form AA;obtain⟨rfl,rfl⟩:a3=some ⟨gk,0,none⟩/\ua=cap:=by injection hv with h1 h2 h3;exact⟨h1,h3⟩
      have ZM:((dn.length+d:Nat):Int)<(dn.length+l0.length:Nat):=AA;obtain⟨vsc,tyc,hwc,IE⟩:=B.out.1.i.hd.Xp gc _ B.out.2
      have jj:CH (∀j u,(KR c)[j]?=some u->wr.cell? ((⟨gc,0,none⟩:Addr).add j)=some u):=λj u hu=>by
       exact Ady
      have hec:=YZ c;clear hv KT hwc IE;go_wp2_with (first|(at_builtin;refine DM _ rfl _ _ 75 rfl wr.heap.size 80 i0 _ 2 24 Ff hi hz0 hz1 hz2 rfl AL _ 0 [] rfl (EL wr wr.heap.size 80 2) ⟨gc,0,none⟩ c.length cc (KR c) rfl AA jj.out (Ya c) AA ?c2 ?c3 (Bg _) wr.heap.size rfl ?_))
      case c2=>unfold maxLen;omega
      case c3=>omega
      intro gn oS w6 js Qn SU AVO;obtain⟨K6,h6,hk6,ADJ,AC8,rW⟩:=B.out.1.i.AR1 (Bg _) hB (by simpa[FJ]using Qn) js
      have hdr:DR K6 (.GV (c.map A9)) (.slice (some ⟨gn,0,none⟩) c.length oS):=by
       exact AfL
      have JP:=Qr h6.HE (g:=gk) rfl;obtain⟨v3,hc3⟩:=(JP ((dn.length+d)*5+3) AA).1;have Tl:=(JP ((dn.length+d)*5+3) AA).2
      have B7:CH (qN L n w.heap.size B0 K w K6 (w6.setCell ⟨gk,(dn.length+d)*5+3,none⟩ (.slice (some ⟨gn,0,none⟩) c.length oS)) a5 e5 b5 (.slice (some ⟨gk,0,none⟩) (dn.length+l0.length) ua) (dn.length+l0.length) (dn++((l0.take (d+1)).map (λv=>v.on c)++l0.drop (d+1))) (xd.set ((dn.length+d)*5+3) (.slice (some ⟨gn,0,none⟩) c.length oS))/\K6 gc=some (KR c)):=by
       exact Ade
      clear js Qn SU hdr JP h6 hk6 ADJ rW B;go_wp2
      go_roundg (l0.length-(d+1))
      case measure=>omega
      case rel=>exact⟨d+1,K6,_,by go_num,AA,AA,B7⟩
     .have ZM:¬((dn.length+d:Nat):Int)<(dn.length+l0.length:Nat):=AA;obtain rfl:d=l0.length:=AA;have Be:CH (qN L n w.heap.size B0 K w Ke wr a5 e5 b5 (.slice a3 (dn.length+l0.length) ua) (dn.length+l0.length) (dn++(l0.map λv=>v.on c)) xd):=by have h9:=B.out.1;rw[DG,Fm,CG]at h9;exact h9
      clear B;go_wp2_with (fail)
      refine(Zp Be.out.i.hd rX (.Gh _)).mono ?_;rintro _ we ⟨Kf,_,rfl,hde,ste,hve⟩;obtain rfl:=QR hve;have Af:CH _:=Be.out.step (Bg _) hB hde ste;clear hde ste hve Be;have c29:=Af.out.i.hd.c2;have AMa:=Af.out.i.hd.lt;by_cases he9:e'=0
      .have hk9:(Hf L a').kind≠1:=ZL.resolve_left λh=>h he9;go_wp2_with (fail)
       refine(Vf Af.out.i.hd (Ou hae)).mono ?_;rintro _ wt ⟨Kt,_,rfl,jl,kp,jy⟩;obtain rfl:=SL jy;have At:CH _:=Af.out.step (Bg _) hB jl kp;clear jl kp jy;go_wp2
       go_ret
       exact Af7
      .go_wp2
       go_ret
       exact⟨_,_,_,rfl,by rw[HM,PU.out];first|exact Af.out|(rw[Bb];exact Af.out)⟩
  .obtain⟨l0,a2,e2,b2,mb,NH⟩:=I0.K5;have hl0:l1.length=l0.length:=by rcases NH with⟨rfl,_⟩|⟨_,_,_,_,_,rfl,_⟩<;>simp
   have AVH:dn.length+l0.length<=20000:=by rw[Bd]at HM;omega
   clear ZK;have fW:=mb.plain;go_wp2_with (fail)
   refine(fm mb (by rw[Bd]at HM;omega) A1.out.i.hd A1.out.i.HE A1.out.i.kn A1.out.i.nz A1.out.i.lf.size hB).mono ?_;rintro _ wb ⟨Kb,v2,rfl,T6⟩;obtain⟨a3,ua,rfl⟩:=Qs T6.HE
   have Ab:CH (qN L n w.heap.size B0 K w Kb wb a2 e2 b2 (.slice a3 (dn.length+l0.length) ua) (dn.length+l0.length) (dn++l0) (xs++KH l0)):=
    ⟨A1.out.i.chain T6,by rw[Bu];exact(A1.out.r.mono T6.lf.le).append (QS l0 fW)⟩
   clear T6 A1;rcases NH with⟨rfl,ZN,dp⟩|⟨a4,a5,e5,b5,c,rfl,ZN,dp,hc0,AC7,rX⟩
   .go_wp2_with (fail)
    refine(Zp Ab.out.i.hd ZN (.Gh _)).mono ?_;rintro _ wc ⟨Kc3,_,rfl,Xw,cE,hvc⟩;obtain rfl:=LG hvc;have Ac:CH _:=Ab.out.step (Bg _) hB Xw cE;clear Xw cE hvc Ab;go_wp2_with (fail)
    refine(Zp Ac.out.i.hd dp (.Gh _)).mono ?_;rintro _ wd ⟨Kd,_,rfl,jk,nV,ZO⟩;obtain rfl:=QR ZO;have Ad:CH _:=Ac.out.step (Bg _) hB jk nV;clear jk nV ZO Ac;have c29:=Ad.out.i.hd.c2;have AMa:=Ad.out.i.hd.lt;go_wp2_with (fail)
    refine(Vf Ad.out.i.hd (Ou hae)).mono ?_;rintro _ wt ⟨Kt,_,rfl,jl,kp,jy⟩;obtain rfl:=SL jy;have At:CH _:=Ad.out.step (Bg _) hB jl kp;clear jl kp jy
    have Au:CH (Q1 L n k' a1 e1 b1 (dn++l1).length l2 a' e' b'/\qN L n w.heap.size B0 K w Kt wt a1 e1 b1 (.slice a3 (dn.length+l1.length) ua) (dn++l1).length (dn++l1) _):=
     ⟨by rw[Bd];exact rO,by have h9:=At.out;rw[Bd];exact h9⟩
    clear At;go_wp2
    go_roundg (k')
    case measure=>omega
    case rel=>exact⟨Kt,a1,e1,b1,dn++l1,l2,k',_,by rw[B3];exact PU.out,Bg _,Au⟩
   .go_wp2_with (fail)
    refine(Zp Ab.out.i.hd ZN (.Gh _)).mono ?_;rintro _ wc ⟨Kc3,_,rfl,Xw,cE,hvc⟩;obtain rfl:=LG hvc;have Ac:CH _:=Ab.out.step (Bg _) hB Xw cE;clear Xw cE hvc Ab;go_wp2_with (fail)
    refine(Vf Ac.out.i.hd dp).mono ?_;rintro _ wd ⟨Kd,_,rfl,jk,nV,ZO⟩;obtain⟨gc,cc,kc,vs,ty,rfl,hgc,hkc,hrc,hwc,er⟩:=AEm ZO AaO;obtain rfl:=dK hrc;rw[Bb]at er;rw[Bb];have Ad:CH (qN L n w.heap.size B0 K w Kd wd a5 e5 b5 (.slice a3 (dn.length+l0.length) ua) (dn.length+l0.length) (dn++l0) (xs++KH l0)/\Kd gc=some (KR c)):=⟨Ac.out.step (Bg _) hB jk nV,hkc⟩
    clear jk nV ZO Ac hrc hwc hkc;go_wp2
    go_loopg [7] (l0.length) (λkx s7 wr=>∃(d:Nat) (Ke:KK) (xd:LV),s7=.int .i64 ((dn.length+d:Nat):Int)/\d<=l0.length/\l0.length-d<=kx/\CH (qN L n w.heap.size B0 K w Ke wr a5 e5 b5 (.slice a3 (dn.length+l0.length) ua) (dn.length+l0.length) (dn++((l0.take d).map (λv=>v.on c)++l0.drop d)) xd/\Ke gc=some (KR c)))
    case atStart=>exact⟨0,Kd,_,rfl,AA,AA,by rw[List.take_zero,Dt,CC,CA];exact Ad.out⟩
    case round=>
     clear Ad;obtain⟨d,Ke,xd,rfl,hd9,hki,B⟩:=hrel;by_cases Ox:d<l0.length
     .have KT:=B.out.1.i.HE;obtain⟨gk,cap,hv,Tn,vE⟩:=KT.form AA;obtain⟨rfl,rfl⟩:a3=some ⟨gk,0,none⟩/\ua=cap:=by injection hv with h1 h2 h3;exact⟨h1,h3⟩
      have ZM:((dn.length+d:Nat):Int)<(dn.length+l0.length:Nat):=AA;obtain⟨vsc,tyc,hwc,IE⟩:=B.out.1.i.hd.Xp gc _ B.out.2
      have jj:CH (∀j u,(KR c)[j]?=some u->wr.cell? ((⟨gc,0,none⟩:Addr).add j)=some u):=λj u hu=>by
       exact Ady
      have hec:=YZ c;clear hv KT hwc IE;go_wp2_with (first|(at_builtin;refine DM _ rfl _ _ 75 rfl wr.heap.size 80 i0 _ 2 24 Ff hi hz0 hz1 hz2 rfl AL _ 0 [] rfl (EL wr wr.heap.size 80 2) ⟨gc,0,none⟩ c.length cc (KR c) rfl AA jj.out (Ya c) AA ?c2 ?c3 (Bg _) wr.heap.size rfl ?_))
      case c2=>unfold maxLen;omega
      case c3=>omega
      intro gn oS w6 js Qn SU AVO;obtain⟨K6,h6,hk6,ADJ,AC8,rW⟩:=B.out.1.i.AR1 (Bg _) hB (by simpa[FJ]using Qn) js
      have hdr:DR K6 (.GV (c.map A9)) (.slice (some ⟨gn,0,none⟩) c.length oS):=by
       exact AfL
      have JP:=Qr h6.HE (g:=gk) rfl;obtain⟨v3,hc3⟩:=(JP ((dn.length+d)*5+3) AA).1;have Tl:=(JP ((dn.length+d)*5+3) AA).2
      have B7:CH (qN L n w.heap.size B0 K w K6 (w6.setCell ⟨gk,(dn.length+d)*5+3,none⟩ (.slice (some ⟨gn,0,none⟩) c.length oS)) a5 e5 b5 (.slice (some ⟨gk,0,none⟩) (dn.length+l0.length) ua) (dn.length+l0.length) (dn++((l0.take (d+1)).map (λv=>v.on c)++l0.drop (d+1))) (xd.set ((dn.length+d)*5+3) (.slice (some ⟨gn,0,none⟩) c.length oS))/\K6 gc=some (KR c)):=by
       exact Ade
      clear js Qn SU hdr JP h6 hk6 ADJ rW B;go_wp2
      go_roundg (l0.length-(d+1))
      case measure=>omega
      case rel=>exact⟨d+1,K6,_,by go_num,AA,AA,B7⟩
     .have ZM:¬((dn.length+d:Nat):Int)<(dn.length+l0.length:Nat):=AA;obtain rfl:d=l0.length:=AA;have Be:CH (qN L n w.heap.size B0 K w Ke wr a5 e5 b5 (.slice a3 (dn.length+l0.length) ua) (dn.length+l0.length) (dn++(l0.map λv=>v.on c)) xd):=by have h9:=B.out.1;rw[DG,Fm,CG]at h9;exact h9
      clear B;go_wp2_with (fail)
      refine(Zp Be.out.i.hd rX (.Gh _)).mono ?_;rintro _ we ⟨Kf,_,rfl,hde,ste,hve⟩;obtain rfl:=QR hve;have Af:CH _:=Be.out.step (Bg _) hB hde ste;clear hde ste hve Be;have c29:=Af.out.i.hd.c2;have AMa:=Af.out.i.hd.lt;go_wp2_with (fail)
      refine(Vf Af.out.i.hd (Ou hae)).mono ?_;rintro _ wt ⟨Kt,_,rfl,jl,kp,jy⟩;obtain rfl:=SL jy;have At:CH _:=Af.out.step (Bg _) hB jl kp;clear jl kp jy
      have Au:CH (Q1 L n k' a1 e1 b1 (dn++(l0.map λv=>v.on c)).length l2 a' e' b'/\qN L n w.heap.size B0 K w Kt wt a1 e1 b1 (.slice a3 (dn.length+l0.length) ua) (dn++(l0.map λv=>v.on c)).length (dn++(l0.map λv=>v.on c)) _):=
       ⟨by rw[Bd];exact rO,by have h9:=At.out;rw[Bd,Bb];exact h9⟩
      clear At;go_wp2
      go_roundg (k')
      case measure=>omega
      case rel=>exact⟨Kt,a1,e1,b1,dn++(l0.map λv=>v.on c),l2,k',_,by rw[B3];exact PU.out,Bg _,Au⟩
end
section
open Go Go.RowKit Go.Proofs
def AAW{L:List PT}(hL:Ii L){a e b n:Int}(ha:At L a):PLs L a e b n:=by
 obtain⟨k,l,a2,e2,b2,g1,g2,g3,g4⟩:=AAQ hL n (mu L a e).toNat a e b 0 ha AJ;have xp:=yR (e:=e) hL ha;have pH:=Qp (e:=e2) g2;refine⟨.HL 5 (l.map Am),[cells L a2 e2 b2 n],?_,a2,e2,b2,n,rfl,l,rfl,⟨AA,λv hv=>⟨⟨(g4 v hv).1,(g4 v hv).2.1⟩,(g4 v hv).2.2⟩⟩,g2,g3⟩;intro K w Bs HP hK hC KO hA
 obtain⟨B0,rfl⟩:∃B0,Bs=[B0]:=by
  exact AgS
 have hd:Hd L B0 K w a e b n:=.of hK hC
 obtain rfl:HP=[.pointer (some ⟨B0,0,none⟩)]:=by
  exact Aew
 refine callsIn_wide.2 ((AAV g1 AA hd).mono ?_);rintro en w' ⟨K',v',xs,rfl,Xw⟩;obtain⟨K'',hc⟩:=mO hd Xw.i Xw.r AD;exact⟨K'',v',rfl,hc⟩
def AAn(t:BA)(h31:(t.size:Int)<=9223372036854775807):
  ∃(N:List GO) (GY e:Int),PC BZ 83 [.Gh t] [] (.tuple [.agg [.GV (N.map Ay)],I GY,I e]) []/\(∀x∈N,x.WF)/\N.length<=60/\BC N<=20000:=
 AEY (λL hL a e b n ha=>AAW hL ha) (λL hL a e b n ha=>ACN hL ha) t h31
end
end Go.Vi
