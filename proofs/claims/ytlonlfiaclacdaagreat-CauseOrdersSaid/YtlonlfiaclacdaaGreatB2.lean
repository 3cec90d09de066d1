/- Part of the proof of CauseOrders (own work, made small). -/
import Derived.Test.YtlonlfiaclacdaaGreatB1
import Derived.MapKept
set_option linter.all false
set_option maxRecDepth 100000
open Array renaming all_eq_true_iff_forall_mem->DP,eq_empty_of_size_eq_zero->FH,getD_eq_getD_getElem?->CC,getElem?_append_left->EV,getElem?_eq_getElem->Bv,getElem?_eq_some_iff->B4,getElem?_replicate->Dx,getElem?_toList->Cq,length_toList->CB,replicate->C9,toList_map->FF
open Bool renaming and_eq_false_iff->DV,and_eq_true->Bk,false_eq_true->Ch,not_eq_true'->DO,or_eq_false_iff->Cn,or_eq_true->DU,or_eq_true_iff->Dy
open Go renaming Obj->EN,heap_alloc_new->E2,invoke->Ev,BinOp->EP,CallsIn->E7,Code->DA,Deferred->Ed,Func->Eb,FuncId->CE,MapEntry->DT,Next->Fm,Oper->CI,Operand->Cb,Program->Cc,ResultVar->EG,TypeDesc->DB,TypeId->Bm,Value->Bc,beq_toListBytes->EC,binOp->Di,callFunc->DC,callMethod->Ea,cell_of_row->Db,eqGuard->DS,execOp->Ca,getObj->FM,receiverAt->FX,run_underlying->Bb,setObj->GA,typeInfo->Dk,wpOpIn->Eo
open Go.Ab.World renaming Ji->BJ
open Go.Builtin renaming append_->Ck,delete_->EI
open Go.Call renaming operands->Da
open Go.Code renaming region->GH
open Go.Deferred renaming ofValue->CQ
open Go.Fence renaming wide->Cy
open Go.Instr renaming alloc->GF,build->Er,checkKey->EU,endLoop->Fs,endRound->Fg,extract->Fo,findKey->DD,findNow->Cm,getLoop->Fp,loadAt->DZ,lookup->Ec,makeInterface->Ef,mapUpdate->EH,sameBits->D0,sameNow->DN,storeAt->FI,sureAddr->Cu,typeAssert->FE
open Go.MapKept renaming bytes_beq->GI
open Go.Op renaming operands->C6
open Go.Region renaming binds->C7,linearise->FG,ready->EE,wanted->Fq
open Go.Sem renaming run->Em,run_bind->Bh
open Go.Target.collected renaming injEq->Fv
open Go.Value renaming func->Fx,slice->FU
open Go.Vi.KC renaming run->Aw
open Go.Vi.KD renaming is->BF
open Go.Vi.Obj renaming box->BD
open Go.Vi.PV renaming int->Az
open Go.Vi.St renaming new->BB,set->BL
open List renaming all_cons->Cl,all_eq_true->CV,any_eq_false->Gb,append_assoc->CN,append_nil->CL,drop_drop->D6,findIdx?_eq_some_iff_getElem->C0,flatten_append->GO,flatten_cons->ET,getD->FC,getElem?_append_left->B5,getElem?_drop->Cg,getElem?_eq_getElem->BZ,getElem?_eq_none->CA,getElem?_eq_some_iff->Bn,getElem?_range->Eg,getElem?_take->Cr,getElem_mem->Bl,idxOf?->FV,idxOf?_eq_none_iff->D8,length_append->Bf,length_cons->CG,length_eq_one_iff->Fy,length_map->BX,length_range->ES,length_take->C1,map_append->Br,mem_append->Bg,mem_cons->Bz,mem_cons_of_mem->Co,mem_cons_self->C8,mem_of_getElem?->Bt,mem_range->D7,mem_singleton->CS,nil_append->CX,pairwise_iff_getElem->Dn,prefix_refl->C4,range->Bw,replicate->C2,take_of_length_le->CJ,toList_toArray->GN
open Nat renaming add_zero->DF,beq->Bo,ble->Ct,blt->C5,eq_of_beq_eq_true->Bu,le_refl->Bd,le_trans->CD,lt_of_lt_of_le->Cw,testBit->Ep,zero_add->CR,zero_le->ED
open Ne renaming symm->ER
open Option renaming isSome_iff_exists->DK,map_eq_some_iff->E3
open Option.some renaming inj->DM,injEq->Ba
open Prod renaming snd->Bp
open Prod.mk renaming injEq->CM
namespace Go.Vi
abbrev LLP:=List (List PV)
abbrev KL:=PV->St->List Nat->List Nat->Prop
abbrev HO:=Nat->Option Obj
abbrev LP:=List PV
end Go.Vi
namespace Go.Vi
section
open Go.Ab (ND Ox P6 La RO PG L5 H0 JF Md KE NJ KP L8 Fw ME TY JA and_true)
section
variable{P:Program} {m:J} {h:HO} {w:World}
def OH(P:Cc)(ro:ON)(m:J)(w:World)(h':HO)(y:PV)(r:Result Fm):Prop:=
 ∀(o:CI) (a:Act) (K:Act->World->Prop) (Q:QX),
  (∀m' v' w',Jt m w m' w'->IQ m' h' w'->VR m' y v'->K (a.put o.dst v') w')->o.uponIn (Fw ro) 0 P a K Q r
def Ht{ro:ON}{h':HO}{y:PV}{v:Bc}{w':World}{m':J}(h1:Jt m w m' w')(h2:IQ m' h' w')(h3:VR m' y v):
 OH P ro m w h' y (.ok (.value v) w'):=λ_ _ _ _ hK=>hK _ _ _ h1 h2 h3
def SM{ro:ON}{h':HO}{w':World}{m':J}(h1:Jt m w m' w')(h2:IQ m' h' w'):
 OH P ro m w h' .undef (.ok .skip w'):=λ_ _ _ _ hK=>hK _ _ _ h1 h2 (.tuple [] [] .nil)
def RZ{a:PV}{v:Bc}(h:JT m [a] [v]):VR m a v:=by cases h with|cons _ _ _ _ h1 _=>exact h1
def Xn{a b:PV}{u v:Bc}(h:JT m [a,b] [u,v]):VR m a u/\VR m b v:=AiK
def AH6{a b c:PV}{u v x:Bc}(h:JT m [a,b,c] [u,v,x]):VR m a u/\VR m b v/\VR m c x:=Aj1
def UM{ρ:Cb->Bc}:∀{Iv:List (Nat×Cb)} {vs:LP},JT m vs (Iv.map λp=>ρ p.2)->XV m (QQ Iv vs) (Iv.map λ(i,x)=>(i,ρ x))
 |[],vs,h=>by cases h;trivial
 |(i,o)::r,vs,h=>by
  cases h with
  |cons a v l l' h1 h2=>exact⟨rfl,h1,UM h2⟩
def qh:∀{Iv:List (Nat×Cb)} {vs:LP},vs.all PV.w9=true->∀p∈QQ Iv vs,p.2≠ .UO
 |[],_,_,p,hp=>by simp[QQ]at hp
 |_::_,[],_,p,hp=>by simp[QQ]at hp
 |(i,o)::r,v::vs,h,p,hp=>by
  simp only[Cl,Bk]at h;simp only[QQ,Bz]at hp;rcases hp with rfl|hp
  .intro e;simp only at e;rw[e]at h;exact Zq h.1 AS
  .exact qh h.2 p hp
def PH{ρ:Cb->Bc}{o:Option Cb}{l:LP}{Jl:LV}(h:JT m l ((o.map ρ).toList++Jl)){n:ON}{r:LP}(ht:Ze o l=some (n,r)):
  Go.Ab.MN n (o.map ρ)/\JT m r Jl:=by
 cases o with
 |none=>
  simp only[Ze,Ba,CM]at ht;obtain⟨rfl,rfl⟩:=ht;exact⟨trivial,h⟩
 |some x=>
  simp only[Ze]at ht;split at ht
  .rename_i a r';split at ht
   .rename_i k hk;simp only[Ba,CM]at ht;obtain⟨rfl,rfl⟩:=ht;cases h with
    |cons _ v _ l' h1 h2=>
     exact⟨by obtain⟨q,hq⟩:=UC hk h1;exact⟨q,hq⟩,h2⟩
   .cases ht
  .cases ht
def Sp{ro:ON}{st IK:St}(hr:IQ m st.heap w){x:Option PV}{q:KC}(hq:(match x with|some v=>some (.val v)|none=>none)=some q){y:PV}(H4:q.run st=some (y,IK)){ρ:Cb->Bc}{o:CI}{c:Sem Bc}
  (he:Ca ρ o=(do pure (.value (<- c))))(hc:∀y,x=some y->∃v,c.run P w=.ok v w/\VR m y v):OH P ro m w IK.heap y ((Ca ρ o).run P w):=by
 cases x with
 |none=>cases hq
 |some v=>
  simp at hq;subst hq;simp[Aw]at H4;obtain⟨rfl,rfl⟩:=H4;obtain⟨v',h1,h2⟩:=hc _ rfl;rw[ME he h1];exact Aiy
def AE7(hr:IQ m h w){b:Nat}(hb:h b=none){cs:LP}{vs:AV0}(hc:JT m cs vs.toList)(e:Bm):
  ∃m',Jt m w m' (w.alloc (.cells vs e))/\IQ m' (λx=>bif Bo x b then some (.box cs)else h x) (w.alloc (.cells vs e))/\VR m' (.G5 b 0) (.pointer (some ⟨w.heap.size,0,none⟩)):=by
 obtain⟨m',h1,h2,h3⟩:=hr.AP6 hb vs e hc;exact⟨m',h1,h2,.G5 _ _ _ h3⟩
def sr(hr:IQ m h w){t:Bm}{a:PV}{v:Bc}(ha:VR m a v){q:KC}(hq:m8 P t a=some q){st IK:St}(KH:st.heap=h){y:PV}(H4:q.run st=some (y,IK)):
  IK=st/\∃v',(DZ t v).run P w=.ok v' w/\VR m y v':=by
 unfold m8 at hq;split at hq
 .rename_i b o;simp at hq;subst hq;simp only[Aw]at H4;split at H4
  .rename_i cs Jw;split at H4
   .rename_i x hx;simp at H4;obtain⟨rfl,rfl⟩:=H4;cases ha with
    |data _ _ hd=>cases hd
    |G5 _ _ B hB=>
     rw[KH]at Jw;obtain⟨B',vs,ty,h1,h2,h3⟩:=hr.box b cs Jw;rw[hB]at h1;cases h1
     have:=rU (P:=P) (w:=w) hx h3 (B:=B) (Iw:=0) (λj u hj=>by
      rw[CR,Db w B j vs ty (0,0) h2,<- Cq];exact hj)
     rw[CR]at this;exact⟨rfl,this⟩
   .cases H4
  .rename_i e cs Jw;split at H4
   .rename_i x hx;simp at H4;obtain⟨rfl,rfl⟩:=H4;cases ha with
    |data _ _ hd=>cases hd
    |G5 _ _ B hB=>
     rw[KH]at Jw;obtain⟨B',vs,ty,h1,_,h2,h3⟩:=hr.LM b e cs Jw;rw[hB]at h1;cases h1
     have:=rU (P:=P) (w:=w) hx h3 (B:=B) (Iw:=0) (λj u hj=>by
      rw[CR,Db w B j vs ty (0,0) h2,<- Cq];rw[Cr]at hj;split at hj
      .exact hj
      .cases hj)
     rw[CR]at this;exact⟨rfl,this⟩
   .cases H4
  .cases H4
 .rename_i Gy o;split at hq
  .rename_i x hx;simp at hq;subst hq;simp[Aw]at H4;obtain⟨rfl,rfl⟩:=H4;cases ha with
   |data _ _ hd=>cases hd
   |M8 _ _ B Iw ks hk hl hd=>
    refine⟨rfl,rU (P:=P) (w:=w) hx hd.vrs (B:=B) (Iw:=Iw) λj u hj=>?_⟩;rw[Cr]at hj;split at hj
    .rw[Cg]at hj;exact eh hr hk hj
    .cases hj
  .cases hq
 .cases hq
def AHq(hr:IQ m h w){t:Bm}{a x:PV}{v u:Bc}(ha:VR m a v)(hx:VR m x u){q:KC}(hq:AAU P t x a=some q){st IK:St}(KH:st.heap=h){y:PV}(H4:q.run st=some (y,IK)):
  ∃w',(FI t v u).run P w=.ok () w'/\Jt m w m w'/\IQ m IK.heap w'/\y=.undef:=by
 unfold AAU at hq;split at hq
 .rename_i b o;split at hq
  .rename_i n hs;cases hc:Bo x.cells.length n&&x.cells.all PV.Iu with
   |false=>simp[hc]at hq
   |true=>
    simp only[hc,cond_true,Ba]at hq;subst hq;obtain⟨fB,Ro⟩:=and_true hc;have fB:=Bu fB;simp only[Aw]at H4;split at H4
    .rename_i cs Jw;split at H4
     .rename_i NL SG;simp at H4;obtain⟨rfl,rfl⟩:=H4;cases ha with
      |data _ _ hd=>cases hd
      |G5 _ _ B hB=>
       rw[KH]at Jw;obtain⟨B',vs,ty,h1,h2,h3⟩:=hr.box b cs Jw;rw[hB]at h1;cases h1
       have hxg:x≠ .UO:=by
        rintro rfl;simp[PV.cells,PV.Iu]at Ro
       have hxc:=hx.cells hxg;obtain⟨g1,g2⟩:=dM SG h3 hxc;have AGC:=run_storeCells_at (P:=P) B o ty u.cells.toList 0 vs w h2 (by simpa using g1) (Tk hxc Ro);simp only[DF]at AGC;obtain⟨x1,x2,x3,x4⟩:=L8 w B vs (vs.toList.take o++u.cells.toList++vs.toList.drop (o+u.cells.toList.length)).toArray ty h2
       have N1:u.cells.size=n:=by
        have:=hxc.length;rw[fB]at this;exact AjU
       obtain⟨k1,k2⟩:=hr.ALg Jw hB (w':=w.setRow B (vs.toList.take o++u.cells.toList++vs.toList.drop (o+u.cells.toList.length)).toArray) (cs:=NL) x1 (by simpa using g2) x2 x3 rfl rfl x4;exact Ah1
     .cases H4
    .rename_i e cs Jw;split at H4
     .rename_i NL SG;simp at H4;obtain⟨rfl,rfl⟩:=H4;cases ha with
      |data _ _ hd=>cases hd
      |G5 _ _ B hB=>
       rw[KH]at Jw;obtain⟨B',vs,ty,h1,h0,h2,h3⟩:=hr.LM b e cs Jw;rw[hB]at h1;cases h1
       have hxg:x≠ .UO:=by
        rintro rfl;simp[PV.cells,PV.Iu]at Ro
       have hxc:=hx.cells hxg
       have RF:cs.length<=vs.toList.length:=by
        have:=h3.length;rw[C1]at this;omega
       obtain⟨g1,g2⟩:=dM SG h3 hxc
       have jb:o+u.cells.toList.length<=cs.length:=by
        have:=g1;rw[C1]at this;omega
       have AGC:=run_storeCells_at (P:=P) B o ty u.cells.toList 0 vs w h2 (by simp at jb RF⊢;omega) (Tk hxc Ro);simp only[DF]at AGC;obtain⟨x1,x2,x3,x4⟩:=L8 w B vs (vs.toList.take o++u.cells.toList++vs.toList.drop (o+u.cells.toList.length)).toArray ty h2
       have N1:u.cells.size=n:=by
        have:=hxc.length;rw[fB]at this;exact AjU
       have AFy:NL.length=cs.length:=by
        unfold NR at SG;split at SG
        .rename_i hh;simp only[Ba]at SG;subst SG;simp only[Bf,C1,List.length_drop];omega
        .cases SG
       have tz:(vs.toList.take o++u.cells.toList++vs.toList.drop (o+u.cells.toList.length)).take NL.length=(vs.toList.take cs.length).take o++u.cells.toList++(vs.toList.take cs.length).drop (o+u.cells.toList.length):=by
        rw[AFy,List.take_take,Nat.min_eq_left AA,List.drop_take,CN,CN,List.take_append,CJ (by rw[C1];omega),List.take_append,CJ (l:=u.cells.toList) (by rw[C1];omega)];congr 3;rw[C1];omega
       obtain⟨k1,k2⟩:=hr.ACL Jw hB (w':=w.setRow B (vs.toList.take o++u.cells.toList++vs.toList.drop (o+u.cells.toList.length)).toArray) (cs:=NL) (vs:=(vs.toList.take o++u.cells.toList++vs.toList.drop (o+u.cells.toList.length)).toArray) (by rw[h0,<- CB (xs:=vs),<- CB (xs:=(vs.toList.take o++u.cells.toList++vs.toList.drop (o+u.cells.toList.length)).toArray),GN,KP _ _ _ (show o+u.cells.toList.length<=vs.toList.length by omega)]) x1 (by
        rw[GN,tz];exact g2) x2 x3 rfl rfl x4
       exact Ah1
     .cases H4
    .cases H4
  .cases hq
 .cases hq
def ACZ(hr:IQ m h w){t t' d:Bm}(UR:P.underlying t'=some (.slice d)){s x:PV}{v v2:Bc}(hv:VR m s v)(hx:VR m x v2){q:KC}{md:Bool}(hq:qv P md t s x=some q){st IK:St}(KH:st.heap=h){y:PV}(H4:q.run st=some (y,IK))
  (hf:∀b,st.next<=b->b<IK.next->st.heap b=none)(ty:Bm):
  ∃r w' m',(Ck #[t,t'] ty #[v,v2]).run P w=.ok r w'/\Jt m w m' w'/\IQ m' IK.heap w'/\VR m' y r:=by
 unfold qv at hq;split at hq
 .rename_i e he;have ht:=JF he;split at hq
  .rename_i size hs;obtain⟨i,hi,N1⟩:=PG hs;split at hq
   .rename_i bytes hby;obtain⟨i',VI,iD⟩:=L5 hby;rw[hi]at VI;cases VI;split at hq
    .rename_i z hz;obtain⟨i2,zv,O4,da,hzc⟩:=oB hz;rw[hi]at O4;cases O4;cases hl:Bo z.cells.length (size+1)with
     |false=>simp only[hl,cond_false]at hq;cases hq
     |true=>
      simp only[hl,cond_true]at hq
      have vo:zv.cells.size=i.size:=by
       have:=((rS (m:=m) hzc).cells (λe=>by rw[e]at hzc;exact ur hzc)).length;exact AkH
      split at hq
      .rename_i xs hxs;have uA:=hx.G1 hxs;cases Jg:xs.all (λr=>Bo r.length (size+1))with
       |false=>simp only[Jg,cond_false]at hq;cases hq
       |true=>
        simp only[Jg,cond_true]at hq;have Xa:∀Gy∈xs,Gy.length=i.size:=λGy hm=>by rw[N1];exact Bu (CV.1 Jg Gy hm)
        split at hq
        .cases hb:Go.Ab.JE xs.length bytes with
         |false=>simp[hb]at hq
         |true=>
          simp only[hb,cond_true]at hq;obtain⟨MR,MK⟩:=and_true hb;cases Pp:AE0 P md t with
          |true=>
           rw[Pp]at hq;simp only[cond_true]at hq
           have hv0:v=.slice none 0 0:=by
            cases hv with
            |data _ _ hd=>cases hd;rfl
            |nil=>rfl
           subst hv0;split at hq
           .simp only[Ba]at hq;subst hq;simp[Aw]at H4;obtain⟨rfl,rfl⟩:=H4
            obtain⟨a,ca,rfl,ha⟩:∃a ca,v2=.slice a 0 ca/\(a=none->ca=0):=by
             cases uA with
             |none a ca ha=>exact⟨a,ca,rfl,ha⟩
             |HC _ _ _ _ _ _ _ hh=>simp at hh
            have hv2:FU a 0 ca=.slice none 0 0\/∃a' c',FU a 0 ca=.slice (some a') 0 c':=by
             cases a with
             |none=>rw[ha rfl];exact .inl rfl
             |some a=>exact .inr ⟨_,_,rfl⟩
            exact⟨_,w,m,Go.Ab.PB t t' ty e i d ht UR hi _ none 0 0 rfl (Bd _) _ hv2 w,Jt.refl m w,by rw[KH];exact hr,.nil⟩
           .simp only[Ba]at hq;subst hq;simp only[Aw,Ba,CM]at H4;obtain⟨rfl,rfl⟩:=H4;have Qx:h st.next=none:=by rw[<- KH];exact hf _ (Bd _) Acf
            obtain⟨r,w',m',g1,g2,g3,g4⟩:=xq hr ht UR hi da vo AA Qx Xa AD Ab8 (Go.Ab.LO MK) uA ty;refine⟨r,w',m',g1,g2,g3.congr λk=>?_,g4⟩;simp only[BB,K7,N1,KH]
          |false=>
          rw[Pp]at hq;simp only[cond_false,Ba]at hq;subst hq;simp[Aw]at H4;obtain⟨rfl,rfl⟩:=H4;have Qx:h st.next=none:=by rw[<- KH];exact hf _ (Bd _) Acf
          have VJ:=hr.tC Qx i.size
          have hv0:VR m (.H6 st.next []) v:=by
           cases hv with
           |data _ _ hd=>cases hd;exact .ai _
           |nil=>exact .ai _
          obtain⟨r,w',m',g1,g2,g3,g4⟩:=wZ VJ ht UR hi da vo AA (b:=st.next) (G1:=[]) (xs:=xs) (e0:=i.size) (by simp[K7]) (.inl rfl) (λGy hm=>by simp at hm) Xa
           (by simp;rw[iD];exact Go.Ab.LO MR) (by simp;exact Go.Ab.LO MK) hv0 uA ty
          refine⟨r,w',m',g1,g2,g3.congr λk=>?_,by simpa using g4⟩;simp only[BB,K7,List.length_nil,CR,N1,KH];split<;>rfl
        .rename_i b n;cases hb:Go.Ab.JE (n+xs.length) bytes with
         |false=>simp[hb]at hq
         |true=>
          simp only[hb,cond_true,Ba]at hq;subst hq;obtain⟨MR,MK⟩:=and_true hb;simp only[Aw]at H4;split at H4
          .rename_i e' cs Jw;cases hee:Bo (size+1) e' with
           |false=>simp[hee]at H4
           |true=>
            have AW2:=Bu hee;simp only[hee,cond_true]at H4;split at H4
            .rename_i NL SG;split at SG
             .rename_i hn;simp only[Ba]at SG H4;subst SG;simp only[CM]at H4;obtain⟨rfl,rfl⟩:=H4;have Qx:h st.next=none:=by rw[<- KH];exact hf _ (Bd _) (by simp[BB,BL])
              rw[KH]at Jw;obtain⟨r,w',m',g1,g2,g3,g4⟩:=uL hr ht UR hi da vo AA (b:=b) (b':=st.next) (n:=n) (cs:=cs) (by rw[N1];show h b=some (.LM (size+1) cs);rw[AW2];exact Jw) Qx (by rw[N1];exact hn) Xa Ab8 (Go.Ab.LO MK) hv uA ty;refine⟨r,w',m',g1,g2,g3.congr λk=>?_,g4⟩;simp only[BB,BL,K7,N1,KH]
             .cases SG
            .cases H4
          .cases H4
        .rename_i b G1;cases hb:Go.Ab.JE (G1.length+xs.length) bytes&&G1.all (λr=>Bo r.length (size+1))with
         |false=>simp[hb]at hq
         |true=>
          simp only[hb,cond_true,Ba]at hq;subst hq;obtain⟨vP,Xp⟩:=and_true hb;obtain⟨MR,MK⟩:=and_true vP;simp only[Aw]at H4;split at H4
          .rename_i n' e' Lr;cases hc:Bo G1.length n'&&(Bo G1.length 0||Bo (size+1) e')with
           |false=>simp[hc]at H4
           |true=>
            simp only[hc,cond_true,Ba,CM]at H4;obtain⟨rfl,rfl⟩:=H4;obtain⟨fB,Ro⟩:=and_true hc;have fB:=Bu fB;subst fB;rw[KH]at Lr
            obtain⟨r,w',m',g1,g2,g3,g4⟩:=wZ hr ht UR hi da vo AA (b:=b) (G1:=G1) (xs:=xs) (e0:=e') Lr (by
             rcases Dy.1 Ro with h|h
             .exact .inl (Bu h)
             .exact .inr (by rw[N1];exact(Bu h).symm)) (λGy hm=>by rw[N1];exact Bu (CV.1 Xp Gy hm)) Xa
             Ab8 (Go.Ab.LO MK) hv uA ty
            refine⟨r,w',m',g1,g2,g3.congr λk=>?_,g4⟩;simp only[BL,K7,N1,KH]
          .cases H4
        .cases hq
      .cases hq
    .cases hq
   .cases hq
  .cases hq
 .cases hq
def cm{a:PV}{k:KD}(h:Nr a=some k){v:Bc}(hv:VR m a v):v=k.val:=by
 unfold Nr at h;split at h
 .exact Ai4
 .exact Ai4
 .cases h
def KD.desc:KD->DB
 | .i _=> .int .i64
 | .s _=> .string
def iQ{t:Bm}{k:KD}(h:iP P t k=true):∃kt e d,P.underlying t=some (.map kt e)/\P.underlying kt=some d/\d=k.desc/\Xf P e=some (.int .i64 0):=by
 unfold iP at h;split at h
 .rename_i kt e hu;obtain⟨h1,h2⟩:=and_true h
  have hz:Xf P e=some (.int .i64 0):=by
   clear h h1;split at h2
   .rename_i hz;exact hz
   .cases h2
  clear h h2;split at h1
  .rename_i hk;exact⟨kt,e,_,hu,hk,rfl,hz⟩
  .rename_i hk;exact⟨kt,e,_,hu,hk,rfl,hz⟩
  .cases h1
 .cases h
def AE8{a b:BA}(h:(a.toList==b.toList)=true):b=a:=by rw[<- EC]at h;exact((GI a b).1 h).symm
def KD.ABa{k k':KD}(h:k.is k'=true):k'=k:=by
 cases k<;>cases k'<;>simp only[BF]at h
 .rw[beq_iff_eq]at h;rw[h]
 .cases h
 .cases h
 .rw[AE8 h]
def KD.kC(k:KD):k.is k=true:=by cases k<;>simp[BF]
def ll{k:KD}{d:DB}(hd:d=k.desc):∀{l:ML} {es:List DT} (i:Nat),fq l es->l.all (λp=>k.QV p.1)=true->
  ∃q,Cm d k.val es i=some q/\(match Ko k l with
   |some v=>∃j e,q=some (i+j,.int .i64 v)/\es[j]?=some e/\e.key=k.val/\∀x,fq (Qz k x l) (es.modify j λe=>{e with key:=k.val,val:=.int .i64 x})
   |none=>q=none/\∀x c,fq (Qz k x l) (es++[⟨k.val,.int .i64 x,c⟩]))
 |[],[],i,_,_=>⟨none,rfl,rfl,λx c=>⟨rfl,rfl,trivial⟩⟩
 |[],_::_,_,h,_=>h.elim
 |(_,_)::_,[],_,h,_=>h.elim
 |(k',v)::l,e::es,i,⟨h1,h2,h3⟩,Jg=>by
  simp only[Cl,Bk]at Jg;obtain⟨hk,Jg⟩:=Jg;obtain⟨q,g1,g2⟩:=ll hd (i+1) h3 Jg
  have Km:DN d k.val e.key=some (k.is k'):=by
   exact AhI
  cases hb:k.is k' with
  |true=>
   rw[hb]at Km;have hkk:k'=k:=KD.ABa hb;subst hkk;refine⟨some (i,e.val),by simp[Cm,Km],?_⟩;simp only[Ko,hb,cond_true];refine⟨0,e,by rw[h2];rfl,rfl,h1,λx=>?_⟩;simp only[Qz,hb,cond_true,List.modify_zero_cons];exact⟨rfl,rfl,h3⟩
  |false=>
   rw[hb]at Km;refine⟨q,by simp[Cm,Km,g1],?_⟩;simp only[Ko,hb,cond_false];split at g2
   .rename_i v' hv';obtain⟨j,e',q1,q2,q3,q4⟩:=g2;refine⟨j+1,e',by rw[q1,show i+1+j=i+(j+1) by omega],by simpa using q2,q3,λx=>?_⟩;simp only[Qz,hb,cond_false,List.modify_succ_cons];exact⟨h1,h2,q4 x⟩
   .rename_i hv';obtain⟨q1,q2⟩:=g2;refine⟨q1,λx c=>?_⟩;simp only[Qz,hb,cond_false,List.cons_append];exact⟨h1,h2,q2 x c⟩
def Yf{k:KD}{kt:Bm}{d:DB}(hu:P.underlying kt=some d)(hd:d=k.desc)(empty:Bool)(n:Nat)(w:World):
  (EU empty (n+1) kt k.val).run P w=.ok () w:=by
 cases k<;>(simp only[KD.desc]at hd;subst hd)<;>simp[EU,Bb hu,KD.val]
def ADZ(hr:IQ m h w){t:Bm}{mp k:PV}{ok:Bool}{q:KC}(hq:IP P t mp k ok=some q){st IK:St}(KH:st.heap=h){y:PV}(H4:q.run st=some (y,IK)){u v:Bc}(hm:VR m mp u)(hk:VR m k v):
  IK=st/\∃r,(Ec t u v ok).run P w=.ok r w/\VR m y r:=by
 unfold IP at hq;split at hq
 .rename_i k' Ta;have hv:=cm Ta hk;subst hv;cases tw:iP P t k' with
  |false=>simp[tw]at hq
  |true=>
   obtain⟨kt,e,d,hu,hd,hdk,hz⟩:=iQ tw;simp only[tw,cond_true]at hq;obtain⟨zv,da,vn,hzg⟩:=Pk hz w
   have AYN:zv=.int .i64 0:=by
    have:=vn m;cases this with|data _ _ hd=>cases hd;rfl
   subst AYN;split at hq
   .rename_i b;simp only[Ba]at hq;subst hq;simp only[Aw]at H4;split at H4
    .rename_i l hl;cases Jg:l.all (λp=>k'.QV p.1)with
     |false=>simp[Jg]at H4
     |true=>
      simp only[Jg,cond_true]at H4;rw[KH]at hl;cases hm with
      |data _ _ hd=>cases hd
      |map _ B hB=>
       obtain⟨B',Jf,HH,g1,g2,g3⟩:=hr.map b l hl;rw[hB]at g1;cases g1;have JU:=Go.Ab.Nt (P:=P) w B Jf HH g2;obtain⟨q,f1,f2⟩:=ll hdk 0 g3 Jg;have iE:=Yf (P:=P) hd hdk Jf.isEmpty 9999 w;split at H4
       .rename_i x hx;cases hf:Ko k' l with
        |some n=>
         rw[hf]at hx f2;simp only[Ba]at hx;subst hx;simp only[Ba,CM]at H4;obtain⟨rfl,rfl⟩:=H4;obtain⟨j,e',rfl,_⟩:=f2;refine⟨rfl,if ok then .tuple #[.int .i64 n,.bool true]else .int .i64 n,?_,?_⟩
         .simp[Ec,Bb hu,JU,iE,DD,Bb hd,f1]
         .cases ok
          .exact AkR
          .exact .tuple _ [.int .i64 n,.bool true] (.cons _ _ _ _ (.data _ _ (.int _ _)) (.one (.data _ _ (.bool _))))
        |none=>
         rw[hf]at hx f2;simp only[Ba]at hx;subst hx;simp only[Ba,CM]at H4;obtain⟨rfl,rfl⟩:=H4;obtain⟨rfl,_⟩:=f2;refine⟨rfl,if ok then .tuple #[.int .i64 0,.bool false]else .int .i64 0,?_,?_⟩
         .simp[Ec,Bb hu,JU,iE,DD,Bb hd,f1,da]
         .cases ok
          .exact AkR
          .exact .tuple _ [.int .i64 0,.bool false] (.cons _ _ _ _ (.data _ _ (.int _ _)) (.one (.data _ _ (.bool _))))
       .cases H4
    .cases H4
   .cases hq
 .cases hq
def AEL(hr:IQ m h w){t:Bm}{mp k x:PV}{q:KC}(hq:IU P t mp k x=some q){st IK:St}(KH:st.heap=h){y:PV}(H4:q.run st=some (y,IK)){u v z:Bc}(hm:VR m mp z)(hk:VR m k u)(hx:VR m x v):
  ∃w',(EH t z u v).run P w=.ok () w'/\Jt m w m w'/\IQ m IK.heap w'/\y=.undef:=by
 unfold IU at hq;split at hq
 .rename_i k' Ta;have hv:=cm Ta hk;subst hv;cases tw:iP P t k' with
  |false=>simp[tw]at hq
  |true=>
   obtain⟨kt,e,d,hu,hd,hdk,hz⟩:=iQ tw;simp only[tw,cond_true]at hq;split at hq
   .rename_i b n;simp only[Ba]at hq;subst hq;cases hx with|data _ _ hx=>
    cases hx;simp only[Aw]at H4;split at H4
    .rename_i l hl;cases Jg:l.all (λp=>k'.QV p.1)with
     |false=>simp[Jg]at H4
     |true=>
      simp only[Jg,cond_true,Ba,CM]at H4;obtain⟨rfl,rfl⟩:=H4;rw[KH]at hl;cases hm with
      |data _ _ hd=>cases hd
      |map _ B hB=>
       obtain⟨B',Jf,HH,g1,g2,g3⟩:=hr.map b l hl;rw[hB]at g1;cases g1;have JU:=Go.Ab.Nt (P:=P) w B Jf HH g2;obtain⟨q,f1,f2⟩:=ll hdk 0 g3 Jg;have iE:=Yf (P:=P) hd hdk false 9999 w
       have key:∀(Og:Array DT) (Qq:Nat),fq (Qz k' n l) Og.toList->Jt m w m (BJ w B (.map Og Qq))/\IQ m (st.set b (.map (Qz k' n l))).heap (BJ w B (.map Og Qq)):=by
        intro Og Qq hrel;obtain⟨p1,p2,p3,p4⟩:=Go.Ab.L7 w B (.map Jf HH) (.map Og Qq) g2 AdZ AdZ;obtain⟨k1,k2⟩:=hr.ACN hl hB (w':=BJ w B (.map Og Qq)) (l:=Qz k' n l) p1 hrel p2 p3 rfl rfl p4;exact Aka
       cases hf:Ko k' l with
       |some n0=>
        rw[hf]at f2;obtain⟨j,e',rfl,q2,q3,q4⟩:=f2;obtain⟨k1,k2⟩:=key (Jf.modify j λe=>{e with key:=k'.val,val:=.int .i64 n}) HH (by simpa using q4 n);refine⟨_,?_,k1,k2,rfl⟩
        have APA:((Jf[j]?).map (·.key)).getD k'.val=e'.key:=by
         have:Jf[j]?=some e':=by simpa using q2
         rw[this];rfl
        have mj:D0 10000 e'.key k'.val=true:=by
         rw[q3];cases k' with
         |i n=>simp[D0,KD.val]
         |s b=>simp[D0,KD.val,(GI b b).2 rfl]
        rw[CR]at f1;simp only[EH,Bh,Bb hu,Result.andThen_ok,JU,iE,DD,Bb hd,f1,Sem.run_pure,APA,Instr.keyThatStays,mj,if_true,Go.Ab.Nv w B Jf HH g2]
       |none=>
        rw[hf]at f2;obtain⟨rfl,q2⟩:=f2;obtain⟨k1,k2⟩:=key (Jf.push {key:=k'.val,val:=.int .i64 n,born:=HH}) (HH+1) (by simpa using q2 n HH);refine⟨_,?_,k1,k2,rfl⟩;simp only[EH,Bh,Bb hu,Result.andThen_ok,JU,iE,DD,Bb hd,f1,Sem.run_pure,Go.Ab.Nv w B Jf HH g2]
    .cases H4
   .cases hq
 .cases hq
def AAy{k:KD}{d:DB}(hd:d=k.desc):∀{l:ML} {es:List DT} (i:Nat),fq l es->l.all (λp=>k.QV p.1)=true->
  ∃q,Cm d k.val es i=some q/\(match q with
   |some (p,_)=>∃j,p=i+j/\j<es.length/\fq (iR k l) (es.eraseIdx j)
   |none=>fq (iR k l) es)
 |[],[],i,_,_=>⟨none,rfl,trivial⟩
 |[],_::_,_,h,_=>h.elim
 |(_,_)::_,[],_,h,_=>h.elim
 |(k',v)::l,e::es,i,⟨h1,h2,h3⟩,Jg=>by
  simp only[Cl,Bk]at Jg;obtain⟨hk,Jg⟩:=Jg;obtain⟨q,g1,g2⟩:=AAy hd (i+1) h3 Jg
  have Km:DN d k.val e.key=some (k.is k'):=by
   exact AhI
  cases hb:k.is k' with
  |true=>
   rw[hb]at Km;refine⟨some (i,e.val),by simp[Cm,Km],0,rfl,AD,?_⟩;simp only[iR,hb,cond_true,List.eraseIdx_zero,List.tail_cons];exact h3
  |false=>
   rw[hb]at Km;refine⟨q,by simp[Cm,Km,g1],?_⟩;cases q with
   |none=>
    simp only[iR,hb,cond_false];exact⟨h1,h2,g2⟩
   |some p=>
    obtain⟨p,v'⟩:=p;obtain⟨j,rfl,hj,hrel⟩:=g2;refine⟨j+1,AA,by simp;omega,?_⟩;simp only[iR,hb,cond_false,List.eraseIdx_cons_succ];exact⟨h1,h2,hrel⟩
def ACt(hr:IQ m h w){t:Bm}{mp k:PV}{q:KC}(hq:IZ P t mp k=some q){st IK:St}(KH:st.heap=h){y:PV}(H4:q.run st=some (y,IK)){u z:Bc}(hm:VR m mp z)(hk:VR m k u){KO:Array Bm}(Pp:KO[0]?=some t)(ty:Bm):
  ∃w',(EI KO ty #[z,u]).run P w=.ok (.tuple #[]) w'/\Jt m w m w'/\IQ m IK.heap w'/\y=.undef:=by
 unfold IZ at hq;split at hq
 .rename_i k' Ta;have hv:=cm Ta hk;subst hv;cases tw:iP P t k' with
  |false=>simp[tw]at hq
  |true=>
   obtain⟨kt,e,d,hu,hd,hdk,hz⟩:=iQ tw;simp only[tw,cond_true]at hq;split at hq
   .rename_i b;simp only[Ba]at hq;subst hq;simp only[Aw]at H4;split at H4
    .rename_i l hl;cases Jg:l.all (λp=>k'.QV p.1)with
     |false=>simp[Jg]at H4
     |true=>
      simp only[Jg,cond_true,Ba,CM]at H4;obtain⟨rfl,rfl⟩:=H4;rw[KH]at hl;cases hm with
      |data _ _ hd=>cases hd
      |map _ B hB=>
       obtain⟨B',Jf,HH,g1,g2,g3⟩:=hr.map b l hl;rw[hB]at g1;cases g1;have JU:=Go.Ab.Nt (P:=P) w B Jf HH g2;obtain⟨q,f1,f2⟩:=AAy hdk 0 g3 Jg;have iE:=Yf (P:=P) hd hdk Jf.isEmpty 9999 w;have a0:(#[Value.map (some B),k'.val]:AV0)[0]?=some (.map (some B)):=rfl;have a1:(#[Value.map (some B),k'.val]:AV0)[1]?=some k'.val:=rfl
       have key:∀(Og:Array DT),fq (iR k' l) Og.toList->Jt m w m (BJ w B (.map Og HH))/\IQ m (st.set b (.map (iR k' l))).heap (BJ w B (.map Og HH)):=by
        intro Og hrel;obtain⟨p1,p2,p3,p4⟩:=Go.Ab.L7 w B (.map Jf HH) (.map Og HH) g2 AdZ AdZ;obtain⟨k1,k2⟩:=hr.ACN hl hB (w':=BJ w B (.map Og HH)) (l:=iR k' l) p1 hrel p2 p3 rfl rfl p4;exact Aka
       cases q with
       |some p=>
        obtain⟨p,v'⟩:=p;obtain⟨j,rfl,hj,hrel⟩:=f2
        have PN:(Jf.eraseIdxIfInBounds j).toList=Jf.toList.eraseIdx j:=by
         have hj:j<Jf.size:=by simpa using hj
         exact Aja
        obtain⟨k1,k2⟩:=key (Jf.eraseIdxIfInBounds j) (by rw[PN];exact hrel);refine⟨_,?_,k1,k2,rfl⟩;rw[CR]at f1;exact AhQ
       |none=>
        obtain⟨k1,k2⟩:=key Jf f2;refine⟨_,?_,k1,k2,rfl⟩;exact AhQ
    .cases H4
   .cases hq
 .cases hq
def fL{t:Bm}(h:kB P t=some false):∃d,P.underlying t=some d/\∀ms,d≠ .interface ms:=by
 unfold kB at h;split at h
 .cases h
 .rename_i d hn hd;exact⟨d,hd,λms e=>hn ms e⟩
 .cases h
def AGM{t:Bm}{x y:PV}(h:nJ P t x=some y){u:Bc}(hx:VR m x u)(w:World):∃v,(Ef t u).run P w=.ok v w/\VR m y v:=by
 unfold nJ at h;split at h
 .rename_i hi;obtain⟨d,hd,hn⟩:=fL hi;cases hsc:x.Iu with
  |false=>simp[hsc]at h
  |true=>
   simp only[hsc,cond_true,Ba]at h;subst h;exact Agx
 .cases h
def ACb{t MA:Bm}{x y:PV}(h:q7 P MA x=some y){u:Bc}(hx:VR m x u)(w:World):
  ∃v,(FE u t MA false).run P w=.ok v w/\VR m y v:=by
 unfold q7 at h;split at h
 .rename_i hi;obtain⟨d,hd,hn⟩:=fL hi;split at h
  .rename_i t' v';split at h
   .rename_i ht;subst ht;simp only[Ba]at h;subst h;cases hx with
    |data _ _ hd=>cases hd
    |iface _ _ u' hv=>
     refine⟨u',?_,hv⟩;cases d<;>first|(exact(hn _ rfl).elim)|(simp[FE,Bb hd])
   .cases h
  .cases h
 .cases h
end
end
section
open Go.Ab (ND Ox P6 La RO PG L5 H0 JF Md KE Fw ME TY JA and_true)
section
variable{P:Program} {m:J} {w:World}
def zt{st:St}(hr:IQ m st.heap w){o:CI}{vs:LP}{q:KC}{md:Bool}(h:opQ P md o.op vs=some q){y:PV}{IK:St}(H4:q.run st=some (y,IK))
  (hf:∀b,st.next<=b->b<IK.next->st.heap b=none){ρ:Cb->Bc}(Mi:JT m vs (o.op.operands.toList.map ρ))(ro:ON):
  OH P ro m w IK.heap y ((Ca ρ o).run P w):=by
 obtain⟨dst,op,ty,pos,after,guard⟩:=o;simp only at h Mi;unfold opQ at h;split at h
 .split at h
  .exact Ah3
  .cases h
 .rename_i x0;split at h
  .simp at h;subst h;simp[Aw]at H4;obtain⟨rfl,rfl⟩:=H4;have hv:=RZ (v:=ρ x0) Mi
   have hv0:VR m (.H6 st.next []) (ρ x0):=by
    generalize ρ x0=u at hv;cases hv with
    |data _ _ hd=>cases hd;exact .ai _
    |nil=>exact .ai _
   exact Ht (v:=ρ x0) (Jt.refl m w) (hr.tC (hf st.next (Bd _) Acf) 0) hv0
  .exact Ah3
  .cases h
 .rename_i c0 a0 b0;split at h
  .rename_i c a b;simp at h;subst h;simp[Aw]at H4;obtain⟨rfl,rfl⟩:=H4;obtain⟨h1,h2,h3⟩:=AH6 (u:=ρ c0) (v:=ρ a0) (x:=ρ b0) Mi;have hc:ρ c0=.bool c:=by generalize ρ c0=q at h1;cases h1 with|data _ _ hd=>cases hd;rfl
   have:(Ca ρ ⟨dst,.pick c0 a0 b0,ty,pos,after,guard⟩).run P w=.ok (.value (if c then ρ a0 else ρ b0)) w:=by
    exact Ajr
   rw[this];cases c
   .exact Ht (Jt.refl m w) hr h3
   .exact Aiy
  .cases h
 .rename_i e;split at h
  .rename_i z hz;simp at h;subst h;simp[Aw]at H4;obtain⟨rfl,rfl⟩:=H4;obtain⟨v,hv,ZE,hg⟩:=Pk hz w;obtain⟨m',k1,k2,k3⟩:=AE7 hr (hf st.next (Bd _) Acf) ((ZE m).cells hg) e;have:(GF e true (.tuple #[])).run P w=.ok (.pointer (some ⟨w.heap.size,0,none⟩)) (w.alloc (.cells v.cells e)):=by simp[GF,hv,newVar,Go.Ab.Ll]
   rw[ME rfl this];exact Ht k1 k2 k3
  .cases h
 .rename_i e x0;split at h
  .rename_i x;cases hs:x.cells.all PV.Iu with
   |false=>simp[hs]at h
   |true=>
    simp only[hs,cond_true,Ba]at h;subst h;simp[Aw]at H4;obtain⟨rfl,rfl⟩:=H4;have hx:=RZ (v:=ρ x0) Mi;have hxg:x≠ .UO:=by rintro rfl;simp[PV.cells,PV.Iu]at hs
    obtain⟨m',k1,k2,k3⟩:=AE7 hr (hf st.next (Bd _) Acf) (hx.cells hxg) e;have:(Instr.box e (ρ x0)).run P w=.ok (.pointer (some ⟨w.heap.size,0,none⟩)) (w.alloc (.cells (ρ x0).cells e)):=by simp[Instr.box,newVar,Go.Ab.Ll]
    rw[ME rfl this];exact Ht k1 k2 k3
  .cases h
 .rename_i t Iv;cases hs:vs.all PV.w9 with
  |false=>simp[hs]at h
  |true=>
   simp only[hs,cond_true]at h;refine Sp hr h H4 (c:=Er t (Iv.map λ(i,x)=>(i,ρ x))) rfl λy hy=>?_;refine gF (Lt:=Iv.map λ(i,x)=>(i,ρ x)) ?_ (qh hs) hy w;exact AhS
 .rename_i t len Iv;cases h0:AE0 P md t&&(Bo len 0&&Bo Iv.size 0)with
  |true=>
   simp only[h0,cond_true]at h;obtain⟨_,hl⟩:=and_true h0;obtain⟨hl,hps⟩:=and_true hl;have hl:=Bu hl;subst hl;obtain rfl:Iv=#[]:=FH (Bu hps);obtain⟨u,w',m',g1,g2,g3,g4⟩:=jY (P:=P) (Lt:=(#[]:Array (Nat×Cb)).map λ(i,x)=>(i,ρ x)) hr AD rfl h H4 hf;exact Agi
  |false=>
  simp only[h0,cond_false]at h;split at h
  .rename_i v hv;simp at h;subst h;simp[Aw]at H4;obtain⟨rfl,rfl⟩:=H4
   obtain⟨u,w',m',g1,g2,g3,g4⟩:=Ts (P:=P) (Lt:=Iv.map λ(i,x)=>(i,ρ x)) hr (by
    rw[FF];exact UM (by
    have:JT m vs (List.map (ρ∘λx=>x.2) Iv.toList):=by simpa[C6]using Mi
    exact this)) hv
   exact Agi
  .cases h
 .rename_i t l0 c0;split at h
  .obtain⟨h1,h2⟩:=Xn (u:=ρ l0) (v:=ρ c0) Mi;obtain⟨v,w',m',g1,g2,g3,g4⟩:=VD (P:=P) hr rfl h H4 hf h1 h2;exact Agi
  .cases h
 .rename_i t x0;split at h
  .exact Sp hr h H4 rfl λz hz=>AGM hz AeQ w
  .cases h
 .rename_i x0 t MA ok;split at h
  .exact Sp hr h H4 rfl λz hz=>ACb hz AeQ w
  .cases h
 .rename_i fn first K8
  split at h
  .rename_i f;cases h0:Bo first.size 0 with
   |false=>simp[h0]at h
   |true=>
    simp only[h0,cond_true,Ba]at h;subst h;simp[Aw]at H4;obtain⟨rfl,rfl⟩:=H4;have jG:first=#[]:=FH (Bu h0)
    subst jG;have hv:JT m vs (K8.toList.map ρ):=by simpa[C6]using Mi
    have:(Ca ρ ⟨dst,.makeFunc (.func f) #[] K8,ty,pos,after,guard⟩).run P w=.ok (.value (.func (.func f) #[] (K8.toList.map ρ).toArray)) w:=by
     simp only[Ca,Instr.makeFunc,JA];rfl
    rw[this];exact Ht (Jt.refl m w) hr (.fn _ _ _ hv)
  .cases h
 .rename_i t;simp only[Ba]at h;subst h;simp only[Aw,Ba,CM]at H4;obtain⟨rfl,rfl⟩:=H4;obtain⟨m',k1,k2,k3⟩:=hr.AP7 (l:=[]) (hf st.next (Bd _) Acf) #[] 0 (by trivial);have:(Ca ρ ⟨dst,.makeMap t none,ty,pos,after,guard⟩).run P w=.ok (.value (.map (some w.heap.size))) (w.alloc (.map #[] 0)):=rfl;rw[this];exact Ht k1 k2 (.map _ _ k3)
 .rename_i t m0 k0 ok;split at h
  .obtain⟨h1,h2⟩:=Xn (u:=ρ m0) (v:=ρ k0) Mi;obtain⟨rfl,v,g1,g2⟩:=ADZ (P:=P) hr h rfl H4 h1 h2;rw[ME rfl g1];exact Aj5
  .cases h
 .rename_i t m0 k0 x0;split at h
  .obtain⟨h1,h2,h3⟩:=AH6 (u:=ρ m0) (v:=ρ k0) (x:=ρ x0) Mi;obtain⟨w',g1,g2,g3,rfl⟩:=AEL (P:=P) hr h rfl H4 h1 h2 h3;exact Aiz
  .cases h
 .rename_i t a0;split at h
  .obtain⟨rfl,v,g1,g2⟩:=sr (P:=P) hr (RZ Mi) h rfl H4;rw[ME rfl g1];exact Aj5
  .cases h
 .rename_i t a0 x0;split at h
  .obtain⟨h1,h2⟩:=Xn (u:=ρ a0) (v:=ρ x0) Mi;obtain⟨w',g1,g2,g3,rfl⟩:=AHq (P:=P) hr h1 h2 h rfl H4;exact Aiz
  .cases h
 .rename_i x0;split at h
  .rename_i b o;simp at h;subst h;simp[Aw]at H4;obtain⟨rfl,rfl⟩:=H4;have hx:=RZ (v:=ρ x0) Mi
   have:(Ca ρ ⟨dst,.nilCheck x0,ty,pos,after,guard⟩).run P w=.ok (.value (ρ x0)) w:=by
    simp only[Ca];generalize ρ x0=q at hx;cases hx with
    |data _ _ hd=>cases hd
    |G5=>rfl
   exact Ai3
  .rename_i r o;simp at h;subst h;simp[Aw]at H4;obtain⟨rfl,rfl⟩:=H4;have hx:=RZ (v:=ρ x0) Mi
   have:(Ca ρ ⟨dst,.nilCheck x0,ty,pos,after,guard⟩).run P w=.ok (.value (ρ x0)) w:=by
    simp only[Ca];generalize ρ x0=q at hx;cases hx with
    |data _ _ hd=>cases hd
    |M8=>rfl
   exact Ai3
  .cases h
 .rename_i op t x0 y0 yt;split at h
  .obtain⟨h1,h2⟩:=Xn (u:=ρ x0) (v:=ρ y0) Mi;exact Sp hr h H4 (c:=do DS op t x0 y0 (ρ x0) (ρ y0);Di op t (ρ x0) (ρ y0)) rfl λz hz=>q9 hz h1 h2 x0 y0 w
  .cases h
 .rename_i op t x0;split at h
  .exact Sp hr h H4 rfl λz hz=>AAZ hz AeQ w
  .cases h
 .rename_i src d x0;split at h
  .exact Sp hr h H4 rfl λz hz=>Yj hz AeQ w
  .cases h
 .rename_i t x0 lo hi;split at h
  .rename_i x r;split at h
   .rename_i lo' r1 e1;split at h
    .rename_i VI r2 e2
     have hv:JT m (x::r) (ρ x0::((lo.map ρ).toList++((hi.map ρ).toList++[]))):=by
      have:(Op.slice t x0 lo hi none).operands.toList.map ρ=ρ x0::((lo.map ρ).toList++((hi.map ρ).toList++[])):=by
       cases lo<;>cases hi<;>simp[C6]
      rw[this]at Mi;exact Mi
     cases hv with
     |cons _ _ _ _ hx KT=>
      obtain⟨a1,KT⟩:=PH KT e1;obtain⟨a2,_⟩:=PH KT e2;exact Sp hr h H4 rfl λz hz=>ic hz hx a1 a2 w
    .cases h
   .cases h
  .cases h
 .rename_i t x0 f;split at h
  .exact Sp hr h H4 rfl λz hz=>U6 hz AeQ w
  .cases h
 .rename_i t x0 f;split at h
  .exact Sp hr h H4 rfl λz hz=>gi hz AeQ w
  .cases h
 .rename_i t x0 i0;split at h
  .obtain⟨h1,h2⟩:=Xn (u:=ρ x0) (v:=ρ i0) Mi;exact Sp hr h H4 rfl λz hz=>VB hz h1 h2 w
  .cases h
 .rename_i t x0 i0;split at h
  .obtain⟨h1,h2⟩:=Xn (u:=ρ x0) (v:=ρ i0) Mi;exact Sp hr h H4 rfl λz hz=>iJ hz h1 h2 w
  .cases h
 .rename_i x0 ix;split at h
  .rename_i l;refine Sp hr h H4 (c:=Fo (ρ x0) ix) rfl λz hz=>?_;have hx:=RZ (v:=ρ x0) Mi;generalize ρ x0=q at hx;cases hx with
   |data _ _ hd=>cases hd
   |tuple _ l' hl=>
    obtain⟨v,hv,ZE⟩:=hl.get hz;exact⟨v,by simp[Fo,hv],ZE⟩
  .cases h
 .rename_i args argTypes;have hv:JT m vs (args.toList.map ρ):=by simpa[C6,Da]using Mi
  have he:(Ca ρ ⟨dst,.call ⟨.builtin .len,args,argTypes⟩,ty,pos,after,guard⟩)=builtin .len argTypes ty (args.map λ| .const _=>true|_=>false) (args.toList.map ρ).toArray:=by
   exact Af5
  generalize RF:args.toList.map ρ=cl at hv he;split at h
  .rename_i t x Pp;cases hv with
   |cons _ cv _ _ h1 h2=>
    cases h2;have yu:argTypes[0]?=some t:=by rw[<- Cq,Pp];rfl
    rw[he];split at h
    .rename_i v hv;simp at h;subst h;simp[Aw]at H4;obtain⟨rfl,rfl⟩:=H4;obtain⟨r,g1,g2⟩:=sq (P:=P) hv h1 yu ty w
     have:(builtin .len argTypes ty (args.map λ| .const _=>true|_=>false) [cv].toArray).run P w=.ok (.value r) w:=by
      exact AjD
     rw[this];exact Aj5
    .cases h
  .cases h
 .rename_i args argTypes;have hv:JT m vs (args.toList.map ρ):=by simpa[C6,Da]using Mi
  have he:(Ca ρ ⟨dst,.call ⟨.builtin .append,args,argTypes⟩,ty,pos,after,guard⟩)=builtin .append argTypes ty (args.map λ| .const _=>true|_=>false) (args.toList.map ρ).toArray:=by
   exact Af5
  generalize RF:args.toList.map ρ=cl at hv he;split at h
  .rename_i t t' s x Pp;split at h
   .rename_i d hd
    have yu:argTypes=#[t,t']:=by
     apply Array.ext';simpa using Pp
    subst yu
    obtain⟨u,v,rfl⟩:∃u v,cl=[u,v]:=by
     exact AgM
    obtain⟨h1,h2⟩:=Xn hv;rw[he];obtain⟨r,w',m',g1,g2,g3,g4⟩:=ACZ (P:=P) hr hd h1 h2 h rfl H4 hf ty
    have:(builtin .append #[t,t'] ty (args.map λ| .const _=>true|_=>false) [u,v].toArray).run P w=.ok (.value r) w':=by
     exact Ai5
    rw[this];exact Ht g2 g3 g4
   .cases h
  .cases h
 .rename_i args argTypes;have hv:JT m vs (args.toList.map ρ):=by simpa[C6,Da]using Mi
  have he:(Ca ρ ⟨dst,.call ⟨.builtin .min,args,argTypes⟩,ty,pos,after,guard⟩)=builtin .min argTypes ty (args.map λ| .const _=>true|_=>false) (args.toList.map ρ).toArray:=by
   exact Af5
  generalize RF:args.toList.map ρ=cl at hv he;split at h
  .rename_i x y
   obtain⟨u,v,rfl⟩:∃u v,cl=[u,v]:=by
    exact AgM
   obtain⟨h1,h2⟩:=Xn hv;rw[he];split at h
   .rename_i z hz;simp only[Ba]at h;subst h;simp[Aw]at H4;obtain⟨rfl,rfl⟩:=H4;unfold AKr at hz;split at hz
    .split at hz
     .rename_i hk;subst hk;simp only[Ba]at hz;subst hz;cases h1 with|data _ _ h1=>cases h2 with|data _ _ h2=>
      cases h1;cases h2;exact Ht (Jt.refl m w) hr (.data _ _ (.int _ _))
     .cases hz
    .cases hz
   .cases h
  .cases h
 .rename_i args argTypes;have hv:JT m vs (args.toList.map ρ):=by simpa[C6,Da]using Mi
  have he:(Ca ρ ⟨dst,.call ⟨.builtin .delete,args,argTypes⟩,ty,pos,after,guard⟩)=builtin .delete argTypes ty (args.map λ| .const _=>true|_=>false) (args.toList.map ρ).toArray:=by
   exact Af5
  generalize RF:args.toList.map ρ=cl at hv he;split at h
  .rename_i t t' mp k Pp
   obtain⟨u,v,rfl⟩:∃u v,cl=[u,v]:=by
    exact AgM
   obtain⟨h1,h2⟩:=Xn hv;have yu:argTypes[0]?=some t:=by rw[<- Cq,Pp];rfl
   rw[he];obtain⟨w',g1,g2,g3,rfl⟩:=ACt (P:=P) hr h rfl H4 h1 h2 yu ty
   have:(builtin .delete argTypes ty (args.map λ| .const _=>true|_=>false) [u,v].toArray).run P w=.ok (.value (.tuple #[])) w':=by
    exact Ai5
   exact AkW
  .cases h
 .cases h
def zz{r:PV}{st IK:St}{v:PV}(h:(v,IK)=JV r st):st.next<=IK.next:=by unfold JV at h;split at h<;>(obtain⟨_,rfl⟩:=Prod.mk.inj h)<;>simp[BB]
def R1.vr{a:PV}{v:Bc}(h:R1 m.K a v):VR m a v:=by
 cases h with
 |data _ _ hd=>exact .data _ _ hd
 |agg l l' hl=>exact .agg _ _ hl.vrs
def R1s.vrs{l:LP}{l':LV}(h:R1s m.K l l'):JT m l l':=by
 induction l generalizing l' with
 |nil=>cases h;exact .nil
 |cons a l ih=>cases h with|cons _ v _ l' h1 h2=>exact .cons _ _ _ _ h1.vr (ih h2)
def AFE{st:St}(hr:IQ m st.heap w){f:CE}{fn:Eb}(QU:P.funcs[f]?=some fn)(hb:fn.body.isSome=true)(hn:(fn.name== "runtime.NumGoroutine")=false){vs:LP}{v:PV}{IK:St}{bs:LN}(hc:kK P f vs st v IK bs)
  (hf:∀b,st.next<=b->b<IK.next->st.heap b=none){HW:LV}(Mi:JT m vs HW)(ro:ON):
  OH P ro m w IK.heap v ((DC f HW.toArray).run P w):=by
 obtain⟨args,IC,r,Hs,h1,h2,h3,h4,h5,h6⟩:=hc.ex;have L6:=T0 h2;obtain⟨Bs,g1,g2,g3⟩:=ew hr rfl h3;have Ok:=dP (bs0:=bs) g3 h1 Mi (λi b hb=>by rw[CR];exact hb)
 have AWa:Bs.Nodup:=by
  refine Dn.2 λi j hi hj sS heq=>?_;obtain⟨Bi,a1,a2⟩:=g3 i _ (BZ (show i<bs.length by omega));obtain⟨Bj,a3,a4⟩:=g3 j _ (BZ (show j<bs.length by omega));rw[BZ hi]at a1;rw[BZ hj]at a3;cases a1;cases a3;rw[<- heq]at a4;exact Dn.1 L6 i j AA AA sS (hr.M3 _ _ _ a2 a4 (by obtain⟨cs,hc⟩:=Rn h3 bs[i] (Bl _);rw[hc];exact Na rfl) (by obtain⟨cs,hc⟩:=Rn h3 bs[j] (Bl _);rw[hc];exact Na rfl))
 have Vf:=h5 m.K w Bs HW hr.an g1 AWa Ok;obtain⟨body,mX⟩:=DK.1 hb
 have H4:(DC f HW.toArray).run P w=.ok (.enter f HW.toArray) w:=by
  exact AgL
 rw[H4];intro o a K Q hK;refine⟨λh=>by simp[Fw,Cy]at h,?_⟩;have Wy:E7 (Fw ro) (0-1) P f HW.toArray w (λe w'=>∃K' v,e=.returned v/\xZ m.K w Bs r Hs K' v w'):=Vf;refine Wy.mono ?_;rintro e w' ⟨K',u,rfl,AMG⟩;obtain⟨k1,k2⟩:=hr.AWD AMG g3 g2 (Rn h3) (st:=st) (IK:=IF st bs Hs) rfl rfl L6 h4
 have AF9:(v,IK)=(r,IF st bs Hs)->VR {m with K:=K'} r u->K (a.put o.dst u) w':=by
  intro he hv;obtain⟨rfl,rfl⟩:=Prod.mk.inj he;exact hK _ _ _ k1 k2 hv
 have ZA:(IF st bs Hs).next=st.next:=Mg;have Qx:(v,IK)=((IF st bs Hs).next.casesOn (PV.undef) λ_=>PV.undef,IK)->True:=λ_=>trivial;cases AMG.val with
 |one _ _ iF=>
  refine AF9 ?_ (R1.vr (m:={m with K:=K'}) iF);rw[h6];cases iF with
  |data _ _ hd=>cases hd<;>rfl
  |agg=>rfl
 |tuple l l' hl=>exact AF9 h6 (.tuple _ _ (R1s.vrs (m:={m with K:=K'}) hl))
 |tM e=>
  simp only[JV,CM]at h6;obtain⟨rfl,rfl⟩:=h6
  have Kr:(IF st bs Hs).heap (IF st bs Hs).next=none:=by
   rw[ZA];have:=hf st.next (Bd _) (by simp[BB,ZA]);rw[LC L6 h4];cases hi:bs.idxOf? st.next with
   |none=>exact this
   |some i=>
    exact AgB
  have:=k2.tC Kr e;refine hK _ _ w' k1 (this.congr λx=>?_) (.ai _);simp[BB]
 |Hm G1 B e c ks qc ty Kj hk hR Xm AOx hw N1=>
  simp only[JV,CM]at h6;obtain⟨rfl,rfl⟩:=h6
  have Kr:(IF st bs Hs).heap (IF st bs Hs).next=none:=by
   rw[ZA];have:=hf st.next (Bd _) (by simp[BB,ZA]);rw[LC L6 h4];cases hi:bs.idxOf? st.next with
   |none=>exact this
   |some i=>
    exact AgB
  have ADA:¬J.iI {m with K:=K'} B:=by
   intro hi;have:m.iI B:=hi;have:=hr.AGj this;omega
  obtain⟨q1,q2,q3⟩:=k2.ARb Kr hk Xm hR.len hw rfl ADA;refine hK _ _ w' ⟨k1.le.trans q1,k1.size,k1.kW,λx B' n' e' t' hx=>?_,k1.iM,k1.Kv,k1.os,k1.output,k1.M4,k1.Lj⟩ (q2.congr λx=>rfl) ?_
  .rcases q3 x B' n' e' t' hx with h|rfl
   .exact k1.dA x _ _ _ _ h
   .exact .inr Kj
  .exact .H6 _ G1 B c B G1.length e qc.size AcA Xm (Bd _) (λ_=>⟨rfl,N1⟩) (hR.dr Xm hk (C4 _) AOx)
end
end
section
def Ha(st:St):Prop:=∀b,st.next<=b->st.heap b=none
structure IL (st IK:St):Prop where
 next:st.next<=IK.next
 none:∀b,b<st.next->st.heap b=none->IK.heap b=none
def IL.refl(st:St):IL st st:=⟨Bd _,λ_ _ h=>h⟩
def IL.trans{a b c:St}(h:IL a b)(k:IL b c):IL a c:=⟨CD h.next k.next,λx hx hn=>k.none x (Cw hx h.next) (h.none x hx hn)⟩
structure Xg where
 holds:J->Prop
 ext:∀{m m':J} {w w':World},holds m->Jt m w m' w'->holds m'
def QE(E:Xg)(m:J):Prop:=E.holds m
def QE.le{E:Xg}{m m':J}{w w':World}(h:QE E m)(k:Jt m w m' w'):QE E m':=E.ext h k
def Xg.Lp:Xg:=⟨λ_=>True,λ_ _=>trivial⟩
def SCr(E:Xg)(P:Cc)(f:CE)(args:LP)(st:St)(r:PV)(IK:St):Prop:=
 ∀(m:J) (w:World) (HW:LV),QE E m->IQ m st.heap w->JT m args HW->
  E7 Cy 0 P f HW.toArray w λe w'=>∃m' v,e=.returned v/\Jt m w m' w'/\IQ m' IK.heap w'/\VR m' r v
structure SC (E:Xg) (P:Cc) (f:CE) (args:List PV) (st:St) (r:PV) (IK:St):Prop where
 Ki:IL st IK
 Lq:Ha IK
 AQb:SCr E P f args st r IK
mutual
def Kh (S:Nat->Bool):PV->Bool
 | .G5 b _=>S b
 | .LQ b _=>S b
 | .map b=>S b
 | .H6 b _=>S b
 | .agg l=>Lc S l
 | .tuple l=>Lc S l
 | .fn _ l=>Lc S l
 | .iface _ v=>Kh S v
 |_=>true
def Lc (S:Nat->Bool):List PV->Bool
 |[]=>true
 |a::l=>Kh S a&&Lc S l
end
def jR(S:Nat->Bool)(m:J):J:={m with box:=λb=>if S b=true then m.box b else none,Hm:=λb=>if S b=true then m.Hm b else none}
section
variable{S:Nat->Bool} {m:J} {h:HO} {w:World}
mutual
def VR.IY {a:PV} {v:Bc}:VR m a v->Kh S a=true->VR (jR S m) a v
 | .UO v,_=> .UO v
 | .data a v hd,_=> .data a v hd
 | .nil,_=> .nil
 | .ai b,_=> .ai b
 | .H6 b G1 B0 c B n e t ho h0 hn ht hd,hs=> .H6 b G1 B0 c B n e t (by
  have:S b=true:=by simpa[Kh]using hs
  simp only[jR,this,if_true];exact ho) h0 hn ht hd
 | .LQ b n B c hb hc hz,hs=> .LQ b n B c (by
  have:S b=true:=by simpa[Kh]using hs
  simp only[jR,this,if_true];exact hb) hc hz
 | .G5 b o B hb,hs=> .G5 b o B (by
  have:S b=true:=by simpa[Kh]using hs
  simp only[jR,this,if_true];exact hb)
 | .M8 Gy o B Iw ks hk hl hd,_=> .M8 Gy o B Iw ks hk hl hd
 | .agg l l' hl,hs=> .agg l l' (JT.IY hl AcB)
 | .tuple l l' hl,hs=> .tuple l l' (JT.IY hl AcB)
 | .RC,_=> .RC
 | .map b B hb,hs=> .map b B (by
  have:S b=true:=by simpa[Kh]using hs
  simp only[jR,this,if_true];exact hb)
 | .je,_=> .je
 | .fn f l l' hl,hs=> .fn f l l' (JT.IY hl AcB)
 | .nfn,_=> .nfn
 | .yield L,_=> .yield L
 | .iface t a v hv,hs=> .iface t a v (VR.IY hv AcB)
 | .VE,_=> .VE
def JT.IY {l:List PV} {l':List Bc}:JT m l l'->Lc S l=true->JT (jR S m) l l'
 | .nil,_=> .nil
 | .cons a v l l' h1 h2,hs=> .cons a v l l' (VR.IY h1 (by simp only[Lc,Bk]at hs;exact hs.1)) (JT.IY h2 (by simp only[Lc,Bk]at hs;exact hs.2))
end
def Obj.Kh(S:Nat->Bool):Obj->Bool
 | .box cs=>Lc S cs
 | .LM _ cs=>Lc S cs
 |_=>true
def tU(S:Nat->Bool)(h:HO):HO:=λb=>if S b=true then h b else none
def XD{b B:Nat}(hb:(jR S m).box b=some B):S b=true/\m.box b=some B:=by simp only[jR]at hb;exact Ahk
def ZG{b:Nat}{x:Nat×Nat×Nat×Nat}(hb:(jR S m).Hm b=some x):S b=true/\m.Hm b=some x:=by simp only[jR]at hb;exact Ahk
def qQ{b:Nat}{o:Obj}(hb:tU S h b=some o):S b=true/\h b=some o:=by simp only[tU]at hb;exact Ahk
def IQ.IY(hr:IQ m h w)(hc:∀b o,S b=true->h b=some o->o.Kh S=true):IQ (jR S m) (tU S h) w:=by
 refine⟨λb o hb=>?_,hr.Lj,λb n e hb=>?_,hr.an,λb B hb=>?_,λb x hb=>?_,λb b' B hb Py d d'=>?_,λb b' B n e t n' e' t' hb Py=>?_,λb B hb d=>?_,λb B hb=>hr.blt b B (XD hb).2⟩
 .obtain⟨hs,ho⟩:=qQ hb;have hrf:=hc b o hs ho;have:=hr.PX b o ho;cases o with
  |box cs=>
   obtain⟨B,vs,ty,h1,h2,h3⟩:=this;exact⟨B,vs,ty,by simp only[jR,hs,if_true];exact h1,h2,h3.IY hrf⟩
  |LM e cs=>
   obtain⟨B,vs,ty,h1,h0,h2,h3⟩:=this;exact⟨B,vs,ty,by simp only[jR,hs,if_true];exact h1,h0,h2,h3.IY hrf⟩
  |map l=>
   obtain⟨B,es,c,h1,h2,h3⟩:=this;exact⟨B,es,c,by simp only[jR,hs,if_true];exact h1,h2,h3⟩
  |Hm _ _=>trivial
  |NY=>trivial
 .obtain⟨hs,ho⟩:=qQ hb;rcases hr.Hm b n e ho with⟨h1,h2⟩|⟨h0,B,t,h1,h2⟩
  .exact .inl ⟨h1,by simp only[jR,hs,if_true];exact h2⟩
  .exact .inr ⟨h0,B,t,by simp only[jR,hs,if_true];exact h1,h2⟩
 .obtain⟨hs,hb⟩:=XD hb;obtain⟨o,h1,h2⟩:=hr.Se b B hb;exact⟨o,by simp only[tU,hs,if_true];exact h1,h2⟩
 .obtain⟨hs,hb⟩:=ZG hb;obtain⟨n,e,h1⟩:=hr.TR b x hb;exact⟨n,e,by simp only[tU,hs,if_true];exact h1⟩
 .obtain⟨hs,hb⟩:=XD hb;obtain⟨vj,Py⟩:=XD Py;simp only[tU,hs,vj,if_true]at d d';exact hr.M3 b b' B hb Py d d'
 .exact hr.Nz b b' B n e t n' e' t' (ZG hb).2 (ZG Py).2
 .obtain⟨hs,hb⟩:=XD hb;simp only[tU,hs,if_true]at d;exact hr.bK b B hb d
def No(hr:IQ m h w){T:Nat->Bool}(hST:∀b,S b=true->T b=true)(pd:∀b,S b=true->∃o,h b=some o/\o.ZF=false)(hTn:∀b,T b=true->S b=false->h b=none)
  {m1:J}{w':World}{h1:HO}(he:Jt (jR S m) w m1 w')(VJ:IQ m1 h1 w')(hT:∀b,T b=false->h1 b=none):
  ∃m2,Jt m w m2 w'/\IQ m2 (λb=>if T b=true then h1 b else h b) w'/\m1.le m2:=by
 have pW:∀b,S b=true->h b≠some .NY:=λb hb=>by
  obtain⟨o,h2,h3⟩:=pd b hb;rw[h2];exact Na h3
 have MR:∀b,T b=false->m1.box b=none:=λb hb=>VJ.T2 (hT b hb);have ho1:∀b,T b=false->m1.Hm b=none:=λb hb=>VJ.mA (hT b hb);let m2:J:={m1 with box:=λb=>if T b=true then m1.box b else m.box b,Hm:=λb=>if T b=true then m1.Hm b else m.Hm b,ia:=λb=>if T b=true then m1.ia b else m.ia b}
 have cb:∀b B,m2.box b=some B->(T b=true/\m1.box b=some B)\/(T b=false/\m.box b=some B):=by
  intro b B hb;have hb:(if T b=true then m1.box b else m.box b)=some B:=hb;exact AhJ
 have co:∀b x,m2.Hm b=some x->(T b=true/\m1.Hm b=some x)\/(T b=false/\m.Hm b=some x):=by
  intro b B hb;have hb:(if T b=true then m1.Hm b else m.Hm b)=some B:=hb;exact AhJ
 have l1:m1.le m2:=by
  refine⟨λb B hb=>?_,bB.refl _,λb B n e t hb=>⟨B,n,t,?_,Bd _,λ_=>⟨rfl,rfl⟩⟩,λb B hb=>?_⟩
  .by_cases c:T b=true
   .exact AkP
   .rw[MR b Abr]at hb;cases hb
  .by_cases c:T b=true
   .exact AkP
   .rw[ho1 b Abr]at hb;cases hb
  .by_cases c:T b=true
   .show(if _ then _ else _)=_;rw[Ps c]
   .rw[MR b Abr]at hb;cases hb
 have hTS:∀b,T b=true->h b≠none->S b=true:=λb hb hn=>by
  by_cases c:S b=true
  .exact c
  .exact Zq (hTn b hb Abr) hn
 have ARe:∀b B,m.box b=some B->T b=true->(jR S m).box b=some B:=λb B hb ht=>by
  obtain⟨o,h2,_⟩:=hr.Se b B hb;exact Aiw
 have AYg:∀b x,m.Hm b=some x->T b=true->(jR S m).Hm b=some x:=λb x hb ht=>by
  obtain⟨n,e,h2⟩:=hr.TR b x hb;exact Aiw
 have l2:m.le m2:=by
  refine⟨λb B hb=>?_,he.le.K,λb B n e t hb=>?_,λb B hb=>?_⟩
  .show(if _ then _ else _)=_;by_cases c:T b=true
   .rw[Ps c];exact he.le.box b B (ARe b B hb c)
   .rw[Ng c];exact hb
  .show∃B' n' t',(if T b=true then m1.Hm b else m.Hm b)=some (B',n',e,t')/\n<=n'/\(n'=n->B'=B/\t'=t);by_cases c:T b=true
   .rw[Ps c];exact he.le.Hm b B n e t (AYg b _ hb c)
   .rw[Ng c];exact⟨B,n,t,hb,Bd _,λ_=>⟨rfl,rfl⟩⟩
  .show(if _ then _ else _)=_;by_cases c:T b=true
   .rw[Ps c];exact he.le.ia b B (ARe b B hb c)
   .rw[Ng c]
 have APq:∀b B,S b=false->m.box b=some B->h b≠some .NY->¬(jR S m).iI B:=by
  rintro b B hs hb hd (⟨b0,h0⟩|⟨b0,n,e,t,h0⟩)
  .obtain⟨s0,h0⟩:=XD h0;have:=hr.M3 b0 b B h0 hb (pW b0 s0) hd;rw[this,hs]at s0;cases s0
  .obtain⟨_,h0⟩:=ZG h0;obtain⟨n',e',h2⟩:=hr.TR b0 _ h0;rcases hr.Hm b0 n' e' h2 with⟨_,h3⟩|⟨_,B2,t2,h3,ks,h4,_⟩
   .rw[h0]at h3;cases h3
   .rw[h0]at h3;cases h3;rw[hr.bK b _ hb hd]at h4;cases h4
 have AUT:∀b B n e t,S b=false->m.Hm b=some (B,n,e,t)->¬(jR S m).iI B:=by
  rintro b B n e t hs hb (⟨b0,h0⟩|⟨b0,n0,e0,t0,h0⟩)
  .obtain⟨s0,h0⟩:=XD h0;obtain⟨n',e',h2⟩:=hr.TR b _ hb;rcases hr.Hm b n' e' h2 with⟨_,h3⟩|⟨_,B2,t2,h3,ks,h4,_⟩
   .rw[hb]at h3;cases h3
   .rw[hb]at h3;cases h3;rw[hr.bK b0 _ h0 (pW b0 s0)]at h4;cases h4
  .obtain⟨s0,h0⟩:=ZG h0;have:=hr.Nz b0 b B _ _ _ _ _ _ h0 hb;rw[this,hs]at s0;cases s0
 have AGw:∀b,T b=false->S b=false:=λb hb=>by
  by_cases c:S b=true
  .rw[hST b c]at hb;cases hb
  .simpa using c
 refine⟨m2,⟨l2,he.size,λb B hb=>?_,λb B n e t hb=>?_,λB ks hk=>?_,λB hB hn=>he.Kv B hB λhi=>hn ?_,he.os,he.output,he.M4,he.Lj⟩,
  ⟨λb o hb=>?_,VJ.Lj,λb n e hb=>?_,VJ.an,λb B hb=>?_,λb x hb=>?_,λb b' B hb Py d d'=>?_,λb b' B n e t n' e' t' hb Py=>?_,λb B hb d=>?_,λb B hb=>?_⟩,l1⟩
 .rcases cb b B hb with⟨_,hb⟩|⟨_,hb⟩
  .rcases he.kW b B hb with⟨b0,h0⟩|h0
   .exact .inl ⟨b0,(XD h0).2⟩
   .exact .inr h0
  .exact .inl ⟨b,hb⟩
 .rcases co b _ hb with⟨_,hb⟩|⟨_,hb⟩
  .rcases he.dA b B n e t hb with⟨b0,n0,e0,t0,h0⟩|h0
   .exact .inl ⟨b0,n0,e0,t0,(ZG h0).2⟩
   .exact .inr h0
  .exact .inl ⟨b,n,e,t,hb⟩
 .rcases he.iM B ks hk with⟨b0,n0,e0,t0,h0⟩|h0
  .exact .inl ⟨b0,n0,e0,t0,(ZG h0).2⟩
  .exact .inr h0
 .rcases hi with⟨b0,h0⟩|⟨b0,n0,e0,t0,h0⟩
  .exact .inl ⟨b0,(XD h0).2⟩
  .exact .inr ⟨b0,n0,e0,t0,(ZG h0).2⟩
 .by_cases c:T b=true
  .rw[Ps c]at hb;exact(VJ.PX b o hb).Ir l1 λ_ _ _=>rfl
  .rw[Ng c]at hb;have c:T b=false:=by simpa using c
   exact(hr.PX b o hb).Ir l2 λhd B hB=>he.Kv B (hr.blt b B hB) (APq b B (AGw b c) hB (by rw[hb];exact Na hd))
 .by_cases c:T b=true
  .rw[Ps c]at hb;rcases VJ.Hm b n e hb with⟨h2,h3⟩|⟨h0,B,t,h2,h3⟩
   .exact .inl ⟨h2,by show(if _ then _ else _)=_;rw[Ps c];exact h3⟩
   .exact .inr ⟨h0,B,t,by show(if _ then _ else _)=_;rw[Ps c];exact h2,h3⟩
  .rw[Ng c]at hb;have c':T b=false:=by simpa using c
   rcases hr.Hm b n e hb with⟨h2,h3⟩|⟨h0,B,t,h2,ks,h3,h4,vs,ty,h5,h6⟩
   .exact .inl ⟨h2,by show(if _ then _ else _)=_;rw[Ng c];exact h3⟩
   .have ZB:=AUT b B n e t (AGw b c') h2;obtain⟨XE,k1,k2⟩:=he.le.K B ks h3
    have:XE=ks:=by
     rcases he.iM B XE k1 with⟨b0,n0,e0,t0,g0⟩|g0|g0
     .exact Zq (.inr ⟨b0,n0,e0,t0,g0⟩) ZB
     .have g0:m.K B=some XE:=g0;rw[h3]at g0;cases g0;rfl
     .have:=hr.XG h2;omega
    subst this;exact .inr ⟨h0,B,t,by show(if _ then _ else _)=_;rw[Ng c];exact h2,_,k1,h4,vs,ty,(he.Kv B (hr.XG h2) ZB).trans h5,h6⟩
 .rcases cb b B hb with⟨c,hb⟩|⟨c,hb⟩
  .obtain⟨o,h2⟩:=VJ.Se b B hb;exact⟨o,by simp only[c,if_true];exact h2⟩
  .obtain⟨o,h2⟩:=hr.Se b B hb;exact⟨o,by simp only[c];exact h2⟩
 .rcases co b x hb with⟨c,hb⟩|⟨c,hb⟩
  .obtain⟨n,e,h2⟩:=VJ.TR b x hb;exact⟨n,e,by simp only[c,if_true];exact h2⟩
  .obtain⟨n,e,h2⟩:=hr.TR b x hb;exact⟨n,e,by simp only[c];exact h2⟩
 .have wM:∀b b',T b=true->m1.box b=some B->T b'=false->m.box b'=some B->h b'≠some .NY->False:=by
   intro b b' _ k1 c' k2 d';rcases he.kW b B k1 with⟨b0,h0⟩|h0
   .exact APq b' B (AGw b' c') k2 d' (.inl ⟨b0,h0⟩)
   .have:=hr.blt b' B k2;omega
  rcases cb b B hb with⟨c,hb⟩|⟨c,hb⟩<;>rcases cb b' B Py with⟨c',Py⟩|⟨c',Py⟩
  .simp only[c,c',if_true]at d d';exact VJ.M3 b b' B hb Py d d'
  .simp only[c',Ch,if_false]at d';exact(wM b b' c hb c' Py d').elim
  .simp only[c,Ch,if_false]at d;exact(wM b' b c' Py c hb d).elim
  .simp only[c,c',Ch,if_false]at d d';exact hr.M3 b b' B hb Py d d'
 .have wM:∀{b b' n e t n' e' t'},m1.Hm b=some (B,n,e,t)->T b'=false->m.Hm b'=some (B,n',e',t')->False:=by
   intro b b' n e t n' e' t' k1 c' k2;rcases he.dA b B n e t k1 with⟨b0,n0,e0,t0,h0⟩|h0
   .exact AUT b' B n' e' t' (AGw b' c') k2 (.inr ⟨b0,n0,e0,t0,h0⟩)
   .have:=hr.XG k2;omega
  rcases co b _ hb with⟨c,hb⟩|⟨c,hb⟩<;>rcases co b' _ Py with⟨c',Py⟩|⟨c',Py⟩
  .exact VJ.Nz b b' B _ _ _ _ _ _ hb Py
  .exact(wM hb c' Py).elim
  .exact(wM Py c hb).elim
  .exact hr.Nz b b' B _ _ _ _ _ _ hb Py
 .rcases cb b B hb with⟨c,hb⟩|⟨c,hb⟩
  .simp only[c,if_true]at d;exact VJ.bK b B hb d
  .simp only[c,Ch,if_false]at d;have hk:=hr.bK b B hb d;show m1.K B=none;cases Mv:m1.K B with
   |none=>rfl
   |some ks=>
    rcases he.iM B ks Mv with⟨b0,n0,e0,t0,h0⟩|h0|h0
    .exact Zq (.inr ⟨b0,n0,e0,t0,h0⟩) (APq b B (AGw b c) hb d)
    .have h0:m.K B=some ks:=h0;rw[hk]at h0;cases h0
    .have:=hr.blt b B hb;omega
 .rcases cb b B hb with⟨c,hb⟩|⟨c,hb⟩
  .exact VJ.blt b B hb
  .exact Cw (hr.blt b B hb) he.size
end
def IY(st:St)(fp:LN):St:={heap:=tU (λb=>fp.contains b) st.heap,next:=st.next}
def nH(st:St)(fp:LN)(s0:St)(b:Nat):Bool:=fp.contains b||(Ct st.next b&&C5 b s0.next)
def PR(st:St)(fp:LN)(s0:St):St:={heap:=λb=>if nH st fp s0 b=true then s0.heap b else st.heap b,next:=s0.next}
def uF(st:St)(fp:LN):Prop:=∀b,b∈fp->b<st.next/\∃o,st.heap b=some o/\o.ZF=false/\o.Kh (λb=>fp.contains b)=true
section
variable{E:Xg} {P:Program} {f:FuncId} {args:LP} {st s0 IK:St} {r:PV} {fp:LN}
def Pj{b:Nat}(hb:b∈fp):(IY st fp).heap b=st.heap b:=by show(if fp.contains b=true then _ else _)=_;rw[Ps AW]
def bZ{b:Nat}(hb:b∉fp):(IY st fp).heap b=none:=by show(if fp.contains b=true then _ else _)=_;rw[Ng AW]
def RU{b:Nat}(hb:b∈fp\/(st.next<=b/\b<s0.next)):(PR st fp s0).heap b=s0.heap b:=by
 show(if nH st fp s0 b=true then _ else _)=_;rw[Ps];unfold nH;rcases hb with h|⟨h1,h2⟩
 .simp[h]
 .simp[C5,h1];omega
def NB{b:Nat}(hb:b∉fp)(hn:¬(st.next<=b/\b<s0.next)):(PR st fp s0).heap b=st.heap b:=by show(if nH st fp s0 b=true then _ else _)=_;rw[Ng];unfold nH;simp[C5,hb];intro h1;omega
def Ha.IY(h:Ha st):Ha (IY st fp):=λb hb=>by
 show(if _ then _ else _)=_;split
 .exact h b hb
 .rfl
def Vq{b:Nat}:nH st fp s0 b=true<->b∈fp\/(st.next<=b/\b<s0.next):=by unfold nH;simp only[DU,Bk,List.contains_eq_mem,decide_eq_true_eq,C5,Nat.ble_eq];exact Iff.rfl
def SC.lz(hEr:∀S m,E.holds m->E.holds (jR S m))(h:SC E P f args (IY st fp) r s0)(Ok:Lc (λb=>fp.contains b) args=true)(Xr:uF st fp)(hf:∀b,st.next<=b->b<s0.next->st.heap b=none):SCr E P f args st r (PR st fp s0):=by
 have Vh:∀b,nH st fp s0 b=false->s0.heap b=none:=λb hb=>by
  have hb:¬(b∈fp\/(st.next<=b/\b<s0.next)):=λh=>by rw[Vq.2 h]at hb;cases hb
  by_cases c:b<st.next
  .exact h.Ki.none b c (bZ λhm=>hb (.inl hm))
  .exact h.Lq b (by
    have:¬b<s0.next:=λh2=>hb (.inr ⟨AA,h2⟩);omega)
 intro m w HW hE hr hv
 .have hrR:=hr.IY (S:=λb=>fp.contains b) (λb o hs ho=>by
   obtain⟨_,o',h1,_,h3⟩:=Xr b (by simpa using hs);rw[ho]at h1;cases h1;exact h3)
  refine(h.AQb (jR (λb=>fp.contains b) m) w HW (hEr _ _ hE) hrR (hv.IY Ok)).mono ?_;rintro e w' ⟨m1,v,rfl,he,VJ,hv1⟩
  obtain⟨m2,k1,k2,k3⟩:=Go.Vi.No hr (T:=nH st fp s0) (λb hb=>Vq.2 (.inl AW)) (λb hb=>by
   obtain⟨_,o,h1,h2,_⟩:=Xr b AW
   exact⟨o,h1,h2⟩) (λb hb hs=>by
    rcases Vq.1 hb with h1|h1
    .simp[h1]at hs
    .exact hf b h1.1 h1.2) he VJ Vh
  exact⟨m2,v,rfl,k1,k2,hv1.mono k3⟩
def SC.No(hEr:∀S m,E.holds m->E.holds (jR S m))(h:SC E P f args (IY st fp) r s0)(Ok:Lc (λb=>fp.contains b) args=true)(Xr:uF st fp)(hf:Ha st):SC E P f args st r (PR st fp s0):=by
 refine⟨⟨h.Ki.next,λb hb hn=>?_⟩,λb hb=>?_,h.lz hEr Ok Xr λb hb _=>hf b hb⟩
 .by_cases c:b∈fp
  .obtain⟨_,o,h1,_⟩:=Xr b c;rw[hn]at h1;cases h1
  .rw[NB c AA];exact hn
 .have hb:s0.next<=b:=hb;have h1:st.next<=s0.next:=h.Ki.next;exact Air
def WkL(vs args:LP):Prop:=∀(m:J) (l:LV),JT m vs l->JT m args l
def WkL.refl(l:LP):WkL l l:=λ_ _ h=>h
def WkL.cons{a a':PV}{l l':LP}(h1:∀m v,VR m a v->VR m a' v)(h2:WkL l l'):WkL (a::l) (a'::l'):=λm k h=>by
 cases h with|cons _ v _ k h3 h4=>exact .cons _ _ _ _ (h1 m v h3) (h2 m k h4)
def Q9(a:PV):∀m v,VR m a v->VR m a v:=λ_ _ h=>h
def fg{a x:PV}(h:a.data=some x):∀m v,VR m a v->VR m x v:=λ_ _ hv=> .data _ _ (hv.UJ h)
def SCr.Im{vs:LP}(h:SCr E P f args st r IK)(hw:WkL vs args):SCr E P f vs st r IK:=λm w HW hE hr hv=>h m w HW hE hr (hw m HW hv)
def SC.Im{vs:LP}(h:SC E P f args st r IK)(hw:WkL vs args):SC E P f vs st r IK:=⟨h.Ki,h.Lq,λm w HW hE hr hv=>h.AQb m w HW hE hr (hw m HW hv)⟩
structure uC (E:Xg) (P:Cc) (f:CE) (vs:List PV) (st:St) (v:PV) (IK:St) (fp:List Nat):Prop where
 mk::
 ex:∃args s0,(∀S m,E.holds m->E.holds (jR S m))/\WkL vs args/\Lc (λb=>fp.contains b) args=true/\SC E P f args (IY st fp) v s0/\uF st fp/\IK=PR st fp s0
end
def ACT(m:J)(w:World)(st:St)(Q:PV->St->Prop)(e:Ending)(w':World):Prop:=∃m' v r IK,e=.returned v/\Jt m w m' w'/\IQ m' IK.heap w'/\VR m' r v/\IL st IK/\Ha IK/\Q r IK
def SW(E:Xg)(P:Cc)(f:CE)(args:LP)(st:St)(Q:PV->St->Prop):Prop:=∀(m:J) (w:World) (HW:LV),QE E m->IQ m st.heap w->JT m args HW->E7 Cy 0 P f HW.toArray w (ACT m w st Q)
def YW(E:Xg)(P:Cc)(L:Nat)(args:LP)(st:St)(Q:PV->St->Prop):Prop:=
 ∀(m:J) (w:World) (HW:LV),QE E m->IQ m st.heap w->JT m args HW->∃l:Loop,w.heap[L]?=some (.loop l)/\HW.length=l.params.size/\
  RoundIn Cy 0 P L l.fn ((l.params.zip HW.toArray).foldl (λtmps (t,a)=>tmps.setIfInBounds t a) l.tmps) l.assign l.body w (ACT m w st Q)
def SC.AUo{E:Xg}{P:Cc}{f:CE}{args:LP}{st IK:St}{r:PV}(h:SW E P f args st λr' s'=>r'=r/\s'=IK)(hg:IL st IK)(hf:Ha IK):SC E P f args st r IK:=⟨hg,hf,λm w HW hE hr hv=>(h m w HW hE hr hv).mono λe w' ⟨m',v,r',s',h1,h2,h3,h4,_,_,h7,h8⟩=>⟨m',v,h1,h2,by rw[<- h8];exact h3,by rw[<- h7];exact h4⟩⟩
def SC.sw{E:Xg}{P:Cc}{f:CE}{args:LP}{st IK:St}{r:PV}(h:SC E P f args st r IK){Q:PV->St->Prop}(hQ:Q r IK):SW E P f args st Q:=λm w HW hE hr hv=>
 (h.AQb m w HW hE hr hv).mono λe w' ⟨m',v,h1,h2,h3,h4⟩=>⟨m',v,r,IK,h1,h2,h3,h4,h.Ki,h.Lq,hQ⟩
def SW.mono{E:Xg}{P:Cc}{f:CE}{args:LP}{st:St}{Q Q':PV->St->Prop}(h:SW E P f args st Q)(hQ:∀r s,Q r s->Q' r s):SW E P f args st Q':=λm w HW hE hr hv=>
 (h m w HW hE hr hv).mono λe w' ⟨m',v,r,s,h1,h2,h3,h4,h5,h6,h7⟩=>⟨m',v,r,s,h1,h2,h3,h4,h5,h6,hQ r s h7⟩
def SW.Im{E:Xg}{P:Cc}{f:CE}{args vs:LP}{st:St}{Q:PV->St->Prop}(h:SW E P f args st Q)(hw:WkL vs args):SW E P f vs st Q:=λm w HW hE hr hv=>h m w HW hE hr (hw m HW hv)
def SW.No{E:Xg}{P:Cc}{f:CE}{args:LP}{st:St}{fp:LN}{Q:PV->St->Prop}(hEr:∀S m,E.holds m->E.holds (jR S m))(h:SW E P f args (IY st fp) Q)(Ok:Lc (λb=>fp.contains b) args=true)(Xr:uF st fp)(hf:Ha st):
  SW E P f args st λr s'=>∃s0,Q r s0/\st.next<=s0.next/\Ha s0/\s'=PR st fp s0:=by
 intro m w HW hE hr hv
 have hrR:=hr.IY (S:=λb=>fp.contains b) (λb o hs ho=>by
  obtain⟨_,o',h1,_,h3⟩:=Xr b (by simpa using hs);rw[ho]at h1;cases h1;exact h3)
 refine(h (jR (λb=>fp.contains b) m) w HW (hEr _ _ hE) hrR (hv.IY Ok)).mono ?_;rintro e w' ⟨m1,v,r,s0,rfl,he,VJ,hv1,hg,Kr,hq⟩
 have Vh:∀b,nH st fp s0 b=false->s0.heap b=none:=λb hb=>by
  have hb:¬(b∈fp\/(st.next<=b/\b<s0.next)):=λh=>by rw[Vq.2 h]at hb;cases hb
  by_cases c:b<st.next
  .exact hg.none b c (bZ λhm=>hb (.inl hm))
  .exact Kr b (by
    have:¬b<s0.next:=λh2=>hb (.inr ⟨AA,h2⟩);omega)
 obtain⟨m2,k1,k2,k3⟩:=Go.Vi.No hr (T:=nH st fp s0) (λb hb=>Vq.2 (.inl AW)) (λb hb=>by
  obtain⟨_,o,h1,h2,_⟩:=Xr b AW
  exact⟨o,h1,h2⟩) (λb hb hs=>by
   rcases Vq.1 hb with h1|h1
   .simp[h1]at hs
   .exact hf b h1.1) he VJ Vh
 have hn:st.next<=s0.next:=hg.next;refine⟨m2,v,r,PR st fp s0,rfl,k1,k2,hv1.mono k3,⟨hn,λb hb hh=>?_⟩,λb hb=>?_,s0,hq,hn,Kr,rfl⟩
 .by_cases c:b∈fp
  .obtain⟨_,o,h1,_⟩:=Xr b c;rw[hh]at h1;cases h1
  .rw[NB c AA];exact hh
 .have hb:s0.next<=b:=hb;exact Air
section
variable{E:Xg} {P:Program} {m:J} {w:World} {st IK:St} {v:PV}
open Go.Ab (Fw)
def uJ(P:Cc)(ro:ON)(m:J)(w:World)(st:St)(Q:PV->St->Prop)(r:Result Fm):Prop:=
 ∀(o:CI) (a:Act) (K:Act->World->Prop) (Q':QX),
  (∀m' v' w' y IK,Jt m w m' w'->IQ m' IK.heap w'->VR m' y v'->IL st IK->Ha IK->Q y IK->K (a.put o.dst v') w')->o.uponIn (Fw ro) 0 P a K Q' r
def AQf(hE:QE E m)(hr:IQ m st.heap w){f:CE}{fn:Eb}(QU:P.funcs[f]?=some fn)(hb:fn.body.isSome=true)(hn:(fn.name== "runtime.NumGoroutine")=false){vs:LP}(hc:SCr E P f vs st v IK)
  {HW:LV}(Mi:JT m vs HW)(ro:ON):OH P ro m w IK.heap v ((DC f HW.toArray).run P w):=by
 obtain⟨body,mX⟩:=DK.1 hb
 have H4:(DC f HW.toArray).run P w=.ok (.enter f HW.toArray) w:=by
  exact AgL
 rw[H4];intro o a K Q hK;refine⟨λh=>by simp[Fw,Cy]at h,?_⟩;have Wy:E7 (Fw ro) (0-1) P f HW.toArray w (λe w'=>∃m' v',e=.returned v'/\Jt m w m' w'/\IQ m' IK.heap w'/\VR m' v v'):=hc m w HW hE hr Mi;refine Wy.mono ?_;exact AhO
def ig(hE:QE E m)(hr:IQ m st.heap w){f:CE}{fn:Eb}(QU:P.funcs[f]?=some fn)(hb:fn.body.isSome=true)(hn:(fn.name== "runtime.NumGoroutine")=false){vs:LP}{Q:PV->St->Prop}(hc:SW E P f vs st Q)
  {HW:LV}(Mi:JT m vs HW)(ro:ON):uJ P ro m w st Q ((DC f HW.toArray).run P w):=by
 obtain⟨body,mX⟩:=DK.1 hb
 have H4:(DC f HW.toArray).run P w=.ok (.enter f HW.toArray) w:=by
  exact AgL
 rw[H4];intro o a K Q' hK;refine⟨λh=>by simp[Fw,Cy]at h,?_⟩;have Wy:E7 (Fw ro) (0-1) P f HW.toArray w (ACT m w st Q):=hc m w HW hE hr Mi;refine Wy.mono ?_;rintro e w' ⟨m',v',y,s',rfl,h1,h2,h3,h4,h5,h6⟩;exact hK _ _ _ y s' h1 h2 h3 h4 h5 h6
def AEP(hE:QE E m)(hr:IQ m st.heap w){L:Nat}{vs:LP}{Q:PV->St->Prop}(hc:YW E P L vs st Q){HW:LV}(Mi:JT m vs HW)(ro:ON):
  uJ P ro m w st Q ((do let d<-CQ (.func (.yield L) #[] #[]) HW.toArray;invoke d.target d.args:Sem Fm).run P w):=by
 obtain⟨r,h1,h2,h3⟩:=hc m w HW hE hr Mi;have JU:(FM L).run P w=.ok (.loop r) w:=by simp[FM,Em,h1]
 have H4:(do let d<-CQ (.func (.yield L) #[] #[]) HW.toArray;invoke d.target d.args:Sem Fm).run P w=
   .ok (.round L r.fn ((r.params.zip HW.toArray).foldl (λtmps (t,a)=>tmps.setIfInBounds t a) r.tmps) r.assign r.body) w:=by
  exact Ag4
 rw[H4];intro o a K Q' hK;refine⟨λh=>by simp[Fw,Cy]at h,?_⟩;have h':RoundIn (Fw ro) (0-1) P L r.fn ((r.params.zip HW.toArray).foldl (λtmps (t,a)=>tmps.setIfInBounds t a) r.tmps) r.assign r.body w (ACT m w st Q):=h3;refine h'.mono ?_;rintro e w' ⟨m',v',y,s',rfl,k1,k2,k3,k4,k5,k6⟩;exact hK _ _ _ y s' k1 k2 k3 k4 k5 k6
def AIZ(E:Xg)(P:Cc)(vs:LP)(st:St)(Q:PV->St->Prop):Prop:=(∃g Xh args fn,vs=.fn g Xh::args/\P.funcs[g]?=some fn/\fn.body.isSome=true/\(fn.name== "runtime.NumGoroutine")=false/\SW E P g (args++Xh) st Q)\/∃L args,vs=.yield L::args/\YW E P L args st Q
def AJk(hE:QE E m)(hr:IQ m st.heap w){vs:LP}{Q:PV->St->Prop}(hc:AIZ E P vs st Q){fv:Bc}{HW:LV}(Mi:JT m vs (fv::HW))(ro:ON):
  uJ P ro m w st Q ((do let d<-CQ fv HW.toArray;invoke d.target d.args:Sem Fm).run P w):=by
 rcases hc with⟨g,Xh,args,fn,rfl,h1,h2,h3,h4⟩|⟨L,args,rfl,h4⟩
 .cases Mi with|cons _ _ _ _ hf ha=>
  cases hf with
  |data _ _ hd=>cases hd
  |fn _ _ cs Jw=>
   have H4:(do let d<-CQ (.func (.func g) #[] cs.toArray) HW.toArray;invoke d.target d.args:Sem Fm).run P w=(DC g (HW++cs).toArray).run P w:=by
    simp only[CQ,pure_bind,invoke];simp
   rw[H4];exact ig hE hr h1 h2 h3 h4 (ha.append Jw) ro
 .cases Mi with|cons _ _ _ _ hf ha=>
  cases hf with
  |data _ _ hd=>cases hd
  |yield=>exact AEP hE hr h4 ha ro
def qn(E:Xg)(P:Cc)(name:String)(vs:LP)(st:St)(Q:PV->St->Prop):Prop:=
 ∃t x args g fn pr el rv,vs=.iface t x::args/\Go.Ab.Rr P t name=some (g,pr,el)/\P.funcs[g]?=some fn/\fn.body.isSome=true/\(fn.name== "runtime.NumGoroutine")=false/\
  (match pr,el with
   |true,some _=>rv=x
   |false,none=>rv=x
   |false,some e=>∃q,m8 P e x=some q/\q.run st=some (rv,st)
   |true,none=>False)/\SW E P g (rv::args) st Q
def AKb(hE:QE E m)(hr:IQ m st.heap w){name:String}{vs:LP}{Q:PV->St->Prop}(hc:qn E P name vs st Q){rv:Bc}{HW:LV}(Mi:JT m vs (rv::HW))(ro:ON):
  uJ P ro m w st Q ((Ea rv name HW.toArray).run P w):=by
 obtain⟨t,x,args,g,fn,pr,el,rx,rfl,hm,h1,h2,h3,hrx,h4⟩:=hc;cases Mi with|cons _ _ _ _ hf ha=>
 cases hf with
 |data _ _ hd=>cases hd
 |iface _ _ u hu=>
  have Yy:∀rv',(Go.receiverAt t (.val u) pr (some ((name.splitOn ".").getLastD name))).run P w=.ok rv' w->
    (Ea (.iface t u) name HW.toArray).run P w=(DC g (rv'::HW).toArray).run P w:=by
   intro rv' APZ;obtain⟨i,mt,hi,tw,hp,QU,_⟩:=Go.Ab.RV hm
   have au:mt.path.toList=[]:=by
    exact AkN
   have Yy:(Go.method (P.types.size+Made.depth) t u name).run P w=.ok (g,rv') w:=by
    exact Af3
   exact Ajd
  obtain⟨_,_,_,_,_,_,d,hd,hcd⟩:=Go.Ab.RV hm;cases pr with
  |true=>
   cases el with
   |none=>exact hrx.elim
   |some e=>
    subst hrx;obtain⟨e',rfl,_⟩:=hcd.resolve_right Abq;rw[Yy u Acz];exact Ajn
  |false=>
   cases el with
   |none=>
    subst hrx;obtain⟨RT,_⟩:=hcd.resolve_left AdE
    rw[Yy u (by
     simp only[FX,Bh,Bb hd,Result.andThen_ok];cases d<;>first|(exact Zq rfl (RT _))|rfl)]
    exact Ajn
   |some e=>
    obtain⟨q,hq,H4⟩:=hrx;obtain⟨e',rfl,he⟩:=hcd.resolve_right Abq;cases he;obtain⟨_,v',g1,g2⟩:=sr (P:=P) hr hu hq rfl H4
    obtain⟨av,hav⟩:∃av,u=.pointer (some av):=by
     unfold m8 at hq;split at hq
     .cases hu with
      |data _ _ hd=>cases hd
      |G5=>exact⟨_,rfl⟩
     .cases hu with
      |data _ _ hd=>cases hd
      |M8=>exact⟨_,rfl⟩
     .cases hq
    subst hav
    rw[Yy v' (by
     simp only[DZ,Cu,pure_bind]at g1;have AOy:∀nm,Builtin.ssaWrapNilChk_ #[t] t #[Value.pointer (some av),strVal "",strVal nm]=pure (.pointer (some av)):=λnm=>rfl;simp only[FX,Bh,Bb hd,Result.andThen_ok,Place.get,Sem.run_pure,AOy,asAddr,g1])]
    exact ig hE hr h1 h2 h3 h4 (.cons _ _ _ _ g2 ha) ro
end
inductive Mode where
 |old
 |lZ (E:Xg)
 |Im (E:Xg)
def Mode.Lj:Mode->Xg
 | .old=>Xg.Lp
 | .lZ E=>E
 | .Im E=>E
end
section
open Go.Ab (Fw NK OT Tq I7)
abbrev Kx:=OT->Fr->St->Prop
abbrev Ks:=Fr->St->Prop
def H2{α:Type}(x:Option α)(k:α->Prop):Prop:=match x with
 |some a=>k a
 |none=>False
def Lz{α:Type}{x:Option α}{k:α->Prop}(h:H2 x k):∃a,x=some a/\k a:=by
 cases x with
 |none=>exact h.elim
 |some a=>exact⟨a,rfl,h⟩
def Fr.put(fr:Fr)(d:Option Tmp)(v:PV):Fr:=match d with
 |some d=>fr.set d v
 |none=>fr
section
variable(P:Program) (md:Bool) (X:Mode)
def Sd:Op->List Cb
 | .call ⟨.value (.func _),args,_⟩=>args.toList
 |op=>op.operands.toList
def Pn(f:CE):Bool:=match P.funcs[f]? with
 |some fn=>fn.body.isSome&& !(fn.name== "runtime.NumGoroutine")
 |none=>false
inductive OpR:Op->List PV->St->PV->St->List Nat->List Nat->Prop
 |req (op:Op) (vs:List PV) (st:St) (q:KC) (v:PV) (IK:St):opQ P md op vs=some q->q.run st=some (v,IK)->OpR op vs st v IK q.rd q.wr
 |call (f:CE) (args:Array Cb) (KO:Array Bm) (vs:List PV) (st:St) (v:PV) (IK:St) (bs:List Nat):Pn P f=true->kK P f vs st v IK bs->OpR (.call ⟨.value (.func f),args,KO⟩) vs st v IK [] bs
 |AAu (f:CE) (args:Array Cb) (KO:Array Bm) (vs:List PV) (st:St) (v:PV) (IK:St) (fp:List Nat):Pn P f=true->uC X.Lj P f vs st v IK fp->OpR (.call ⟨.value (.func f),args,KO⟩) vs st v IK [] fp
def AAv(f:CE)(vs:LP)(st:St)(k:PV->St->Prop):Prop:=match X with
 | .old=>False
 | .lZ E=>∃v IK,SW E P f vs st (λr s=>r=v/\s=IK)/\k v IK
 | .Im E=>∃Q,SW E P f vs st Q/\∀v IK,IL st IK->Ha IK->Q v IK->k v IK
def ASe(vs:LP)(st:St)(k:PV->St->Prop):Prop:=match X with
 | .Im E=>∃Q,AIZ E P vs st Q/\∀v IK,IL st IK->Ha IK->Q v IK->k v IK
 |_=>False
def APv(name:String)(vs:LP)(st:St)(k:PV->St->Prop):Prop:=match X with
 | .Im E=>∃Q,qn E P name vs st Q/\∀v IK,IL st IK->Ha IK->Q v IK->k v IK
 |_=>False
def AFC(f:CE)(vs:LP)(st:St)(k:PV->St->LN->Prop):Prop:=match X with
 | .old=>False
 |_=>∃v IK fp,uC X.Lj P f vs st v IK fp/\k v IK fp
def ue(u:Bool)(f:CE)(vs:LP)(st:St)(k:KL):Prop:=match X with
 | .old=>∃v IK bs,kK P f vs st v IK bs/\k v IK [] bs
 |X=>(∃v IK bs,kK P f vs st v IK bs/\k v IK [] bs)\/(match u with
  |true=>AAv P X f vs st λv IK=>k v IK [] []
  |false=>AFC P X f vs st λv IK fp=>k v IK [] fp)
def Pc{u:Bool}{f:CE}{vs:LP}{st:St}{k:KL}:ue P X u f vs st k<->(∃v IK bs,kK P f vs st v IK bs/\k v IK [] bs)\/(match u with
  |true=>AAv P X f vs st λv IK=>k v IK [] []
  |false=>AFC P X f vs st λv IK fp=>k v IK [] fp):=by
 cases X with
 |old=>cases u<;>exact⟨.inl,λh=>h.resolve_right id⟩
 |lZ E=>exact Iff.rfl
 |Im E=>exact Iff.rfl
def opP(u:Bool)(op:Op)(vs:LP)(st:St)(k:KL):Prop:=match op with
 | .call ⟨.value (.func f),_,_⟩=>bif Pn P f then ue P X u f vs st k else False
 | .call ⟨.value _,_,_⟩=>match u with
  |true=>ASe P X vs st λv IK=>k v IK [] []
  |false=>False
 | .call ⟨.invoke _ name,_,_⟩=>match u with
  |true=>APv P X name vs st λv IK=>k v IK [] []
  |false=>False
 |op=>H2 (opQ P md op vs) λq=>H2 (q.run st) λp=>k p.1 p.2 q.rd q.wr
def ADl{op:Op}{vs:LP}{st:St}{k:KL}(h:opP P md X false op vs st k):∃v IK rd wr,OpR P md X op vs st v IK rd wr/\k v IK rd wr:=by
 unfold opP at h;split at h
 .rename_i f args KO;cases he:Pn P f with
  |false=>simp only[he,cond_false]at h
  |true=>
   simp only[he,cond_true]at h;rcases(Pc P X).1 h with⟨v,IK,bs,h1,h2⟩|h
   .exact⟨v,IK,[],bs,.call f args KO vs st v IK bs he h1,h2⟩
   .obtain⟨v,IK,fp,h1,h2⟩:∃v IK fp,uC X.Lj P f vs st v IK fp/\k v IK [] fp:=by
     cases X with
     |old=>exact h.elim
     |lZ E=>exact h
     |Im E=>exact h
    exact⟨v,IK,[],fp,.AAu f args KO vs st v IK fp he h1,h2⟩
 .exact h.elim
 .exact h.elim
 .obtain⟨q,h1,h2⟩:=Lz h;obtain⟨⟨v,IK⟩,h3,h4⟩:=Lz h2;exact⟨v,IK,q.rd,q.wr,.req _ vs st q v IK h1 h3,h4⟩
def sO(g:PV)(QZ:Bool):Option Bool:=match g with
 | .bool b=>some (b==QZ)
 | .tuple []=>some false
 |_=>none
def JZ(g:PV)(QZ:Bool)(X:(KL)->Prop)(k:KL)(s:St):Prop:=match sO g QZ with
 |some true=>X k
 |some false=>k .undef s [] []
 |none=>False
def Lx(ops:List CI)(fr:Fr)(o:CI):Option Bool:=match o.guard with
 |none=>some true
 |some (j,QZ)=>match ops[j]? with
  |some o'=>match o'.dst with
   |some d=>match fr d with
    | .bool b=>some (b==QZ)
    | .tuple []=>some false
    |_=>none
   |none=>some false
  |none=>some false
inductive UX (ops:List CI) (fr:Fr) (o:CI) (st:St):PV->St->List Nat->List Nat->Prop
 |skip:Lx ops fr o=some false->UX ops fr o st .undef st [] []
 |run (vs:List PV) (v:PV) (IK:St) (rd wr:List Nat):Lx ops fr o=some true->Ly fr (Sd o.op)=some vs->OpR P md X o.op vs st v IK rd wr->UX ops fr o st v IK rd wr
def AK6(u:Bool)(op:Op)(fr:Fr)(st:St)(k:KL):Prop:=H2 (Ly fr (Sd op)) λvs=>opP P md X u op vs st k
def gP(u:Bool)(ops:List CI)(o:CI)(fr:Fr)(st:St)(k:KL):Prop:=match o.guard with
 |none=>AK6 P md X u o.op fr st k
 |some (j,QZ)=>match ops[j]? with
  |some o'=>match o'.dst with
   |some d=>JZ (fr d) QZ (λk=>AK6 P md X u o.op fr st k) k st
   |none=>k .undef st [] []
  |none=>k .undef st [] []
def AFo{ops:List CI}{o:CI}{fr:Fr}{st:St}{k:KL}(h:gP P md X false ops o fr st k):∃v IK rd wr,UX P md X ops fr o st v IK rd wr/\k v IK rd wr:=by
 have one:Lx ops fr o=some true->AK6 P md X false o.op fr st k->∃v IK rd wr,UX P md X ops fr o st v IK rd wr/\k v IK rd wr:=by
  intro hw h;obtain⟨vs,h1,h2⟩:=Lz h;obtain⟨v,IK,rd,wr,h3,h4⟩:=ADl P md X h2;exact⟨v,IK,rd,wr,.run vs v IK rd wr hw h1 h3,h4⟩
 unfold gP at h;cases hg:o.guard with
 |none=>
  rw[hg]at h;exact one (by simp[Lx,hg]) h
 |some p=>
  obtain⟨j,QZ⟩:=p;rw[hg]at h;simp only at h;cases hj:ops[j]? with
  |none=>
   rw[hj]at h;exact⟨.undef,st,[],[],.skip (by simp[Lx,hg,hj]),h⟩
  |some o'=>
   rw[hj]at h;simp only at h;cases hd:o'.dst with
   |none=>
    rw[hd]at h;exact⟨.undef,st,[],[],.skip (by simp[Lx,hg,hj,hd]),h⟩
   |some d=>
    rw[hd]at h;simp only at h;have hw:Lx ops fr o=sO (fr d) QZ:=by simp only[Lx,hg,hj,hd];rfl
    unfold JZ at h;split at h
    .rename_i he;exact one AdO h
    .rename_i he;exact⟨.undef,st,[],[],.skip AdO,h⟩
    .exact h.elim
variable(nt:Nat)
def oP(ops:List CI):List CI->Ks->Ks
 |[],K=>K
 |o::r,K=>λfr st=>bif NK nt o.dst then gP P md X true ops o fr st (λv st _ _=>oP ops r K (fr.put o.dst v) st)else False
end
def OL(st IK:St)(b:Nat):Prop:=st.next<=b/\b<IK.next
structure oy (oN:St->PV->St->Prop) (st:St) (v:PV) (IK:St) (rd wr:List Nat):Prop where
 next:st.next<=IK.next
 ex:∀b,b∈rd\/b∈wr->st.heap b≠none
 No:∀b,b∉wr->¬OL st IK b->IK.heap b=st.heap b
 XY:∀t:St,t.next=st.next->(∀b,b∈rd\/b∈wr->t.heap b=st.heap b)->
  ∃t',oN t v t'/\t'.next=IK.next/\(∀b,b∈wr\/OL st IK b->t'.heap b=IK.heap b)/\(∀b,b∉wr->¬OL st IK b->t'.heap b=t.heap b)
section
variable{P:Program} {md:Bool} {X:Mode}
def fM{st:St}{v:PV}{rd:LN}{oN:St->PV->St->Prop}(hex:∀b,b∈rd->st.heap b≠none)(hs:∀t:St,t.next=st.next->(∀b,b∈rd->t.heap b=st.heap b)->oN t v t):oy oN st v st rd []:=
 ⟨Bd _,λb hb=>hex b (hb.resolve_right AD),λ_ _ _=>rfl,λt ht PM=>⟨t,hs t ht λb hb=>PM b (.inl hb),ht,λb hb=>by
  rcases hb with hb|hb
  .simp at hb
  .unfold OL at hb;omega,λ_ _ _=>rfl⟩⟩
def aR{st:St}{b:Nat}{o:Obj}{v:PV}{oN:St->PV->St->Prop}(hex:st.heap b≠none)(hs:∀t:St,t.next=st.next->t.heap b=st.heap b->oN t v (t.set b o)):oy oN st v (st.set b o) [] [b]:=by
 have hn:∀{x:Nat},¬OL st (st.set b o) x:=λh=>by unfold OL at h;simp[BL]at h;omega
 refine⟨Bd _,λb' hb=>?_,λb' hb _=>?_,λt ht PM=>⟨t.set b o,hs t ht (PM b (.inr AD)),ht,λb' hb=>?_,λb' hb _=>?_⟩⟩
 .simp at hb;subst hb;exact hex
 .simp at hb;simp[BL,K7,hb]
 .rcases hb with hb|hb
  .simp at hb;subst hb;simp[BL,K7]
  .exact Zq hb hn
 .simp at hb;simp[BL,K7,hb]
def aQ{st:St}{o:Obj}{f:Nat->PV}{oN:St->PV->St->Prop}(hs:∀t:St,t.next=st.next->oN t (f st.next) (t.new o)):oy oN st (f st.next) (st.new o) [] []:=by
 refine⟨by simp[BB],λb hb=>by simp at hb,λb _ hb=>?_,λt ht _=>⟨t.new o,hs t ht,by simp[BB,ht],λb hb=>?_,λb _ hb=>?_⟩⟩
 .have:b≠st.next:=by rintro rfl;exact hb ⟨Bd _,by simp[BB]⟩
  simp[BB,K7,this]
 .rcases hb with hb|hb
  .simp at hb
  .have:b=st.next:=by unfold OL at hb;simp[BB]at hb;omega
   subst this;simp[BB,K7,ht]
 .have:b≠st.next:=by rintro rfl;exact hb ⟨Bd _,by simp[BB]⟩
  simp[BB,K7,ht,this]
def ALJ{q:KC}{st:St}{v:PV}{IK:St}(h:q.run st=some (v,IK)):oy (λt v t'=>q.run t=some (v,t')) st v IK q.rd q.wr:=by
 cases q with
 |val x=>
  simp[Aw]at h;obtain⟨rfl,rfl⟩:=h;exact fM (rd:=[]) (λb hb=>by simp at hb) λt _ _=>rfl
 |load b f=>
  simp only[Aw]at h;split at h
  .rename_i cs Jw;exact AgJ
  .rename_i e cs Jw;exact AgJ
  .cases h
 |store b f=>
  simp only[Aw]at h;split at h
  .rename_i cs Jw;exact Ag1
  .rename_i e cs Jw;exact Ag1
  .cases h
 |box cs f=>
  exact AgN
 |push b n e k x=>
  simp only[Aw]at h;split at h
  .rename_i n' e' Jw;cases hc:Bo n n'&&(Bo n 0||Bo e e')with
   |false=>simp[hc]at h
   |true=>
    simp only[hc,cond_true,Ba,CM]at h;obtain⟨rfl,rfl⟩:=h;exact aR AdV λt _ PM=>by simp only[Aw,PM,Jw,hc,cond_true]
  .cases h
 |Hm n e f=>
  exact AgN
 |LM e cs f=>
  exact AgN
 |map l f=>
  exact AgN
 |jd b f=>
  simp only[Aw]at h;split at h
  .rename_i l hl;split at h
   .rename_i x hx;simp at h;obtain⟨rfl,rfl⟩:=h;exact fM (rd:=[b]) (λb' hb=>by simp at hb;subst hb;rw[hl];simp) λt _ PM=>by simp only[Aw,PM b AD,hl,hx]
   .cases h
  .cases h
 |n8 b f=>
  simp only[Aw]at h;split at h
  .rename_i l hl;split at h
   .rename_i l' hl';simp at h;obtain⟨rfl,rfl⟩:=h;exact aR (by rw[hl];simp) λt _ PM=>by simp only[Aw,PM,hl,hl']
   .cases h
  .cases h
 |ey b e f k=>
  simp only[Aw]at h;split at h
  .rename_i e' cs Jw;cases hc:Bo e e' with
   |false=>simp[hc]at h
   |true=>
    simp only[hc,cond_true]at h;split at h
    .rename_i NL SG;simp only[Ba,CM]at h;obtain⟨rfl,rfl⟩:=h;have Sl:∀{x:Nat},OL st ((st.set b .NY).new (.LM e NL)) x<->x=st.next:=λ{x}=>by unfold OL;simp[BL,BB];omega
     refine⟨by simp[BB,BL],λb' hb=>?_,λb' hb MK=>?_,λt ht PM=>⟨(t.set b .NY).new (.LM e NL),?_,by simp[BB,BL,ht],λb' hb=>?_,λb' hb MK=>?_⟩⟩
     .simp[KC.rd,KC.wr]at hb;subst hb;rw[Jw];simp
     .rw[Sl]at MK;simp[KC.wr]at hb;simp[BB,BL,K7,hb,MK]
     .simp only[Aw,PM b (.inr (by simp[KC.wr])),Jw,hc,cond_true,SG,ht]
     .rw[Sl]at hb;simp only[KC.wr,CS]at hb;simp only[BB,BL,K7,ht];rcases hb with rfl|rfl
      .simp
      .simp
     .rw[Sl]at MK;simp[KC.wr]at hb;simp[BB,BL,K7,hb,MK,ht]
    .cases h
  .cases h
def Yq{s t:St}:∀{bs:LN},(∀b,b∈bs->t.heap b=s.heap b)->HZ t bs=HZ s bs
 |[],_=>rfl
 |b::bs,h=>by
  simp only[HZ,h b AD,Yq λb hb=>h b (Co _ hb)]
def jC{s:St}:∀{bs:LN} {l:LLP},HZ s bs=some l->∀b,b∈bs->s.heap b≠none
 |[],_,_,b,hb=>by simp at hb
 |b0::bs,l,h,b,hb=>by
  simp only[HZ]at h;split at h
  .rename_i cs Jw;split at h
   .split at h
    .rename_i l' hl;rcases Bz.1 hb with rfl|hb
     .rw[Jw];simp
     .exact jC hl b hb
    .cases h
   .cases h
  .cases h
def ZX{bs:LN}{Xi:LLP}{st:St}(hn:bs.Nodup)(hl:Xi.length=bs.length){b:Nat}(hb:b∉bs):(IF st bs Xi).heap b=st.heap b:=by rw[LC hn hl,D8.2 hb]
def jS{bs:LN}{Xi:LLP}{s t:St}(hn:bs.Nodup)(hl:Xi.length=bs.length){b:Nat}(hb:b∈bs):(IF s bs Xi).heap b=(IF t bs Xi).heap b:=by
 rw[LC hn hl,LC hn hl];cases hi:bs.idxOf? b with
 |none=>exact Zq hb (D8.1 hi)
 |some i=>rfl
def AFD{f:CE}{vs:LP}{st:St}{v:PV}{IK:St}{bs:LN}(h:kK P f vs st v IK bs):oy (λt v t'=>kK P f vs t v t' bs) st v IK [] bs:=by
 obtain⟨args,IC,r,Hs,h1,h2,h3,h4,h5,h6⟩:=h.ex;have L6:=T0 h2
 have key:∀(t:St),t.next=st.next->(∀b,b∈bs->t.heap b=st.heap b)->∀v2 t',(v2,t')=JV r (IF t bs Hs)->v2=v/\t'.next=IK.next/\
   (∀b,b∈bs\/OL st IK b->t'.heap b=IK.heap b)/\(∀b,b∉bs->¬OL st IK b->t'.heap b=t.heap b):=by
  intro t ht PM v2 t' UR;have Yz:(IF t bs Hs).next=(IF st bs Hs).next:=by rw[Mg,Mg,ht]
  unfold JV at h6 UR;split at h6
  .rename_i e G1;simp only[CM]at h6 UR;obtain⟨rfl,rfl⟩:=h6;obtain⟨rfl,rfl⟩:=UR;refine⟨by rw[Yz],by simp[BB,Yz],λb hb=>?_,λb hb MK=>?_⟩
   .simp only[BB,K7,Yz];by_cases c:b=(IF st bs Hs).next
    .rw[Ps c,Ps c]
    .rw[Ng c,Ng c];rcases hb with hb|hb
     .exact jS L6 h4 hb
     .exfalso;unfold OL at hb;simp[BB,Mg]at hb c;omega
   .have c:b≠(IF st bs Hs).next:=by
     rintro rfl;exact MK ⟨by rw[Mg];exact Bd _,by simp[BB]⟩
    simp only[BB,K7,Yz,Ng c];exact ZX L6 h4 hb
  .rename_i RT;split at UR
   .rename_i e G1;exact(RT e G1 rfl).elim
   .simp only[CM]at h6 UR;obtain⟨rfl,rfl⟩:=h6;obtain⟨rfl,rfl⟩:=UR;refine⟨rfl,Yz,λb hb=>?_,λb hb _=>ZX L6 h4 hb⟩;rcases hb with hb|hb
    .exact jS L6 h4 hb
    .exfalso;unfold OL at hb;rw[Mg]at hb;omega
 have MT:st.next<=IK.next:=by
  have:=zz h6;rwa [Mg]at this
 refine⟨MT,λb hb=>?_,λb hb MK=>?_,λt ht PM=>?_⟩
 .rcases hb with hb|hb
  .simp at hb
  .exact jC h3 b hb
 .exact(key st rfl (λ_ _=>rfl) v IK h6).2.2.2 b hb MK
 .have AFq:∀b,b∈bs->t.heap b=st.heap b:=λb hb=>PM b (.inr hb);obtain⟨k1,k2,k3,k4⟩:=key t ht AFq (JV r (IF t bs Hs)).1 (JV r (IF t bs Hs)).2 rfl;refine⟨(JV r (IF t bs Hs)).2,⟨args,IC,r,Hs,h1,h2,by rw[Yq AFq];exact h3,h4,h5,?_⟩,k2,k3,k4⟩;rw[<- k1]
def nZ{st t:St}{fp:LN}(hn:t.next=st.next)(h:∀b,b∈fp->t.heap b=st.heap b):IY t fp=IY st fp:=by
 unfold IY;rw[hn];congr 1;funext b;unfold tU;by_cases c:b∈fp
 .simp[c,h b c]
 .simp[c]
def ACj{f:CE}{vs:LP}{st:St}{v:PV}{IK:St}{fp:LN}(h:uC X.Lj P f vs st v IK fp):oy (λt v t'=>uC X.Lj P f vs t v t' fp) st v IK [] fp:=by
 obtain⟨args,s0,h0,h1,h2,h3,h4,rfl⟩:=h.ex;have hnx:st.next<=s0.next:=h3.Ki.next;refine⟨hnx,λb hb=>?_,λb hb MK=>NB hb MK,λt ht PM=>?_⟩
 .obtain⟨_,o,ho,_⟩:=h4 b (hb.resolve_left AD);rw[ho];simp
 .have AFq:∀b,b∈fp->t.heap b=st.heap b:=λb hb=>PM b (.inr hb);refine⟨PR t fp s0,⟨args,s0,h0,h1,h2,by rw[nZ ht AFq];exact h3,λb hb=>?_,rfl⟩,rfl,λb hb=>?_,λb hb MK=>?_⟩
  .obtain⟨k1,o,k2,k3⟩:=h4 b hb;exact⟨by rw[ht];exact k1,o,by rw[AFq b hb];exact k2,k3⟩
  .rw[RU (st:=st) (s0:=s0) hb,RU (st:=t) (s0:=s0) (by rcases hb with hb|hb;exact .inl hb;exact .inr (by rw[ht];exact hb))]
  .exact NB hb (by rw[ht];exact MK)
def AK7{op:Op}{vs:LP}{st:St}{v:PV}{IK:St}{rd wr:LN}(h:OpR P md X op vs st v IK rd wr):oy (λt v t'=>OpR P md X op vs t v t' rd wr) st v IK rd wr:=by
 cases h with
 |req _ _ _ q _ _ h1 h2=>
  have L:=ALJ h2;refine⟨L.next,L.ex,L.No,λt ht PM=>?_⟩;obtain⟨t',e1,e2,e3,e4⟩:=L.XY t ht PM;exact⟨t',.req _ _ _ q _ _ h1 e1,e2,e3,e4⟩
 |call f args KO _ _ _ _ _ he h1=>
  have L:=AFD h1;refine⟨L.next,L.ex,L.No,λt ht PM=>?_⟩;obtain⟨t',e1,e2,e3,e4⟩:=L.XY t ht PM;exact⟨t',.call f args KO _ _ _ _ _ he e1,e2,e3,e4⟩
 |AAu f args KO _ _ _ _ _ he h1=>
  have L:=ACj h1;refine⟨L.next,L.ex,L.No,λt ht PM=>?_⟩;obtain⟨t',e1,e2,e3,e4⟩:=L.XY t ht PM;exact⟨t',.AAu f args KO _ _ _ _ _ he e1,e2,e3,e4⟩
def ie{ops:List CI}{fr:Fr}{o:CI}{st:St}{v:PV}{IK:St}{rd wr:LN}(h:UX P md X ops fr o st v IK rd wr):oy (λt v t'=>UX P md X ops fr o t v t' rd wr) st v IK rd wr:=by
 cases h with
 |skip hw=>
  refine⟨Bd _,λb hb=>by simp at hb,λ_ _ _=>rfl,λt ht _=>⟨t,.skip hw,ht,λb hb=>?_,λ_ _ _=>rfl⟩⟩;rcases hb with hb|hb
  .simp at hb
  .unfold OL at hb;omega
 |run vs _ _ _ _ hw he pj=>
  have L:=AK7 pj;refine⟨L.next,L.ex,L.No,λt ht PM=>?_⟩;obtain⟨t',e1,e2,e3,e4⟩:=L.XY t ht PM;exact⟨t',.run vs _ _ _ _ hw he e1,e2,e3,e4⟩
end
structure FR (m:J) (nt:Nat) (fr:Fr) (tmps:Array Bc):Prop where
 size:tmps.size=nt
 get:∀t,VR m (fr t) (tmps.getD t undef)
section
variable{P:Program} {md:Bool} {X:Mode} {m:J} {w:World}
def FR.mono{m':J}(h:m.le m'){nt:Nat}{fr:Fr}{tmps:AV0}(hf:FR m nt fr tmps):FR m' nt fr tmps:=⟨hf.size,λt=>(hf.get t).mono h⟩
def FR.set{nt:Nat}{fr:Fr}{tmps:AV0}(h:FR m nt fr tmps){d:Nat}(hd:d<nt){a:PV}{v:Bc}(hv:VR m a v):FR m nt (fr.set d a) (tmps.setIfInBounds d v):=by refine⟨by simp[h.size],λt=>?_⟩;rw[Go.Ab.vL tmps d v (by rw[h.size];exact hd)];simp only[Fr.set,K7];exact Aik
def FR.put{nt:Nat}{fr:Fr}{a:Act}(h:FR m nt fr a.tmps){d:Option Tmp}(hd:NK nt d=true){x:PV}{v:Bc}(hv:VR m x v):FR m nt (fr.put d x) (a.put d v).tmps:=by
 cases d with
 |none=>exact h
 |some d=>exact h.set (Tq hd) hv
def QJ{nt:Nat}{fr:Fr}{a:Act}(h:FR m nt fr a.tmps){o:Cb}{x:PV}(he:Oh fr o=some x):VR m x (a.eval o):=by
 cases o with
 |tmp t=>simp only[Oh,Ba]at he;subst he;exact h.get t
 |const v=>exact rS he
 |global g=>cases he
 |func f=>cases he
def RN{nt:Nat}{fr:Fr}{a:Act}(h:FR m nt fr a.tmps):∀{l:List Cb} {vs:LP},Ly fr l=some vs->JT m vs (l.map a.eval)
 |[],vs,he=>by simp only[Ly,Ba]at he;subst he;exact .nil
 |o::r,vs,he=>by
  exact AgH
def Ra{nt:Nat}{fr:Fr}{tmps:AV0}(h:FR m nt fr tmps)(ops:Array CI)(o:CI){b:Bool}(hw:Lx ops.toList fr o=some b):Fq o (yielded ops tmps)=b:=by
 unfold Lx at hw;unfold Fq yielded;cases hg:o.guard with
 |none=>simp only[hg]at hw⊢;cases hw;rfl
 |some p=>
  obtain⟨j,QZ⟩:=p;simp only[hg,Cq]at hw⊢;cases hj:ops[j]? with
  |none=>simp only[hj]at hw⊢;cases hw;rfl
  |some o'=>
   simp only[hj,Option.bind_some]at hw⊢;cases hd:o'.dst with
   |none=>simp only[hd]at hw⊢;cases hw;rfl
   |some d=>
    simp only[hd,Option.bind_some]at hw⊢;have hg:=h.get d;rw[CC]at hg;split at hw
    .rename_i bb hb;rw[hb]at hg;cases ht:tmps[d]? with
     |none=>
      rw[ht]at hg;simp only[Option.getD_none,undef]at hg;cases hg with|data _ _ hd=>cases hd
     |some v=>
      rw[ht]at hg;simp only[Option.getD_some]at hg;cases hg with|data _ _ hd=>cases hd;cases bb<;>cases QZ<;>cases b<;>first|rfl|(cases hw)
    .rename_i hb;rw[hb]at hg;cases hw;cases ht:tmps[d]? with
     |none=>rfl
     |some v=>
      rw[ht]at hg;simp only[Option.getD_some]at hg;cases hg with
      |data _ _ hd=>cases hd
      |tuple _ l' hl=>cases hl;rfl
    .cases hw
def xE{st:St}{nt:Nat}{fr:Fr}{a:Act}(Kr:FR m nt fr a.tmps){ops:Array CI}{i:Nat}{o:CI}(ho:ops[i]?=some o)(Mu:NK nt o.dst=true)(hw:Lx ops.toList fr o=some true){v:PV}{IK:St}(ro:ON)(K:Act->World->Prop)(Q:QX)
  (zF:o.semAt (Fw ro).round a.eval=Ca a.eval o)(fin:OH P ro m w IK.heap v ((Ca a.eval o).run P w))
  (hK:∀m' a' w',Jt m w m' w'->IQ m' IK.heap w'->FR m' nt (fr.put o.dst v) a'.tmps->a'.defers=a.defers->K a' w'):
  Eo (Fw ro) 0 P ops Q i K a w:=by
 unfold Eo;rw[ho];simp only;rw[Ra Kr ops o hw,Ps rfl];refine⟨λ_ _=>trivial,?_⟩;rw[zF];exact fin o a K Q λm' v' w' h1 h2 h3=>hK m' _ w' h1 h2 ((Kr.mono h1.le).put Mu h3) (Go.Ab.RX _ _ _)
def fY{o:CI}{c:Call}(ho:o.op=.call c)(r:ON)(ρ:Cb->Bc):o.semAt r ρ=Ca ρ o:=by apply Oper.semAt_eq;intro cc hc;rw[ho]at hc;cases hc
def Wo{o:CI}{f:Cb}{args:Array Cb}{KO:Array Bm}(ho:o.op=.call ⟨.value f,args,KO⟩)(ρ:Cb->Bc):
  Ca ρ o=(do let d<-CQ (ρ f) (args.toList.map ρ).toArray;Ev d.target d.args):=by
 obtain⟨dst,op,ty,pos,after,guard⟩:=o;simp only at ho;subst ho;simp only[Ca,resolve,Go.Ab.JA]
def wW{st:St}(hE:QE X.Lj m)(hr:IQ m st.heap w){nt:Nat}{fr:Fr}{a:Act}(Kr:FR m nt fr a.tmps){o:CI}{vs:LP}(he:Ly fr (Sd o.op)=some vs){v:PV}{IK:St}{rd wr:LN}(pj:OpR P md X o.op vs st v IK rd wr)
  (hf:∀b,st.next<=b->b<IK.next->st.heap b=none)(ro:ON):o.semAt (Fw ro).round a.eval=Ca a.eval o/\OH P ro m w IK.heap v ((Ca a.eval o).run P w):=by
 have hrel:=RN Kr he
 have zF:o.semAt (Fw ro).round a.eval=Ca a.eval o:=by
  apply Oper.semAt_eq;intro c hc;rw[hc]at pj;cases pj with
  |req _ _ _ q _ _ h1 _=>simp[opQ]at h1
 refine⟨zF,?_⟩;generalize jc:o.op=op at pj hrel;cases pj with
 |req _ _ _ q _ _ h1 h2=>
  have Ok:Sd op=op.operands.toList:=by
   unfold Sd;split
   .simp[opQ]at h1
   .rfl
  rw[Ok]at hrel;subst jc;exact zt hr h1 h2 hf hrel ro
 |call f args KO _ _ _ _ _ oJ hc=>
  unfold Pn at oJ;split at oJ
  .rename_i fn QU;obtain⟨e1,e2⟩:=Go.Ab.and_true oJ;rw[Wo jc a.eval]
   have H4:(do let d<-CQ (a.eval (.func f)) (args.toList.map a.eval).toArray;Ev d.target d.args:Sem Fm).run P w=(DC f (args.toList.map a.eval).toArray).run P w:=by
    exact Afe
   rw[H4];exact AFE hr QU e1 Aca hc hf hrel ro
  .cases oJ
 |AAu f args KO _ _ _ _ fp oJ hc=>
  obtain⟨as,s0,h0,h1,h2,h3,h4,rfl⟩:=hc.ex;unfold Pn at oJ;split at oJ
  .rename_i fn QU;obtain⟨e1,e2⟩:=Go.Ab.and_true oJ;rw[Wo jc a.eval]
   have H4:(do let d<-CQ (a.eval (.func f)) (args.toList.map a.eval).toArray;Ev d.target d.args:Sem Fm).run P w=(DC f (args.toList.map a.eval).toArray).run P w:=by
    exact Afe
   rw[H4];exact AQf hE hr QU e1 Aca ((h3.lz h0 h2 h4 hf).Im h1) hrel ro
  .cases oJ
def Ha.step{ops:List CI}{fr:Fr}{o:CI}{st:St}{v:PV}{IK:St}{rd wr:LN}(hf:Ha st)(h:UX P md X ops fr o st v IK rd wr):Ha IK:=by
 have L:=ie h;intro b hb;have hn:=L.next;by_cases c:b∈wr
 .exact Zq (hf b AA) (L.ex b (.inr c))
 .rw[L.No b c (λhh=>by unfold OL at hh;omega)];exact hf b AA
def IL.step{ops:List CI}{fr:Fr}{o:CI}{st:St}{v:PV}{IK:St}{rd wr:LN}(h:UX P md X ops fr o st v IK rd wr):IL st IK:=by
 have L:=ie h;refine⟨L.next,λb hb hn=>?_⟩;by_cases c:b∈wr
 .exact Zq hn (L.ex b (.inr c))
 .rw[L.No b c (λhh=>by unfold OL at hh;omega)];exact hn
def AQh{st:St}(hE:QE X.Lj m)(hr:IQ m st.heap w)(Qx:Ha st){nt:Nat}{fr:Fr}{a:Act}(Kr:FR m nt fr a.tmps){ops:Array CI}{i:Nat}{o:CI}(ho:ops[i]?=some o)
  (Mu:NK nt o.dst=true){k:KL}(h:gP P md X true ops.toList o fr st k)(ro:ON)(K:Act->World->Prop)(Q:QX)
  (hK:∀m' a' w' v IK rd wr,Jt m w m' w'->IQ m' IK.heap w'->Ha IK->IL st IK->FR m' nt (fr.put o.dst v) a'.tmps->a'.defers=a.defers->k v IK rd wr->K a' w'):
  Eo (Fw ro) 0 P ops Q i K a w:=by
 have skip:Lx ops.toList fr o=some false->k .undef st [] []->Eo (Fw ro) 0 P ops Q i K a w:=by
  intro hw hk;unfold Eo;rw[ho];simp only;rw[Ra Kr ops o hw,Ng AD];exact⟨λ_ _=>trivial,hK m (a.put o.dst undef) w .undef st [] [] (Jt.refl m w) hr Qx (IL.refl _) (Kr.put Mu (.tuple [] [] .nil)) (Go.Ab.RX _ _ _) hk⟩
 have ACI:Lx ops.toList fr o=some true->∀(Q0:PV->St->Prop),o.semAt (Fw ro).round a.eval=Ca a.eval o->uJ P ro m w st Q0 ((Ca a.eval o).run P w)->(∀v IK,IL st IK->Ha IK->Q0 v IK->k v IK [] [])->Eo (Fw ro) 0 P ops Q i K a w:=by
  intro hw Q0 zF fin hk;unfold Eo;rw[ho];simp only;rw[Ra Kr ops o hw,Ps rfl];refine⟨λ_ _=>trivial,?_⟩;rw[zF];exact fin o a K Q λm' v' w' y IK h1 h2 h3 h4 h5 h6=>hK m' _ w' y IK [] [] h1 h2 h5 h4 ((Kr.mono h1.le).put Mu h3) (Go.Ab.RX _ _ _) (hk y IK h4 h5 h6)
 have one:Lx ops.toList fr o=some true->AK6 P md X true o.op fr st k->Eo (Fw ro) 0 P ops Q i K a w:=by
  intro hw h;obtain⟨vs,he,h⟩:=Lz h;have hrel:=RN Kr he
  have byR:∀{v IK rd wr},OpR P md X o.op vs st v IK rd wr->k v IK rd wr->Eo (Fw ro) 0 P ops Q i K a w:=by
   intro v IK rd wr pj hk;obtain⟨h1,h2⟩:=wW hE hr Kr he pj (λb hb _=>Qx b hb) ro;have hs:UX P md X ops.toList fr o st v IK rd wr:=.run vs _ _ _ _ hw he pj;exact xE (st:=st) Kr ho Mu hw ro K Q h1 h2 λm' a' w' e1 e2 e3 e4=>hK m' a' w' v IK rd wr e1 e2 (Qx.step hs) (IL.step hs) e3 e4 hk
  generalize jc:o.op=op at h hrel byR;unfold opP at h;split at h
  .rename_i f args KO;cases oJ:Pn P f with
   |false=>simp only[oJ,cond_false]at h
   |true=>
    have AW3:=oJ;simp only[oJ,cond_true]at h;replace h:=(Pc P X).1 h
    unfold Pn at oJ;split at oJ
    .rename_i fn QU;obtain⟨e1,e2⟩:=Go.Ab.and_true oJ
     have H4:(Ca a.eval o).run P w=(DC f (args.toList.map a.eval).toArray).run P w:=by
      rw[Wo jc a.eval];exact Afe
     rcases h with⟨v,IK,bs,h1,h2⟩|h
     .exact byR (.call f args KO vs st v IK bs AW3 h1) h2
     .replace h:AAv P X f vs st λv IK=>k v IK [] []:=h
      unfold AAv at h;split at h
      .exact h.elim
      .obtain⟨v,IK,hc,hk⟩:=h;exact ACI hw (λy s=>y=v/\s=IK) (fY jc _ _) Abh (by rintro y s _ _ ⟨rfl,rfl⟩;exact hk)
      .obtain⟨Q0,hc,hk⟩:=h;exact ACI hw Q0 (fY jc _ _) Abh hk
    .cases oJ
  .rename_i f args KO RT
   have h:∃E,X=.Im E/\∃Q,AIZ E P vs st Q/\∀v IK,IL st IK->Ha IK->Q v IK->k v IK [] []:=by
    cases X with
    |old=>exact h.elim
    |lZ E=>exact h.elim
    |Im E=>exact⟨E,rfl,h⟩
   obtain⟨E,rfl,Q0,hc,hk⟩:=h;refine ACI hw Q0 (fY jc _ _) ?_ hk;rw[Wo jc a.eval]
   have Ok:Sd (.call ⟨.value f,args,KO⟩)=(Op.call ⟨.value f,args,KO⟩).operands.toList:=by
    unfold Sd;split
    .rename_i f' _ _ heq;cases heq;exact Zq rfl (RT f')
    .rfl
   rw[Ok]at hrel;exact AJk hE hr hc (by simpa[C6,Da]using hrel) ro
  .rename_i r0 name args KO
   have h:∃E,X=.Im E/\∃Q,qn E P name vs st Q/\∀v IK,IL st IK->Ha IK->Q v IK->k v IK [] []:=by
    cases X with
    |old=>exact h.elim
    |lZ E=>exact h.elim
    |Im E=>exact⟨E,rfl,h⟩
   obtain⟨E,rfl,Q0,hc,hk⟩:=h;refine ACI hw Q0 (fY jc _ _) ?_ hk
   have hex:Ca a.eval o=Ea (a.eval r0) name (args.toList.map a.eval).toArray:=by
    obtain⟨dst,op,ty,pos,after,guard⟩:=o;simp only at jc;subst jc;simp only[Ca,resolve,Go.Ab.JA,pure_bind,invoke];simp;rw[CJ (by rw[BX,CB];exact Bd _)]
   rw[hex];exact AKb hE hr hc (by simpa[Sd,C6,Da]using hrel) ro
  .obtain⟨q,h1,h2⟩:=Lz h;obtain⟨⟨v,IK⟩,h3,h4⟩:=Lz h2;exact byR (.req _ vs st q v IK h1 h3) h4
 unfold gP at h;cases hg:o.guard with
 |none=>
  rw[hg]at h;exact one (by simp[Lx,hg]) h
 |some p=>
  obtain⟨j,QZ⟩:=p;rw[hg]at h;simp only at h;cases hj:ops.toList[j]? with
  |none=>
   rw[hj]at h;exact skip (by simp only[Lx,hg,hj]) h
  |some o'=>
   rw[hj]at h;simp only at h;cases hd:o'.dst with
   |none=>
    rw[hd]at h;exact skip (by simp only[Lx,hg,hj,hd]) h
   |some d=>
    rw[hd]at h;simp only at h;have hw:Lx ops.toList fr o=sO (fr d) QZ:=by simp only[Lx,hg,hj,hd];rfl
    unfold JZ at h;split at h
    .rename_i he;exact one AdO h
    .rename_i he;exact skip AdO h
    .exact h.elim
def fb{st:St}(hE:QE X.Lj m)(hr:IQ m st.heap w){nt:Nat}{fr:Fr}{a:Act}(Kr:FR m nt fr a.tmps){ops:Array CI}{i:Nat}{o:CI}(ho:ops[i]?=some o)
  (Mu:NK nt o.dst=true){v:PV}{IK:St}{rd wr:LN}(h:UX P md X ops.toList fr o st v IK rd wr)(hf:∀b,st.next<=b->b<IK.next->st.heap b=none)(ro:ON)(K:Act->World->Prop)(Q:QX)
  (hK:∀m' a' w',Jt m w m' w'->IQ m' IK.heap w'->FR m' nt (fr.put o.dst v) a'.tmps->a'.defers=a.defers->K a' w'):
  Eo (Fw ro) 0 P ops Q i K a w:=by
 cases h with
 |skip hw=>
  unfold Eo;rw[ho];simp only;rw[Ra Kr ops o hw,Ng AD];exact⟨λ_ _=>trivial,hK m (a.put o.dst undef) w (Jt.refl m w) hr (Kr.put Mu (.tuple [] [] .nil)) (Go.Ab.RX _ _ _)⟩
 |run vs _ _ _ _ hw he pj=>
  obtain⟨h1,h2⟩:=wW hE hr Kr he pj hf ro;exact xE (st:=st) Kr ho Mu hw ro K Q h1 h2 hK
def fQ(ro:ON){nt:Nat}{ops:Array CI}(Q:QX){K:Ks}:∀(Jl:List CI) (i:Nat),Jl=ops.toList.drop i->
  ∀{m:J} {w:World} {st:St} {fr:Fr} {a:Act},QE X.Lj m->IQ m st.heap w->Ha st->FR m nt fr a.tmps->oP P md X nt ops.toList Jl K fr st->
  (∀m' a' w' Vz IK,Jt m w m' w'->IQ m' IK.heap w'->Ha IK->IL st IK->FR m' nt Vz a'.tmps->a'.defers=a.defers->K Vz IK->Q .normal a' w')->
  wpOpsIn (Fw ro) 0 P ops Q (List.range' i Jl.length) a w
 |[],i,KT,m,w,st,fr,a,hE,hr,hf,Kr,h,hQ=>hQ m a w fr st (Jt.refl m w) hr hf (IL.refl _) Kr rfl h
 |o::Jl,i,KT,m,w,st,fr,a,hE,hr,hf,Kr,h,hQ=>by
  have ho:ops[i]?=some o:=by
   exact Akq
  have cX:Jl=ops.toList.drop (i+1):=by
   exact AiB
  simp only[oP]at h;cases Mu:NK nt o.dst with
  |false=>simp only[Mu,cond_false]at h
  |true=>
   simp only[Mu,cond_true]at h;rw[CG,List.range'_succ,wpOpsIn_cons]
   exact AQh hE hr hf Kr ho Mu h ro _ Q λm1 a1 w1 v jT rd wr e1 r1 f2 w2 UN d1 h2=>
    fQ ro Q Jl (i+1) cX (hE.le e1) r1 f2 UN h2 λm2 a2 w2' fr2 st2 e2 r2 f3 w3 g2 d2 k2=>hQ m2 a2 w2' fr2 st2 (e1.trans e2) r2 f3 (w2.trans w3) g2 (d2.trans d1) k2
def dH(ro:ON){nt:Nat}{ops:Array CI}{id:Nat}(Q:QX){K:Ks}{st:St}{fr:Fr}{a:Act}
  (hE:QE X.Lj m)(hr:IQ m st.heap w)(hf:Ha st)(Kr:FR m nt fr a.tmps)(h:oP P md X nt ops.toList ops.toList K fr st)
  (hQ:∀m' a' w' Vz IK,Jt m w m' w'->IQ m' IK.heap w'->Ha IK->IL st IK->FR m' nt Vz a'.tmps->a'.defers=a.defers->K Vz IK->Q .normal a' w'):(GH id ops false).wpIn (Fw ro) 0 P Q a w:=by
 apply wpIn_region;have:=fQ ro Q ops.toList 0 AD hE hr hf Kr h hQ;rw[List.range_eq_range'];exact Afx
end
end
section
open Go.Ab (Fw NK Ma bs yB TJ Ru Ux N0 Oq left iN m5 Yr O8 UI NP and_true)
def It(a b:Nat):LN:=List.range' a (b-a)
def AKq{a b x:Nat}:x∈It a b<->a<=x/\x<b:=by unfold It;rw[List.mem_range'_1];omega
abbrev af:=LN×LN
def Jv(a b:af):Bool:=a.2.any (λx=>b.1.contains x||b.2.contains x)||a.1.any λx=>b.2.contains x
def TH{a b:af}(h:Jv a b=false)(x:Nat):¬(x∈a.2/\(x∈b.1\/x∈b.2))/\¬(x∈a.1/\x∈b.2):=by
 unfold Jv at h;rw[Cn]at h;obtain⟨h1,h2⟩:=h;constructor
 .rintro⟨h3,h4⟩;have:=Gb.1 h1 x h3;simp at this;rcases h4 with h|h
  .exact this.1 h
  .exact this.2 h
 .rintro⟨h3,h4⟩;have:=Gb.1 h2 x h3;simp at this;exact this h4
def I6(m:Nat)(l:af):List af->Nat->Bool
 |[],_=>false
 |a::r,i=>(!(Ep m i)&&Jv a l)||I6 m l r (i+1)
def Ih(done:List af):List af->LN->Bool
 |[],_=>false
 |_::_,[]=>true
 |l::r,m::ms=>I6 m l done 0||Ih (done++[l]) r ms
def Yg{m:Nat}{l:af}:∀{done:List af} {i:Nat},I6 m l done i=false->∀j a,done[j]?=some a->NP m (i+j)\/Jv a l=false
 |[],i,_,j,a,h=>by simp at h
 |x::r,i,h,j,a,hj=>by
  simp only[I6,Cn,DV,Bool.not_eq_false']at h;cases j with
  |zero=>simp at hj;subst hj;exact h.1
  |succ j=>
   simp at hj;have:=Yg h.2 j a hj;rwa [show i+1+j=i+(j+1) by omega]at this
def Yh:∀{Jl done:List af} {ms:LN},Ih done Jl ms=false->∀i j l a,i<done.length+j->Jl[j]?=some l->(done++Jl)[i]?=some a->NP (ms.getD j 0) i\/Jv a l=false
 |[],done,ms,_,i,j,l,a,_,h,_=>by simp at h
 |x::r,done,[],h,i,j,l,a,_,_,_=>by simp[Ih]at h
 |x::r,done,m::ms,h,i,j,l,a,sS,hl,ha=>by
  simp only[Ih,Cn]at h;cases j with
  |zero=>
   simp at hl;subst hl;rw[B5 AA]at ha;have:=Yg h.1 i a ha;rw[CR]at this;exact Afx
  |succ j=>
   simp at hl;have:=Yh h.2 i j l a AB hl Ab0;exact Afx
section
variable(P:Program) (md:Bool) (X:Mode) (nt:Nat)
def oDP(ops:List CI):List CI->(Fr->List af->St->Prop)->Ks
 |[],K=>λfr st=>K fr [] st
 |o::r,K=>λfr st=>bif NK nt o.dst then gP P md X false ops o fr st (λv IK rd wr=>oDP ops r (λfr l s=>K fr ((rd,wr++It st.next IK.next)::l) s) (fr.put o.dst v) IK)else False
def ADx(ops:List CI)(d:Bool)(K:Ks):Ks:=match d with
 |false=>oP P md X nt ops ops K
 |true=>λfr st=>bif Oq ops&&P.follows .mixedOrders then oDP P md X nt ops ops (λfr l st=>Ih [] l (Ma ops [])=false/\K fr st) fr st else False
end
section
variable{P:Program} {md:Bool} {X:Mode}
structure Run (P:Cc) (md:Bool) (X:Mode) (ops:List CI) (S:Nat->St) (F:Nat->Fr) (V:Nat->PV) (L:Nat->af) (i:Nat) (o:CI):Prop where
 ex:∃wr,L i=((L i).1,wr++It (S i).next (S (i+1)).next)/\UX P md X ops (F i) o (S i) (V i) (S (i+1)) (L i).1 wr
 fr:F (i+1)=(F i).put o.dst (V i)
def UD{nt:Nat}{ops:List CI}:∀(Jl:List CI) (k:Nat),Jl=ops.drop k->∀{st:St} {fr:Fr} {K:Fr->List af->St->Prop},oDP P md X nt ops Jl K fr st->
  ∃(S:Nat->St) (F:Nat->Fr) (V:Nat->PV) (l:List af),S k=st/\F k=fr/\K (F (k+Jl.length)) l (S (k+Jl.length))/\l.length=Jl.length/\
   ∀i o,k<=i->ops[i]?=some o->NK nt o.dst=true/\Run P md X ops S F V (λi=>l.getD (i-k) ([],[])) i o
 |[],k,KT,st,fr,K,h=>by
  refine⟨λ_=>st,λ_=>fr,λ_=> .undef,[],rfl,rfl,h,rfl,λi o hi ho=>?_⟩;exact AhK
 |o::Jl,k,KT,st,fr,K,h=>by
  have ho:ops[k]?=some o:=by
   exact AiN
  have cX:Jl=ops.drop (k+1):=by
   exact AiV
  simp only[oDP]at h;cases Mu:NK nt o.dst with
  |false=>simp only[Mu,cond_false]at h
  |true=>
   simp only[Mu,cond_true]at h;obtain⟨v,jT,rd,wr,h1,h2⟩:=AFo P md X h;obtain⟨S,F,V,l,g1,g2,g3,g4,g5⟩:=UD Jl (k+1) cX h2;refine⟨λi=>if i=k then st else S i,λi=>if i=k then fr else F i,λi=>if i=k then v else V i,(rd,wr++It st.next jT.next)::l,AD,AD,?_,by simp[g4],λi o' hi Xb=>?_⟩
   .simp only[CG];rw[Ng AA,Ng AA,show k+(Jl.length+1)=k+1+Jl.length by omega];exact g3
   .by_cases bO:i=k
    .subst bO;rw[ho]at Xb;cases Xb;refine⟨Mu,⟨wr,?_,?_⟩,?_⟩
     .simp[g1]
     .exact Aie
     .simp only[if_true];rw[Ng AA,g2]
    .obtain⟨k1,⟨wr',k2,k3⟩,k4⟩:=g5 i o' AA Xb
     have hgd:((rd,wr++It st.next jT.next)::l).getD (i-k) ([],[])=l.getD (i-(k+1)) ([],[]):=by
      rw[show i-k=(i-(k+1))+1 by omega];simp
     refine⟨k1,⟨wr',?_,?_⟩,?_⟩
     .simp only[Ng bO,hgd];rw[Ng AA];exact k2
     .simp only[Ng bO,hgd];rw[Ng AA];exact k3
     .simp only[Ng bO];rw[Ng AA];exact k4
def ni{ops:List CI}{S:Nat->St}{F:Nat->Fr}{V:Nat->PV}{L:Nat->af}{i:Nat}{o:CI}(h:Run P md X ops S F V L i o):
  (S i).next<=(S (i+1)).next/\(∀b,OL (S i) (S (i+1)) b->b∈(L i).2)/\(∀b,b∉(L i).2->(S (i+1)).heap b=(S i).heap b)/\(Ha (S i)->Ha (S (i+1)))/\
  ∀t:St,t.next=(S i).next->(∀b,b∈(L i).1\/b∈(L i).2->t.heap b=(S i).heap b)->
   ∃t' rd wr,UX P md X ops (F i) o t (V i) t' rd wr/\t'.next=(S (i+1)).next/\(∀b,b∈(L i).2->t'.heap b=(S (i+1)).heap b)/\(∀b,b∉(L i).2->t'.heap b=t.heap b):=by
 obtain⟨wr,h1,h2⟩:=h.ex;have X:=ie h2
 have Kk:∀b,b∈(L i).2<->b∈wr\/OL (S i) (S (i+1)) b:=by
  intro b;rw[h1];simp only[Bg,AKq];rfl
 refine⟨X.next,λb hb=>(Kk b).2 (.inr hb),λb hb=>?_,λhf=>hf.step h2,λt ht PM=>?_⟩
 .rw[Kk,not_or]at hb;exact X.No b hb.1 hb.2
 .obtain⟨t',e1,e2,e3,e4⟩:=X.XY t ht λb hb=>PM b (hb.imp id λh=>(Kk b).2 (.inl h));refine⟨t',_,_,e1,e2,λb hb=>e3 b ((Kk b).1 hb),λb hb=>?_⟩;rw[Kk,not_or]at hb;exact e4 b hb.1 hb.2
def AB3(fr:Fr)(d:Option Tmp)(v:PV)(x:Nat):(fr.put d v) x=if d=some x then v else fr x:=by
 cases d with
 |none=>simp[Fr.put]
 |some d=>
  simp only[Fr.put,Fr.set,K7,Ba];exact AjP
def HD(S:Nat->St)(L:Nat->af)(D:Nat->Bool):Nat->HO
 |0,b=>(S 0).heap b
 |k+1,b=>if D k=true/\b∈(L k).2 then(S (k+1)).heap b else HD S L D k b
def FD(ops:List CI)(F:Nat->Fr)(V:Nat->PV)(D:Nat->Bool):Nat->Nat->PV
 |0,x=>F 0 x
 |k+1,x=>if D k=true/\(ops[k]?).bind (·.dst)=some x then V k else FD ops F V D k x
def kO{S:Nat->St}{L:Nat->af}{D:Nat->Bool}{N i b:Nat}(hi:i<N)(hD:D i=false)
  (RQ:∀k,k<N->b∉(L k).2->(S (k+1)).heap b=(S k).heap b)
  (vW:∀k,k<i->b∈(L k).2->D k=true)(T8:∀k,i<k->k<N->b∈(L k).2->D k=false):
  HD S L D N b=(S i).heap b:=by
 have h1:∀k,k<=i->HD S L D k b=(S k).heap b:=by
  intro k
  induction k with
  |zero=>intro _;rfl
  |succ k ih=>
   intro hk;simp only[HD];by_cases hw:b∈(L k).2
   .rw[Ps ⟨vW k AA hw,hw⟩]
   .exact AjL
 have h2:∀k,i<=k->k<=N->HD S L D k b=(S i).heap b:=by
  intro k
  induction k with
  |zero=>
     exact Ahf
  |succ k ih=>
   exact Akt
 exact AkY
def xh{S:Nat->St}{L:Nat->af}{D D':Nat->Bool}{N i b:Nat}(hi:i<N)(yp:∀k,D' k=(D k||k==i))
  (T8:∀k,i<k->k<N->b∈(L i).2->b∈(L k).2->D k=false):
  HD S L D' N b=if b∈(L i).2 then(S (i+1)).heap b else HD S L D N b:=by
 by_cases hw:b∈(L i).2
 .rw[Ps hw]
  have:∀k,i+1<=k->k<=N->HD S L D' k b=(S (i+1)).heap b:=by
   intro k
   induction k with
   |zero=>intro h _;omega
   |succ k ih=>
    intro hk hN;simp only[HD];exact AfU
  exact Aj3
 .exact Akk
def xi{S:Nat->St}{L:Nat->af}{D:Nat->Bool}{N b:Nat}(hD:∀k,k<N->D k=true)(RQ:∀k,k<N->b∉(L k).2->(S (k+1)).heap b=(S k).heap b):
  HD S L D N b=(S N).heap b:=by
 have:∀k,k<=N->HD S L D k b=(S k).heap b:=by
  intro k
  induction k with
  |zero=>intro _;rfl
  |succ k ih=>
   intro hk;simp only[HD];by_cases hw:b∈(L k).2
   .rw[Ps ⟨hD k AA,hw⟩]
   .exact AjL
 exact this N (Bd _)
def AAd{ops:List CI}{F:Nat->Fr}{V:Nat->PV}{N x:Nat}(hN:N<=ops.length)(SI:∀k o,ops[k]?=some o->F (k+1)=(F k).put o.dst (V k)){k:Nat}(hk:k<N):
  F (k+1) x=if(ops[k]?).bind (·.dst)=some x then V k else F k x:=by
 obtain⟨o,ho⟩:∃o,ops[k]?=some o:=⟨ops[k]' AA,by rw[BZ]⟩
 rw[SI k o ho,ho];simp only[Option.bind_some];exact AB3 _ _ _ _
def kN{ops:List CI}{F:Nat->Fr}{V:Nat->PV}{D:Nat->Bool}{N i x:Nat}(hi:i<N)(hD:D i=false)(hN:N<=ops.length)
  (SI:∀k o,ops[k]?=some o->F (k+1)=(F k).put o.dst (V k))
  (vW:∀k,k<i->(ops[k]?).bind (·.dst)=some x->D k=true)(T8:∀k,i<k->k<N->(ops[k]?).bind (·.dst)=some x->D k=false):
  FD ops F V D N x=F i x:=by
 have h1:∀k,k<=i->FD ops F V D k x=F k x:=by
  intro k
  induction k with
  |zero=>intro _;rfl
  |succ k ih=>
   intro hk;simp only[FD];rw[AAd hN SI (k:=k) AA];exact AhV
 have h2:∀k,i<=k->k<=N->FD ops F V D k x=F i x:=by
  intro k
  induction k with
  |zero=>
    exact Ahf
  |succ k ih=>
   exact Aks
 exact AkY
def xf{ops:List CI}{F:Nat->Fr}{V:Nat->PV}{D D':Nat->Bool}{N i x:Nat}(hi:i<N)(yp:∀k,D' k=(D k||k==i))
  (T8:∀k,i<k->k<N->(ops[i]?).bind (·.dst)=some x->(ops[k]?).bind (·.dst)=some x->D k=false):
  FD ops F V D' N x=if(ops[i]?).bind (·.dst)=some x then V i else FD ops F V D N x:=by
 by_cases hw:(ops[i]?).bind (·.dst)=some x
 .rw[Ps hw]
  have:∀k,i+1<=k->k<=N->FD ops F V D' k x=V i:=by
   intro k
   induction k with
   |zero=>intro h _;omega
   |succ k ih=>
    intro hk hN;simp only[FD];exact AfU
  exact Aj3
 .exact Aki
def xg{ops:List CI}{F:Nat->Fr}{V:Nat->PV}{D:Nat->Bool}{N x:Nat}(hD:∀k,k<N->D k=true)(hN:N<=ops.length)
  (SI:∀k o,ops[k]?=some o->F (k+1)=(F k).put o.dst (V k)):FD ops F V D N x=F N x:=by
 have:∀k,k<=N->FD ops F V D k x=F k x:=by
  intro k
  induction k with
  |zero=>intro _;rfl
  |succ k ih=>
   intro hk;rw[AAd hN SI (k:=k) AA];simp only[FD,ih AA];by_cases e:(ops[k]?).bind (·.dst)=some x
   .rw[Ps ⟨hD k AA,e⟩,Ps e]
   .rw[Ng AdN,Ng e]
 exact this N (Bd _)
def Qt{f g:Fr}:∀{l:List Cb},(∀x∈UI l,f x=g x)->Ly f l=Ly g l
 |[],_=>rfl
 |o::r,h=>by
  exact AgA
def AEC(op:Op):∀x∈UI (Sd op),x∈UI op.operands.toList:=by
 intro x hx;unfold Sd at hx;split at hx
 .simp only[C6,Da];unfold UI at hx⊢;simp at hx⊢;exact hx
 .exact hx
def xD{ops:List CI}{o:CI}{f g:Fr}(h:∀x∈O8 ops o,f x=g x){st:St}{v:PV}{IK:St}{rd wr:LN}(hs:UX P md X ops f o st v IK rd wr):UX P md X ops g o st v IK rd wr:=by
 have h1:Lx ops f o=Lx ops g o:=by
  unfold Lx;cases hg:o.guard with
  |none=>rfl
  |some p=>
   obtain⟨j,QZ⟩:=p;simp only;cases ho:ops[j]? with
   |none=>rfl
   |some o'=>
    simp only;cases hd:o'.dst with
    |none=>rfl
    |some d=>
     simp only;rw[h d (by simp[O8,hg,ho,hd])]
 have h2:Ly f (Sd o.op)=Ly g (Sd o.op):=Qt λx hx=>h x (by unfold O8;exact List.mem_append_left _ (AEC _ x hx));cases hs with
 |skip hw=>exact .skip (h1▸hw)
 |run vs _ _ _ _ hw he pj=>exact .run vs _ _ _ _ (h1▸hw) (h2▸he) pj
structure VK (P:Cc) (md:Bool) (X:Mode) (nt:Nat) (ops:Array CI) (S:Nat->St) (F:Nat->Fr) (V:Nat->PV) (L:Nat->af):Prop where
 step:∀i o,ops[i]?=some o->NK nt o.dst=true/\Run P md X ops.toList S F V L i o
 yR:∀i o,ops[i]?=some o->∀e∈o.after.toList,C7 .any e=true->e.on<i
 mem:∀i j,i<j->j<ops.size->NP (bs ops.toList j) i\/Jv (L i) (L j)=false
 AAO:∀i j a b,i<j->ops[i]?=some a->ops[j]?=some b->NP (bs ops.toList j) i\/Ux ops.toList a b=true
 Lq:Ha (S 0)
def VK.AL7{nt:Nat}{ops:Array CI}{S:Nat->St}{F:Nat->Fr}{V:Nat->PV}{L:Nat->af}(K:VK P md X nt ops S F V L):∀i,i<=ops.size->Ha (S i):=by
 intro i
 induction i with
 |zero=>intro _;exact K.Lq
 |succ i ih=>
  intro hi;have ho:ops[i]?=some ops[i]:=Bv AA;exact(ni (K.step i _ ho).2).2.2.2.1 (ih AA)
def VK.Ki{nt:Nat}{ops:Array CI}{S:Nat->St}{F:Nat->Fr}{V:Nat->PV}{L:Nat->af}(K:VK P md X nt ops S F V L):∀i,i<=ops.size->IL (S 0) (S i):=by
 intro i
 induction i with
 |zero=>intro _;exact IL.refl _
 |succ i ih=>
  intro hi;have ho:ops[i]?=some ops[i]:=Bv AA;obtain⟨wr,_,h2⟩:=(K.step i _ ho).2.ex;exact(ih AA).trans (IL.step h2)
def qt(ro:ON){nt:Nat}{ops:Array CI}{S:Nat->St}{F:Nat->Fr}{V:Nat->PV}{L:Nat->af}(K:VK P md X nt ops S F V L)
  (Q:QX){m0:J}{w0:World}{df:List Ed}(hE:QE X.Lj m0)
  (hQ:∀m' a' w',Jt m0 w0 m' w'->IQ m' (S ops.size).heap w'->FR m' nt (F ops.size) a'.tmps->a'.defers=df->Q .normal a' w'):
  ∀(U7:Nat) (IH:Array Bool) (a:Act) (w:World) (m:J) (t:St) (f:Fr),IH.size=ops.size->left ops.size IH=U7->
   (∀k,k<ops.size->IH.getD k false=true->∀j,NP (bs ops.toList k) j->IH.getD j false=true)->
   Jt m0 w0 m w->(∀b,t.heap b=HD S L (λk=>IH.getD k false) ops.size b)->(∀x,f x=FD ops.toList F V (λk=>IH.getD k false) ops.size x)->
   IQ m t.heap w->FR m nt f a.tmps->a.defers=df->wpAnyIn (Fw ro) 0 P .any ops Q U7 IH a w:=by
 have RQ:∀b k,k<ops.size->b∉(L k).2->(S (k+1)).heap b=(S k).heap b:=by
  intro b k hk;have ho:ops[k]?=some ops[k]:=Bv hk;exact(ni (K.step k _ ho).2).2.2.1 b
 have SI:∀k o,ops.toList[k]?=some o->F (k+1)=(F k).put o.dst (V k):=λk o ho=>(K.step k o Abm).2.fr;have II:ops.size<=ops.toList.length:=AD
 have bM:∀(IH:Array Bool) (a:Act) (w:World) (m:J) (t:St) (f:Fr),(∀k,k<ops.size->IH.getD k false=true)->
   Jt m0 w0 m w->(∀b,t.heap b=HD S L (λk=>IH.getD k false) ops.size b)->(∀x,f x=FD ops.toList F V (λk=>IH.getD k false) ops.size x)->
   IQ m t.heap w->FR m nt f a.tmps->a.defers=df->Q .normal a w:=by
  exact Af8
 intro U7
 induction U7 with
 |zero=>
  exact Afd
 |succ U7 ih=>
  intro IH a w m t f hs hl fC he ht dY hr Kr hd
  have mh:∀i,i∈EE .any ops IH<->∃o,ops[i]?=some o/\IH.getD i false=false/\∀e∈o.after.toList,C7 .any e=true->IH.getD e.on false=true:=by
   exact AfM
  refine⟨λAPR=>?_,λi hi=>?_⟩
  .refine bM IH a w m t f ?_ he ht dY hr Kr hd
   have Jg:∀n,n<ops.size->∀k,k<=n->IH.getD k false=true:=by
    intro n
    induction n using Nat.strongRecOn with
    |_ n ihn=>
     exact AfY
   exactλk hk=>Jg k hk k (Bd _)
  .obtain⟨o,ho,hD,yw⟩:=(mh i).1 hi;have VI:i<ops.size:=(B4.1 ho).1;have jb:ops.toList[i]?=some o:=by simpa using ho
   obtain⟨Mu,H4⟩:=K.step i o ho;obtain⟨n1,n3,n4,n5,n6⟩:=ni H4
   have Wx:∀j,NP (bs ops.toList i) j->IH.getD j false=true:=by
    exact AgX
   have T4:∀k,i<k->k<ops.size->NP (bs ops.toList k) i->IH.getD k false=false:=by
    intro k bO hk hb;cases hc:IH.getD k false with
    |false=>rfl
    |true=>have:=fC k hk hc i hb;rw[hD]at this;cases this
   have mV:∀b,(b∈(L i).1\/b∈(L i).2)->t.heap b=(S i).heap b:=by
    intro b hb;rw[ht];refine kO VI hD (RQ b) (λk hk hw=>?_) λk hk mb hw=>?_
    .rcases K.mem k i hk VI with h|h
     .exact Wx k h
     .exact Zq ⟨hw,hb⟩ (TH h b).1
    .rcases K.mem i k hk mb with h|h
     .exact Aif
     .rcases hb with hb|hb
      .exact Zq ⟨hb,hw⟩ (TH h b).2
      .exact Zq ⟨hb,.inr hw⟩ (TH h b).1
   have U9:∀x∈O8 ops.toList o,F i x=f x:=by
    intro x hx;symm;exact AfR
   obtain⟨t',rd,wr,r1,r2,r3,r4⟩:=n6 {t with next:=(S i).next} rfl λb hb=>mV b hb
   have yx:∀b,({t with next:=(S i).next}:St).next<=b->b<t'.next->({t with next:=(S i).next}:St).heap b=none:=by
    intro b h1 h2;simp only at h1;rw[r2]at h2;have hw:=n3 b ⟨h1,h2⟩;show t.heap b=none;rw[mV b (.inr hw)];exact K.AL7 i AA b h1
   have r1:=xD U9 r1;refine fb (st:={t with next:=(S i).next}) (hE.le he) hr Kr ho Mu r1 yx ro _ Q λm1 a1 w1 e1 q1 UN d1=>?_;have hgd:=Yr (IH:=IH) (i:=i) AA;refine ih (IH.setIfInBounds i true) a1 w1 m1 t' (f.put o.dst (V i)) (by simp[hs]) AdF ?_ (he.trans e1) ?_ ?_ q1 UN (d1.trans hd)
   .exact AgW
   .intro b
    rw[xh (D:=λk=>IH.getD k false) VI hgd (λk hk mb h1 h2=>by
     rcases K.mem i k hk mb with h|h
     .exact Aif
     .exact Zq ⟨h1,.inr h2⟩ (TH h b).1)]
    by_cases hw:b∈(L i).2
    .rw[Ps hw];exact r3 b hw
    .rw[Ng hw,r4 b hw];exact ht b
   .intro x
    rw[xf (D:=λk=>IH.getD k false) VI hgd (λk hk mb h1 h2=>by
     have Ld:ops[k]?=some ops[k]:=Bv mb;rcases K.AAO i k o _ hk ho Ld with h|h
     .exact Aif
     .rw[jb]at h1;rw[show ops.toList[k]?=some ops[k] by simp]at h2;exact Zq h2 ((N0 h).1 x h1).2),AB3,jb]
    simp only[Option.bind_some];rw[dY]
def lb(ro:ON){nt:Nat}{ops:Array CI}{id:Nat}(Q:QX){K:Ks}{m:J}{w:World}{st:St}{fr:Fr}{a:Act}
  (hE:QE X.Lj m)(hr:IQ m st.heap w)(hf:Ha st)(Kr:FR m nt fr a.tmps)(h:ADx P md X nt ops.toList true K fr st)
  (hQ:∀m' a' w' Vz IK,Jt m w m' w'->IQ m' IK.heap w'->Ha IK->IL st IK->FR m' nt Vz a'.tmps->a'.defers=a.defers->K Vz IK->Q .normal a' w'):(GH id ops true).wpIn (Fw ro) 0 P Q a w:=by
 simp only[ADx]at h;cases KH:Oq ops.toList&&P.follows .mixedOrders with
 |false=>simp only[KH,cond_false]at h
 |true=>
  simp only[KH,cond_true]at h;obtain⟨zG,APL⟩:=and_true KH;obtain⟨S,F,V,l,g1,g2,⟨RF,hK0⟩,g4,g5⟩:=UD ops.toList 0 AD h;simp only[CR,CB]at hK0 g4;simp only[Oq,Bk]at zG
  have hK:VK P md X nt ops S F V (λi=>l.getD i ([],[])):=by
   refine⟨λi o ho=>?_,λi o ho e he hb=>?_,λi j sS hj=>?_,λi j a b sS ha hb=>?_,by rw[g1];exact hf⟩
   .have:=g5 i o (ED _) Abm;exact Afx
   .have:=TJ zG.1 i o Abm e he hb;omega
   .have hlj:l[j]?=some (l.getD j ([],[])):=by
     simp only[FC];rw[BZ AA];rfl
    have hli:([]++l)[i]?=some (l.getD i ([],[])):=by
     simp only[FC,CX];rw[BZ AA];rfl
    exact Yh RF i j _ _ AcX hlj hli
   .exact Ru zG.2 i j b a AcX AW Ab0
  apply wpIn_region_draw;intro tp;rw[APL];show wpOpsIn (Fw ro) 0 P ops Q (FG .any ops tp) a _;unfold FG;apply wpAnyIn_sound
  have aw:∀k,(C9 ops.size false).getD k false=false:=by
   intro k;simp only[CC,Dx];split<;>rfl
  have hHD:∀N b,HD S (λi=>l.getD i ([],[])) (λk=>(C9 ops.size false).getD k false) N b=(S 0).heap b:=by
   intro N b
   induction N with
   |zero=>rfl
   |succ N ih=>simp only[HD,aw];rw[Ng AD,<- ih];simp only[aw]
  have hFD:∀N x,FD ops.toList F V (λk=>(C9 ops.size false).getD k false) N x=F 0 x:=by
   intro N x
   induction N with
   |zero=>rfl
   |succ N ih=>simp only[FD,aw];rw[Ng AD,<- ih];simp only[aw]
  refine qt ro hK Q (m0:=m) (w0:=w) (df:=a.defers) hE (λm' a' w' e1 e2 e3 e4=>hQ m' a' w' (F ops.size) (S ops.size) e1 e2 (hK.AL7 _ (Bd _)) (by have:=hK.Ki _ (Bd _);rw[g1]at this;exact this) e3 e4 hK0) ops.size _ a _ m st fr AD ?_ ?_ (Jt.drew m w) ?_ ?_ hr.drew Kr rfl
  .exact Ai6
  .intro k _ hk;rw[aw]at hk;cases hk
  .intro b;rw[hHD,g1]
  .intro x;rw[hFD,g2]
end
end
section
open Go.Ab (Fw OT Sj and_true dT VH UL VL)
def jg(B:Ks)(K:Kx):Kx:=λx=>match x with
 | .normal=>B
 | .exit id=>K (.exit id)
 | .ret=>K .ret
def bq(id:Nat)(K:Kx):Kx:=λx=>match x with
 | .normal=>K .normal
 | .exit sj=>bif Bo sj id then K .normal else K (.exit sj)
 | .ret=>K .ret
def fO(body:Ks->Ks):Nat->Ks
 |0=>λ_ _=>False
 |n+1=>body (fO body n)
def He(x:PV)(A B:Prop):Prop:=match x with
 | .bool b=>(b=true->A)/\(b=false->B)
 |_=>False
def ua(fr:Fr):LN->LP->Fr
 |p::ps,a::as=>ua (fr.set p a) ps as
 |_,_=>fr
def ZS(P:Cc)(X:Mode)(nt:Nat)(g:Cb)(ps:LN)(A B:Kx->Ks)(K:Kx):Ks:=λfr st=>match X with
 | .Im E=>(∀m,E.holds m)/\∃gf Xh,∃(I:LLP->St->Prop) (R:St->St->Prop) (xs:LLP),Oh fr g=some (.fn gf Xh)/\Pn P gf=true/\(∀p,p∈ps->p<nt)/\(∀x,x∈xs->x.length=ps.length)/\
  (∀Jp x post s,xs=Jp++x::post->I Jp s->Ha s->A (λex f1 s1=>ex=.normal/\B (λex2 _ s2=>ex2=.normal/\I (Jp++[x]) s2/\R s s2) f1 s1) (ua fr ps x) s)/\
  (∀(E':Xg) (L:Nat),(∀Jp x post s,xs=Jp++x::post->I Jp s->Ha s->YW E' P L x s λr s'=>r=.bool true/\I (Jp++[x]) s'/\R s s')->SW E' P gf (.yield L::Xh) st λ_ s'=>I xs s')/\
  (∀s,I xs s->Ha s->IL st s->K .normal fr s)
 |_=>False
section
variable(P:Program) (md:Bool) (X:Mode) (nt:Nat)
def MB:DA->Bool->Kx->Ks
 | .skip,_,K=>K .normal
 | .label _,_,K=>K .normal
 | .region _ ops d,_,K=>ADx P md X nt ops.toList d (K .normal)
 | .seq a b,rg,K=>MB a rg (jg (MB b rg K) K)
 | .cond c a b,rg,K=>λfr st=>H2 (Oh fr c) λx=>He x (MB a rg K fr st) (MB b rg K fr st)
 | .block id c,rg,K=>MB c rg (bq id K)
 | .loop c,rg,K=>λfr st=>∃n,fO (λW=>MB c rg (jg W K)) n fr st
 | .scope c,rg,K=>MB c rg K
 | .exit id,_,K=>K (.exit id)
 | .ret,_,K=>K .ret
 | .rangeFunc g ps a c,rg,K=>match rg with
  |true=>ZS P X nt g ps.toList (MB a false) (MB c false) K
  |false=>λ_ _=>False
 |_,_,_=>λ_ _=>False
end
def bj(Iw:Nat)(m:J)(w:World):List Ed->Prop
 |[]=>True
 |d::ds=>(∃r,d={target:=.collected r,args:=#[]}/\Iw<=r/\w.heap[r]?=some (.deferred (some []))/\¬m.iI r/\m.Lj r=none/\∀d'∈ds,d'≠d)/\bj Iw m w ds
def bj.ext{Iw:Nat}{m m':J}{w w':World}(h:Jt m w m' w'):∀{ds:List Ed},bj Iw m w ds->bj Iw m' w' ds
 |[],_=>trivial
 |d::ds,⟨⟨r,h1,h2,h3,h4,h0,h5⟩,h6⟩=>by
  have H5:r<w.heap.size:=(B4.1 h3).1;refine⟨⟨r,h1,h2,by rw[h.Kv r H5 h4];exact h3,λhi=>?_,by rw[h.Lj];exact h0,h5⟩,bj.ext h h6⟩;rcases h.iI hi with h'|h'
  .exact h4 h'
  .omega
def IQ.aZ{m:J}{h:HO}{w:World}(hr:IQ m h w){e:Nat->Option EN}(he:∀B o,e B=some o->w.heap[B]?=some o/\gW o=false/\(∀l c,o≠ .map l c)):IQ {m with Lj:=e} h w:=by
 have hle:m.le {m with Lj:=e}:=⟨λ_ _ h=>h,bB.refl _,λb B n e t h=>⟨B,n,t,h,Bd _,λ_=>⟨rfl,rfl⟩⟩,λ_ _ _=>rfl⟩
 exact⟨λb o hb=>(hr.PX b o hb).Ir hle λ_ _ _=>rfl,he,hr.Hm,hr.an,hr.Se,hr.TR,hr.M3,hr.Nz,hr.bK,hr.blt⟩
def IQ.put{m:J}{h:HO}{w:World}(hr:IQ m h w){B:Nat}{o o':EN}(hB:w.heap[B]?=some o)(ho:gW o=false)(hm:∀l c,o≠ .map l c)(Xb:gW o'=false)(he:m.Lj B=none):IQ m h (BJ w B o'):=by
 have hc:∀{o:EN},gW o=false->∀c t fr,o≠ .cells c t fr:=λh c t fr e=>by rw[e]at h;cases h
 obtain⟨g1,g2,g3,g4⟩:=Go.Ab.L7 w B o o' hB (hc ho) (hc Xb)
 have MT:∀{k:Nat} {vs:AV0} {ty:Bm} {fz:Nat×Nat},w.heap[k]?=some (.cells vs ty fz)->k≠B:=by
  rintro k vs ty fz h1 rfl;rw[hB]at h1;cases h1;cases ho
 refine⟨λb o1 hb=>?_,λk o1 hk=>?_,λb n e hb=>?_,λk ks hk=>?_,hr.Se,hr.TR,hr.M3,hr.Nz,hr.bK,λb k hb=>by rw[g3];exact hr.blt b k hb⟩
 .have:=hr.PX b o1 hb;cases o1 with
  |box cs=>
   obtain⟨k,vs,ty,h1,h2,h3⟩:=this;exact⟨k,vs,ty,h1,(g2 k (MT h2)).trans h2,h3⟩
  |LM e cs=>
   obtain⟨k,vs,ty,h1,h0,h2,h3⟩:=this;exact⟨k,vs,ty,h1,h0,(g2 k (MT h2)).trans h2,h3⟩
  |map l=>
   obtain⟨k,es,c,h1,h2,h3⟩:=this;exact⟨k,es,c,h1,(g2 k (by rintro rfl;rw[hB]at h2;cases h2;exact hm _ _ rfl)).trans h2,h3⟩
  |Hm _ _=>trivial
  |NY=>trivial
 .obtain⟨h1,h2⟩:=hr.Lj k o1 hk;exact⟨(g2 k (by rintro rfl;rw[he]at hk;cases hk)).trans h1,h2⟩
 .rcases hr.Hm b n e hb with h1|⟨h0,k,t,h1,ks,h2,h3,vs,ty,h4,h5⟩
  .exact AiL
  .exact .inr ⟨h0,k,t,h1,ks,h2,h3,vs,ty,(g2 k (MT h4)).trans h4,h5⟩
 .obtain⟨vs,ty,h1,h2⟩:=hr.an k ks hk;exact⟨vs,ty,(g2 k (MT h1)).trans h1,h2⟩
section
variable{P:Program} {md:Bool} {X:Mode}
def Xt(P:Cc)(md:Bool)(X:Mode)(ro:ON)(Iw nt:Nat)(c:DA):Prop:=
 ∀⦃K:Kx⦄⦃m:J⦄⦃w:World⦄⦃st:St⦄⦃fr:Fr⦄⦃a:Act⦄,MB P md X nt c ro.isNone K fr st->QE X.Lj m->IQ m st.heap w->Ha st->FR m nt fr a.tmps->bj Iw m w a.defers->Iw<=w.heap.size->
  ∀Q:QX,(∀m' a' w' x Vz IK,Jt m w m' w'->IQ m' IK.heap w'->Ha IK->IL st IK->FR m' nt Vz a'.tmps->bj Iw m' w' a'.defers->K x Vz IK->Q (Sj x) a' w')->c.wpIn (Fw ro) 0 P Q a w
def la{ro:ON}{Iw nt:Nat}{x y:DA}(hx:Xt P md X ro Iw nt x)(hy:Xt P md X ro Iw nt y):Xt P md X ro Iw nt (.seq x y):=by
 intro K m w st fr a h hE hr hf Kr hd Kj Q hQ;apply wpIn_seq;refine hx h hE hr hf Kr hd Kj _ λm1 a1 w1 ex UN jT e1 r1 f1 w2 g1 d1 k1=>?_;cases ex with
 |normal=>exact hy k1 (hE.le e1) r1 f1 g1 d1 (CD Kj e1.size) Q λm2 a2 w2' ex2 fr2 st2 e2 r2 f2 w3 g2 d2 k2=>hQ m2 a2 w2' ex2 fr2 st2 (e1.trans e2) r2 f2 (w2.trans w3) g2 d2 k2
 |exit id=>exact hQ m1 a1 w1 _ UN jT e1 r1 f1 w2 g1 d1 k1
 |ret=>exact hQ m1 a1 w1 _ UN jT e1 r1 f1 w2 g1 d1 k1
def gd{ro:ON}{Iw nt:Nat}{c:DA}(hx:Xt P md X ro Iw nt c):Xt P md X ro Iw nt (.loop c):=by
 intro K m w st fr a h hE hr hf Kr hd Kj Q hQ;obtain⟨n,h⟩:=h
 have key:∀(n:Nat) {m:J} {w:World} {st:St} {fr:Fr} {a:Act},fO (λW=>MB P md X nt c ro.isNone (jg W K)) n fr st->QE X.Lj m->IQ m st.heap w->Ha st->FR m nt fr a.tmps->bj Iw m w a.defers->Iw<=w.heap.size->
   ∀Q:QX,(∀m' a' w' x Vz IK,Jt m w m' w'->IQ m' IK.heap w'->Ha IK->IL st IK->FR m' nt Vz a'.tmps->bj Iw m' w' a'.defers->K x Vz IK->Q (Sj x) a' w')->VL (Fw ro) 0 P c Q a w:=by
  intro n
  induction n with
  |zero=>intro m w st fr a h;exact h.elim
  |succ n ih=>
   intro m w st fr a h hE hr hf Kr hd Kj Q hQ;apply VH;refine hx h hE hr hf Kr hd Kj _ λm1 a1 w1 ex UN jT e1 r1 f1 w2 g1 d1 k1=>?_;cases ex with
   |normal=>exact ih k1 (hE.le e1) r1 f1 g1 d1 (CD Kj e1.size) Q λm2 a2 w2' ex2 fr2 st2 e2 r2 f2 w3 g2 d2 k2=>hQ m2 a2 w2' ex2 fr2 st2 (e1.trans e2) r2 f2 (w2.trans w3) g2 d2 k2
   |exit id=>exact hQ m1 a1 w1 _ UN jT e1 r1 f1 w2 g1 d1 k1
   |ret=>exact hQ m1 a1 w1 _ UN jT e1 r1 f1 w2 g1 d1 k1
 exact UL (key n h hE hr hf Kr hd Kj Q hQ)
def dp{m:J}{nt:Nat}:∀(ps:LN) {args:LP} {HW:LV} {fr:Fr} {tmps:AV0},(∀p,p∈ps->p<nt)->args.length=ps.length->JT m args HW->FR m nt fr tmps->
  HW.length=ps.length/\FR m nt (ua fr ps args) ((ps.zip HW).foldl (λtmps (t,a)=>tmps.setIfInBounds t a) tmps)
 |[],args,HW,fr,tmps,_,hl,ha,hf=>by
  cases ha with
  |nil=>exact⟨rfl,hf⟩
  |cons _ _ _ _ _ _=>simp at hl
 |p::ps,args,HW,fr,tmps,hp,hl,ha,hf=>by
  cases ha with
  |nil=>simp at hl
  |cons a v l l' h1 h2=>
   obtain⟨k1,k2⟩:=dp ps (fr:=fr.set p a) (tmps:=tmps.setIfInBounds p v) (λq hq=>hp q (by simp[hq])) AZ h2 (hf.set (hp p AD) h1);exact⟨by simp[k1],k2⟩
def cK{Iw nt:Nat}{g:Cb}{ps:Array Tmp}{as bd:DA}(ha:∀L b,Xt P md X (some L) b nt as)(hb:∀L b,Xt P md X (some L) b nt bd):Xt P md X none Iw nt (.rangeFunc g ps as bd):=by
 intro K m w st fr a h hE hr hf Kr hd Kj Q hQ;have h:ZS P X nt g ps.toList (MB P md X nt as false) (MB P md X nt bd false) K fr st:=h;unfold ZS at h;split at h
 case h_2=>exact h.elim
 rename_i E;obtain⟨AGF,gf,Xh,I,R,xs,hg,oJ,hps,hxs,mX,ATk,T4⟩:=h;unfold Pn at oJ;split at oJ
 case h_2=>cases oJ
 rename_i fn QU;obtain⟨MR,Yz⟩:=Go.Ab.and_true oJ;obtain⟨cc,jF⟩:=DK.1 MR;have hfv:=QJ Kr hg;generalize hgv:a.eval g=fv at hfv;cases hfv with
 |data _ _ hd=>cases hd
 |fn _ _ cs Jw=>
 apply wpIn_rangeFunc;intro AJo _;obtain⟨e1,r1⟩:=hr.aC (.deferred (some [])) (Go.Ab.KY w _ AdZ);obtain⟨QA,fH⟩:∃r:Loop,r={state:=.ready,pending:=none,fn:=AJo,tmps:=a.tmps,params:=ps,assign:=as,body:=bd,defers:=w.heap.size}:=⟨_,rfl⟩
 obtain⟨e2,r2⟩:=r1.aC (.loop QA) (Go.Ab.KY _ _ AdZ);have xT:=e1.trans e2;obtain⟨w1,TN⟩:∃w1,w1=(w.alloc (.deferred (some []))).alloc (.loop QA):=⟨_,rfl⟩
 rw[<- TN]at e2 r2 xT;have N1:(w.alloc (.deferred (some []))).heap.size=w.heap.size+1:=AD;have APc:w1.heap.size=w.heap.size+2:=by rw[TN];simp
 have hL:w1.heap[w.heap.size+1]?=some (.loop QA):=by
  rw[TN];have:=E2 (w.alloc (.deferred (some []))) (.loop QA);rwa [N1]at this
 have hD:w1.heap[w.heap.size]?=some (.deferred (some [])):=by
  rw[TN];have:=Go.heap_alloc_old (w.alloc (.deferred (some []))) (.loop QA) (w.heap.size) AD;rw[this];exact E2 w _
 obtain⟨L,hLd⟩:∃L,L=w.heap.size+1:=⟨_,rfl⟩
 rw[<- hLd]at hL
 have hmL:m.Lj L=none:=by
  cases hh:m.Lj L with
  |none=>rfl
  |some o=>have:=(B4.1 (hr.Lj L o hh).1).1;omega
 let m1:J:={m with Lj:=λB=>if B=L then some (.loop QA)else m.Lj B}
 have APD:m.le m1:=⟨λ_ _ h=>h,bB.refl _,λb B n e t h=>⟨B,n,t,h,Bd _,λ_=>⟨rfl,rfl⟩⟩,λ_ _ _=>rfl⟩
 have rm1:IQ m1 st.heap w1:=r2.aZ λB o ho=>by
  have ho:(if B=L then some (.loop QA)else m.Lj B)=some o:=ho;by_cases c:B=L
  .rw[Ps c]at ho;cases ho;rw[c];exact⟨hL,rfl,λl c e=>by cases e⟩
  .rw[Ng c]at ho;exact r2.Lj B o ho
 let E':Xg:=⟨λm'=>m1.le m'/\m'.Lj L=some (.loop QA),λ⟨h1,h2⟩ he=>⟨h1.trans he.le,by rw[he.Lj];exact h2⟩⟩
 have APa:∀Jp x post s,xs=Jp++x::post->I Jp s->Ha s->YW E' P L x s λr s'=>r=.bool true/\I (Jp++[x]) s'/\R s s':=by
  intro Jp x post s hx hI hfs mm ww HW hE' hrr hv;obtain⟨AXN,AF0⟩:m1.le mm/\mm.Lj L=some (.loop QA):=hE';have hwL:=(hrr.Lj L _ AF0).1;obtain⟨b1,b2⟩:=dp ps.toList hps (hxs x Acr) hv (Kr.mono (APD.trans AXN));refine⟨QA,hwL,by rw[fH];simpa using b1,?_⟩
  have hz:(QA.params.zip HW.toArray).foldl (λtmps (t,a)=>tmps.setIfInBounds t a) QA.tmps=(ps.toList.zip HW).foldl (λtmps (t,a)=>tmps.setIfInBounds t a) a.tmps:=by
   rw[fH,<- Array.foldl_toList];simp
  rw[hz];have hra:QA.assign=as:=by rw[fH]
  have hrb:QA.body=bd:=by rw[fH]
  rw[hra,hrb];refine roundIn_of_wpIn trivial ?_;refine ha L 0 (a:={tmps:=_,defers:=[]}) (mX Jp x post s hx hI hfs) (AGF mm) hrr hfs b2 trivial (ED _) _ λm2 a2 w2 ex f1 s1 pM r2' f2' g2' AWP d2' k2'=>?_;obtain⟨rfl,k2'⟩:=k2';have ATX:m2.Lj L=some (.loop QA):=by rw[pM.Lj];exact AF0
  have AGJ:=(r2'.Lj L _ ATX).1;obtain⟨busy,ABS⟩:∃r:Loop,r={QA with state:=.busy}:=⟨_,rfl⟩
  obtain⟨p1,p2,p3,p4⟩:=Go.Ab.L7 w2 L _ (.loop busy) AGJ AdZ AdZ
  refine⟨BJ w2 L (.loop busy),by
   simp only[Instr.beginRound,Bh,Go.Ab.QN AGJ,Result.andThen_ok,Go.Ab.QO AGJ];rw[ABS,fH];rfl,?_⟩
  have r3a:IQ {m2 with Lj:=λB=>if B=L then none else m2.Lj B} s1.heap w2:=r2'.aZ λB o ho=>by
   by_cases c:B=L
   .simp only[c,if_true]at ho;cases ho
   .simp only[Ng c]at ho;exact r2'.Lj B o ho
  have r3b:=r3a.put AGJ rfl Aeh (o':=.loop busy) rfl AD
  have r3:IQ {m2 with Lj:=λB=>if B=L then some (.loop busy)else m2.Lj B} s1.heap (BJ w2 L (.loop busy)):=by
   have:=r3b.aZ (e:=λB=>if B=L then some (.loop busy)else m2.Lj B) λB o ho=>by
    by_cases c:B=L
    .simp only[c,if_true,Ba]at ho;subst ho;rw[c];exact⟨p1,rfl,λl c e=>by cases e⟩
    .simp only[Ng c]at ho;obtain⟨q1,q2⟩:=r2'.Lj B o ho;exact⟨(p2 B c).trans q1,q2⟩
   exact this
  have AKJ:m2.le {m2 with Lj:=λB=>if B=L then some (.loop busy)else m2.Lj B}:=⟨λ_ _ h=>h,bB.refl _,λb B n e t h=>⟨B,n,t,h,Bd _,λ_=>⟨rfl,rfl⟩⟩,λ_ _ _=>rfl⟩
  refine hb L 0 (a:=a2) k2' (AGF _) r3 f2' (AWP.mono AKJ) (by
   have:∀ds,bj 0 m2 w2 ds->bj 0 {m2 with Lj:=λB=>if B=L then some (.loop busy)else m2.Lj B} (BJ w2 L (.loop busy)) ds:=by
    intro ds
    induction ds with
    |nil=>intro _;trivial
    |cons d0 ds ih=>
     rintro⟨⟨r,k1,k2,k3,k4,k0,k5⟩,k6⟩;have MT:r≠L:=by rintro rfl;rw[AGJ]at k3;cases k3
     exact⟨⟨r,k1,k2,(p2 r MT).trans k3,k4,by simp only[Ng MT];exact k0,k5⟩,ih k6⟩
   exact this _ d2') (ED _) _ λm4 a4 w4 ex2 f4 s4 e4 r4 f4' g4 fr4 d4 k4=>?_
  obtain⟨rfl,k4⟩:=k4;have AMK:m4.Lj=λB=>if B=L then some (.loop busy)else m2.Lj B:=e4.Lj
  have AKV:w4.heap[L]?=some (.loop busy):=(r4.Lj L _ (by rw[AMK];simp)).1;obtain⟨q1,q2,q3,q4⟩:=Go.Ab.L7 w4 L _ (.loop QA) AKV AdZ AdZ
  have Vg:(Fg L none).run P w4=.ok (.bool true) (BJ w4 L (.loop QA)):=by
   simp only[Fg,Bh,Go.Ab.QN AKV,Result.andThen_ok,Go.Ab.QO AKV];rw[ABS,fH];rfl
  refine⟨.bool true,_,Vg,?_⟩
  have r5a:IQ {m4 with Lj:=λB=>if B=L then none else m2.Lj B} s4.heap w4:=r4.aZ λB o ho=>by
   by_cases c:B=L
   .simp only[c,if_true]at ho;cases ho
   .simp only[Ng c]at ho;exact r4.Lj B o (by rw[AMK];simp only[Ng c];exact ho)
  have r5b:=r5a.put AKV rfl Aeh (o':=.loop QA) rfl AD;have AXV:m2.Lj=mm.Lj:=pM.Lj
  have r5:IQ {m4 with Lj:=mm.Lj} s4.heap (BJ w4 L (.loop QA)):=by
   have:=r5b.aZ (e:=mm.Lj) λB o ho=>by
    by_cases c:B=L
    .rw[c,AF0]at ho;cases ho;rw[c];exact⟨q1,rfl,λl c e=>by cases e⟩
    .obtain⟨z1,z2⟩:=r5a.Lj B o (by simp only[Ng c];rw[AXV];exact ho);exact⟨(q2 B c).trans z1,z2⟩
   exact this
  have AXO:m4.le {m4 with Lj:=mm.Lj}:=⟨λ_ _ h=>h,bB.refl _,λb B n e t h=>⟨B,n,t,h,Bd _,λ_=>⟨rfl,rfl⟩⟩,λ_ _ _=>rfl⟩
  have hszL:L<ww.heap.size:=(B4.1 hwL).1;have ATj:∀B,m2.iI B->B<ww.heap.size->mm.iI B:=λB hi H5=>(pM.iI hi).resolve_right AA;refine⟨{m4 with Lj:=mm.Lj},.bool true,.bool true,s4,rfl,⟨(pM.le.trans AKJ).trans (e4.le.trans AXO),?_,λb B hb=>?_,λb B n e t hb=>?_,λB ks hk=>?_,λB H5 hn=>?_,?_,?_,λad had=>?_,rfl⟩,r5,.data _ _ (.bool _),g2'.trans g4,f4',rfl,k4⟩
  .rw[q3];exact CD pM.size (CD (by rw[p3];exact Bd _) e4.size)
  .have s3:(BJ w2 L (.loop busy)).heap.size=w2.heap.size:=p3;rcases e4.kW b B hb with⟨b0,h0⟩|h0
   .exact pM.kW b0 B h0
   .right;have:=pM.size;omega
  .have s3:(BJ w2 L (.loop busy)).heap.size=w2.heap.size:=p3;rcases e4.dA b B n e t hb with⟨b0,n0,e0,t0,h0⟩|h0
   .exact pM.dA b0 B n0 e0 t0 h0
   .right;have:=pM.size;omega
  .have s3:(BJ w2 L (.loop busy)).heap.size=w2.heap.size:=p3;rcases e4.iM B ks hk with⟨b0,n0,e0,t0,h0⟩|h0|h0
   .rcases pM.dA b0 B n0 e0 t0 h0 with h1|h1
    .exact AiL
    .exact .inr (.inr h1)
   .exact pM.iM B ks h0
   .exact .inr (.inr (by have:=pM.size;omega))
  .by_cases c:B=L
   .rw[c,q1,hwL]
   .have ZB:¬m2.iI B:=λhi=>hn (ATj B hi H5);rw[q2 B c,e4.Kv B (by rw[p3];exact Cw H5 pM.size) ZB,p2 B c,pM.Kv B H5 hn]
  .exact(e4.os.trans rfl).trans pM.os
  .exact(e4.output.trans rfl).trans pM.output
  .rw[q4,e4.M4 ad (by rw[p3];exact Cw had pM.size),p4,pM.M4 ad had]
 have Vf:=ATk E' L APa m1 w1 (Fx (.yield L) #[] #[]::cs) ⟨J.le.refl m1,by show(if _ then _ else _)=_;rw[Ps rfl]⟩ rm1 (.cons _ _ _ _ (.yield L) (Jw.mono APD));refine⟨L,[{target:=.collected w.heap.size,args:=#[]}],w1,{target:=.fn (.func gf) cs.toArray,args:=#[]++#[Fx (.yield L) #[] #[]]},w1,gf,(Fx (.yield L) #[] #[]::cs).toArray,w1,?_,?_,λ_ _=>trivial,?_,λh=>by simp[Fw,Cy]at h,?_⟩
 .simp only[Instr.enterLoop,Fw,Bh];have RT:∀(w:World) (o:EN),(Go.newObj o).run P w=.ok w.heap.size (w.alloc o):=λw o=>rfl;simp only[RT,Result.andThen_ok,Sem.run_pure,N1];rw[TN,hLd,fH]
 .show Em P (CQ (a.eval g) _) _=_;rw[hgv];have Ok:Array.map a.eval (rangeCall g L).args=#[Fx (.yield L) #[] #[]]:=by simp[Act.eval]
  rw[Ok];rfl
 .simp only[invoke,DC,Bh,run_program,Result.andThen_ok,QU,(by simpa using Yz:(fn.name== "runtime.NumGoroutine")=false),Ch,if_false,jF,Option.isNone_some];simp
 .have Wy:E7 (Fw none) (0-1) P gf (Fx (.yield L) #[] #[]::cs).toArray w1 (ACT m1 w1 st λ_ s'=>I xs s'):=Vf;refine Wy.mono ?_;rintro en w3 ⟨m3,v3,r3,s3,rfl,e3,rr3,hv3,g3,f3,k3⟩;have AMJ:m3.Lj=m1.Lj:=e3.Lj;have AKU:w3.heap[L]?=some (.loop QA):=(rr3.Lj L _ (by rw[AMJ];show(if _ then _ else _)=_;rw[Ps rfl])).1;obtain⟨AFY,ATW⟩:∃r:Loop,r={QA with state:=.exhausted}:=⟨_,rfl⟩
  obtain⟨q1,q2,q3,q4⟩:=Go.Ab.L7 w3 L _ (.loop AFY) AKU AdZ AdZ
  have Vg:(Fs L).run P w3=.ok none (BJ w3 L (.loop AFY)):=by
   have hbq:(QA.state==LoopState.busy)=false:=by rw[fH];rfl
   simp only[Fs,Bh,Go.Ab.QN AKU,Result.andThen_ok,hbq,Ch,if_false,Go.Ab.QO AKU];rw[ATW,fH];rfl
  have r4a:IQ {m3 with Lj:=m.Lj} s3.heap w3:=rr3.aZ λB o ho=>by
   have c:B≠L:=by rintro rfl;rw[hmL]at ho;cases ho
   exact rr3.Lj B o (by rw[AMJ];show(if _ then _ else _)=_;rw[Ng c];exact ho)
  have r4:=r4a.put AKU rfl Aeh (o':=.loop AFY) rfl hmL;have AKJ:m3.le {m3 with Lj:=m.Lj}:=⟨λ_ _ h=>h,bB.refl _,λb B n e t h=>⟨B,n,t,h,Bd _,λ_=>⟨rfl,rfl⟩⟩,λ_ _ _=>rfl⟩
  have ADC:∀B,m1.iI B->B<w.heap.size:=λB hi=>hr.AGj (B:=B) hi
  have AO5:Jt m w {m3 with Lj:=m.Lj} (BJ w3 L (.loop AFY)):=by
   refine⟨(APD.trans e3.le).trans AKJ,?_,λb B hb=>?_,λb B n e t hb=>?_,λB ks hk=>?_,λB H5 hn=>?_,?_,?_,λad had=>?_,rfl⟩
   .rw[q3];exact CD xT.size e3.size
   .rcases e3.kW b B hb with h0|h0
    .exact .inl h0
    .exact AiM
   .rcases e3.dA b B n e t hb with h0|h0
    .exact .inl h0
    .exact AiM
   .rcases e3.iM B ks hk with h0|h0|h0
    .exact .inl h0
    .exact .inr (.inl h0)
    .exact AkX
   .rw[q2 B AA,e3.Kv B AA hn,xT.Kv B H5 hn]
   .exact(show w3.os=w.os from e3.os.trans xT.os)
   .exact(show w3.output=w.output from e3.output.trans xT.output)
   .rw[q4,e3.M4 ad AA,xT.M4 ad had]
  have oH:bj Iw {m3 with Lj:=m.Lj} (BJ w3 L (.loop AFY)) ([{target:=.collected w.heap.size,args:=#[]}]++a.defers):=by
   refine⟨⟨w.heap.size,rfl,Kj,?_,λhi=>?_,?_,λd' hd' hde=>?_⟩,hd.ext AO5⟩
   .rw[q2 _ AA,e3.Kv _ AA (λhi=>by have:=ADC _ hi;omega)];exact hD
   .have hi:m3.iI w.heap.size:=hi;rcases e3.iI hi with h0|h0
    .have:=ADC _ h0;omega
    .omega
   .show m.Lj w.heap.size=none;cases hh:m.Lj w.heap.size with
    |none=>rfl
    |some o=>have:=(B4.1 (hr.Lj _ o hh).1).1;omega
   .exact AfW
  refine⟨none,_,Vg,?_⟩;exact hQ _ {a with defers:=[{target:=.collected w.heap.size,args:=#[]}]++a.defers} _ .normal fr s3 AO5 r4 f3 g3 (Kr.mono AO5.le) oH (T4 s3 k3 f3 g3)
def um(nt:Nat)(c:DA):∀(ro:ON) (Iw:Nat),Xt P md X ro Iw nt c:=by
 induction c with
 |skip=>intro ro Iw K m w st fr a h hE hr hf Kr hd Kj Q hQ;exact wpIn_skip (hQ _ _ _ .normal fr st (Jt.refl _ _) hr hf (IL.refl _) Kr hd h)
 |label _=>intro ro Iw K m w st fr a h hE hr hf Kr hd Kj Q hQ;exact wpIn_label (hQ _ _ _ .normal fr st (Jt.refl _ _) hr hf (IL.refl _) Kr hd h)
 |exit id=>intro ro Iw K m w st fr a h hE hr hf Kr hd Kj Q hQ;exact wpIn_exit (hQ _ _ _ (.exit id) fr st (Jt.refl _ _) hr hf (IL.refl _) Kr hd h)
 |ret=>intro ro Iw K m w st fr a h hE hr hf Kr hd Kj Q hQ;exact wpIn_ret (hQ _ _ _ .ret fr st (Jt.refl _ _) hr hf (IL.refl _) Kr hd h)
 |goto _=>intro ro Iw K m w st fr a h;exact h.elim
 |refuse _=>intro ro Iw K m w st fr a h;exact h.elim
 |rangeFunc g ps as bd vt ihb=>
  intro ro Iw;cases ro with
  |some l=>intro K m w st fr a h;exact h.elim
  |none=>exact cK (λL b=>vt (some L) b) (λL b=>ihb (some L) b)
 |region id ops AOC=>
  intro ro Iw K m w st fr a h hE hr hf Kr hd Kj Q hQ;cases AOC with
  |true=>exact lb ro Q hE hr hf Kr h λm' a' w' Vz IK e1 r1 f1 w2 g1 d1 k1=>hQ m' a' w' .normal Vz IK e1 r1 f1 w2 g1 Abn k1
  |false=>exact dH ro Q hE hr hf Kr h λm' a' w' Vz IK e1 r1 f1 w2 g1 d1 k1=>hQ m' a' w' .normal Vz IK e1 r1 f1 w2 g1 Abn k1
 |seq x y ihx ihy=>intro ro Iw;exact la (ihx ro Iw) (ihy ro Iw)
 |cond c x y ihx ihy=>
  intro ro Iw K m w st fr a h hE hr hf Kr hd Kj Q hQ;obtain⟨v,hv,hc⟩:=Lz h;have hrel:=QJ Kr hv;unfold He at hc;split at hc
  .rename_i b;generalize hcv:a.eval c=cv at hrel;cases hrel with|data _ _ hd'=>
   cases hd';cases b with
   |true=>exact wpIn_cond_true hcv (ihx ro Iw (hc.1 rfl) hE hr hf Kr hd Kj Q hQ)
   |false=>exact wpIn_cond_false hcv (ihy ro Iw (hc.2 rfl) hE hr hf Kr hd Kj Q hQ)
  .exact hc.elim
 |block id c ih=>
  intro ro Iw K m w st fr a h hE hr hf Kr hd Kj Q hQ;apply wpIn_block;refine ih ro Iw h hE hr hf Kr hd Kj _ λm1 a1 w1 ex UN jT e1 r1 f1 w2 g1 d1 k1=>?_;cases ex with
  |normal=>exact hQ m1 a1 w1 .normal UN jT e1 r1 f1 w2 g1 d1 k1
  |exit sj=>
   simp only[bq]at k1;simp only[Sj,Exit.inBlock];by_cases hid:sj=id
   .subst hid;rw[Go.Ab.To]at k1;rw[Ps rfl];exact hQ m1 a1 w1 .normal UN jT e1 r1 f1 w2 g1 d1 k1
   .rw[Go.Ab.Sf hid]at k1;rw[Ng hid];exact hQ m1 a1 w1 (.exit sj) UN jT e1 r1 f1 w2 g1 d1 k1
  |ret=>exact hQ m1 a1 w1 .ret UN jT e1 r1 f1 w2 g1 d1 k1
 |loop c ih=>intro ro Iw;exact gd (ih ro Iw)
 |scope c ih=>
  intro ro Iw K m w st fr a h hE hr hf Kr hd Kj Q hQ;apply dT;refine ih ro Iw h hE hr hf Kr hd Kj _ λm1 a1 w1 ex UN jT e1 r1 f1 w2 g1 d1 k1=>⟨?_,hQ m1 a1 w1 ex UN jT e1 r1 f1 w2 g1 d1 k1⟩
  intro l;cases ex<;>simp[Sj]
def Vr{α β:Type}{x:Option α}{k:α->Prop}(h:H2 x k){T:β->Prop}{k':α->β->Prop}(hk:∀a,k a->∃b,T b/\k' a b):∃b,T b/\H2 x (k' · b):=by
 cases x with
 |none=>exact h.elim
 |some a=>obtain⟨b,h1,h2⟩:=hk a h;exact⟨b,h1,h2⟩
def wV{β:Type}(hX:∀E,X≠ .Im E){u:Bool}{op:Op}{vs:LP}{st:St}{k:KL}(h:opP P md X u op vs st k){T:β->Prop}{k':PV->St->LN->LN->β->Prop}
  (hk:∀v s r w,k v s r w->∃b,T b/\k' v s r w b):∃b,T b/\opP P md X u op vs st (k' · · · · b):=by
 unfold opP at h⊢;split at h
 .rename_i f args KO;cases he:Pn P f with
  |false=>simp only[he,cond_false]at h
  |true=>
   simp only[he,cond_true]at h⊢;rw[Pc]at h;simp only[Pc];rcases h with⟨v,IK,bs,h1,h2⟩|h
   .obtain⟨b,g1,g2⟩:=hk _ _ _ _ h2;exact⟨b,g1,.inl ⟨v,IK,bs,h1,g2⟩⟩
   .cases u with
    |true=>
     cases X with
     |old=>exact h.elim
     |lZ E=>
      obtain⟨v,IK,h1,h2⟩:=h;obtain⟨b,g1,g2⟩:=hk _ _ _ _ h2;exact⟨b,g1,.inr ⟨v,IK,h1,g2⟩⟩
     |Im E=>exact Zq rfl (hX E)
    |false=>
     cases X with
     |old=>exact h.elim
     |lZ E=>
      obtain⟨v,IK,fp,h1,h2⟩:=h;obtain⟨b,g1,g2⟩:=hk _ _ _ _ h2;exact⟨b,g1,.inr ⟨v,IK,fp,h1,g2⟩⟩
     |Im E=>exact Zq rfl (hX E)
 .cases u with
  |true=>
   cases X with
   |old=>exact h.elim
   |lZ E=>exact h.elim
   |Im E=>exact Zq rfl (hX E)
  |false=>exact h.elim
 .cases u with
  |true=>
   cases X with
   |old=>exact h.elim
   |lZ E=>exact h.elim
   |Im E=>exact Zq rfl (hX E)
  |false=>exact h.elim
 .exact Vr h λq hq=>Vr hq λp hp=>hk _ _ _ _ hp
def ABI{β:Type}(hX:∀E,X≠ .Im E){u:Bool}{ops:List CI}{o:CI}{fr:Fr}{st:St}{k:KL}(h:gP P md X u ops o fr st k){T:β->Prop}{k':PV->St->LN->LN->β->Prop}
  (hk:∀v s r w,k v s r w->∃b,T b/\k' v s r w b):∃b,T b/\gP P md X u ops o fr st (k' · · · · b):=by
 unfold gP at h⊢;cases hg:o.guard with
 |none=>
  rw[hg]at h;exact Vr h λvs Mi=>wV hX Mi hk
 |some p=>
  obtain⟨j,QZ⟩:=p;rw[hg]at h;simp only at h⊢;cases hj:ops[j]? with
  |none=>rw[hj]at h;exact hk _ _ _ _ h
  |some o'=>
   rw[hj]at h;simp only at h⊢;cases hd:o'.dst with
   |none=>rw[hd]at h;exact hk _ _ _ _ h
   |some d=>
    rw[hd]at h;simp only at h⊢;unfold JZ at h⊢;split at h
    .exact Vr h λvs Mi=>wV hX Mi hk
    .exact hk _ _ _ _ h
    .exact h.elim
def ABs{β:Type}(hX:∀E,X≠ .Im E){nt:Nat}{ops:List CI}:∀{r:List CI} {K:Ks} {fr:Fr} {st:St},oP P md X nt ops r K fr st->∀{T:β->Prop} {K':Fr->St->β->Prop},(∀f s,K f s->∃b,T b/\K' f s b)->∃b,T b/\oP P md X nt ops r (K' · · b) fr st
 |[],K,fr,st,h,T,K',hk=>hk _ _ h
 |o::r,K,fr,st,h,T,K',hk=>by
  simp only[oP]at h⊢;cases Mu:Go.Ab.NK nt o.dst with
  |false=>simp only[Mu,cond_false]at h
  |true=>
   simp only[Mu,cond_true]at h⊢;exact ABI hX h λv s _ _ hv=>ABs hX hv hk
def wQ{β:Type}(hX:∀E,X≠ .Im E){nt:Nat}{ops:List CI}:∀{r:List CI} {K:Fr->List af->St->Prop} {fr:Fr} {st:St},oDP P md X nt ops r K fr st->∀{T:β->Prop} {K':Fr->List af->St->β->Prop},(∀f l s,K f l s->∃b,T b/\K' f l s b)->
  ∃b,T b/\oDP P md X nt ops r (K' · · · b) fr st
 |[],K,fr,st,h,T,K',hk=>hk _ _ _ h
 |o::r,K,fr,st,h,T,K',hk=>by
  simp only[oDP]at h⊢;cases Mu:Go.Ab.NK nt o.dst with
  |false=>simp only[Mu,cond_false]at h
  |true=>
   simp only[Mu,cond_true]at h⊢;exact ABI hX h λv s rd wr hv=>wQ hX (K':=λf l s' b=>K' f ((rd,wr++It st.next s.next)::l) s' b) hv λf l s' hh=>hk f _ s' hh
def lU{β:Type}(hX:∀E,X≠ .Im E){nt:Nat}(c:DA):∀{rg:Bool} {K:Kx} {fr:Fr} {st:St},MB P md X nt c rg K fr st->∀{T:β->Prop} {K':OT->Fr->St->β->Prop},(∀x f s,K x f s->∃b,T b/\K' x f s b)->∃b,T b/\MB P md X nt c rg (K' · · · b) fr st:=by
 induction c with
 |skip=>intro rg K fr st h T K' hk;exact hk _ _ _ h
 |label _=>intro rg K fr st h T K' hk;exact hk _ _ _ h
 |exit id=>intro rg K fr st h T K' hk;exact hk _ _ _ h
 |ret=>intro rg K fr st h T K' hk;exact hk _ _ _ h
 |goto _=>intro rg K fr st h;exact h.elim
 |refuse _=>intro rg K fr st h;exact h.elim
 |rangeFunc _ _ _ _ _ _=>
  intro rg K fr st h;cases rg with
  |false=>exact h.elim
  |true=>
   cases X with
   |old=>exact h.elim
   |lZ E=>exact h.elim
   |Im E=>exact Zq rfl (hX E)
 |region id ops d=>
  intro rg K fr st h T K' hk;cases d with
  |false=>exact ABs hX h λf s hh=>hk _ f s hh
  |true=>
   simp only[MB,ADx]at h⊢;cases KH:Go.Ab.Oq ops.toList&&P.follows .mixedOrders with
   |false=>simp only[KH,cond_false]at h
   |true=>
    simp only[KH,cond_true]at h⊢
    exact wQ hX (K':=λf l s b=>Ih [] l (Go.Ab.Ma ops.toList [])=false/\K' .normal f s b) h λf l s hh=>by
     obtain⟨b,h1,h2⟩:=hk _ f s hh.2;exact⟨b,h1,hh.1,h2⟩
 |seq a b vt ihb=>
  intro rg K fr st h T K' hk
  have:=vt (K':=λx f s b'=>jg (MB P md X nt b rg (K' · · · b')) (K' · · · b') x f s) h (T:=T) λx f s hh=>by
   cases x with
   |normal=>exact ihb hh hk
   |exit id=>exact hk _ _ _ hh
   |ret=>exact hk _ _ _ hh
  exact this
 |cond c a b vt ihb=>
  intro rg K fr st h T K' hk;refine Vr h λx hx=>?_;unfold He at hx⊢;split at hx
  .rename_i bb;cases bb with
   |true=>
    obtain⟨b',h1,h2⟩:=vt (hx.1 rfl) hk;exact⟨b',h1,(λ_=>h2),(λh=>by cases h)⟩
   |false=>
    obtain⟨b',h1,h2⟩:=ihb (hx.2 rfl) hk;exact⟨b',h1,(λh=>by cases h),λ_=>h2⟩
  .exact hx.elim
 |block id c ih=>
  intro rg K fr st h T K' hk
  have:=ih (K':=λx f s b'=>bq id (K' · · · b') x f s) h (T:=T) λx f s hh=>by
   cases x with
   |normal=>exact hk _ _ _ hh
   |exit sj=>
    simp only[bq]at hh⊢;cases hb:Bo sj id with
    |true=>rw[hb]at hh;exact hk _ _ _ hh
    |false=>rw[hb]at hh;exact hk _ _ _ hh
   |ret=>exact hk _ _ _ hh
  exact this
 |loop c ih=>
  intro rg K fr st h T K' hk;obtain⟨n,h⟩:=h
  have key:∀(n:Nat) {fr:Fr} {st:St},fO (λW=>MB P md X nt c rg (jg W K)) n fr st->∃b,T b/\fO (λW=>MB P md X nt c rg (jg W (K' · · · b))) n fr st:=by
   intro n
   induction n with
   |zero=>intro fr st h;exact h.elim
   |succ n ihn=>
    intro fr st h
    exact ih (K':=λx f s b'=>jg (fO (λW=>MB P md X nt c rg (jg W (K' · · · b'))) n) (K' · · · b') x f s) h λx f s hh=>by
     cases x with
     |normal=>exact ihn hh
     |exit id=>exact hk _ _ _ hh
     |ret=>exact hk _ _ _ hh
  obtain⟨b,h1,h2⟩:=key n h;exact⟨b,h1,n,h2⟩
 |scope c ih=>intro rg K fr st h T K' hk;exact ih h hk
end
section
variable(P:Program)
def ALK(fr:Fr)(st:St):EG->Option PV
 | .tmp t=>some (fr t)
 | .cell a t=>match m8 P t (fr a)with
  |some q=>match q.run st with
   |some p=>some p.1
   |none=>none
  |none=>none
def ZT(fr:Fr)(st:St):List EG->Option (LP)
 |[]=>some []
 |r::rs=>match ALK P fr st r with
  |some v=>match ZT fr st rs with
   |some l=>some (v::l)
   |none=>none
  |none=>none
def NF:LP->PV
 |[v]=>v
 |l=> .tuple l
def dk:PV->Option PV
 | .agg l=>match KR l with
  |some k=>some (.agg k)
  |none=>none
 |v=>v.data
def o5:LP->Option (LP)
 |[]=>some []
 |v::r=>match dk v with
  |some x=>match o5 r with
   |some l=>some (x::l)
   |none=>none
  |none=>none
def VO(e:Nat)(st:St):PV->Option PV
 | .tuple l=>match o5 l with
  |some k=>some (.tuple k)
  |none=>none
 | .nil=>some (.H6 e [])
 | .H6 _ []=>some (.H6 e [])
 | .H6 b G1=>match st.heap b with
  |some (.Hm n e')=>bif Bo n G1.length&&Bo e' e&&G1.all (λr=>Bo r.length e)&&C5 0 e then some (.H6 e G1)else none
  |_=>none
 |v=>dk v
def QG(a:PV):Option PV:=match a with
 | .tuple l=>(match o5 l with
  |some k=>some (PV.tuple k)
  |none=>none)
 |v=>dk v
def oj(e k:Nat)(rs:List EG)(Q:PV->LLP->Prop):Kx:=λx fr st=>match x with
 | .exit _=>False
 |_=>H2 (ZT P fr st rs) λl=>H2 (bif Bo e 0 then QG (NF l)else VO e st (NF l)) λr=>H2 (HZ st (Bw k)) λHs=>Q r Hs
def MO(args:LP):Fr:=λt=>(args[t]?).getD .undef
def Ol(IC:LLP):St:={heap:=λb=>(IC[b]?).map BD,next:=IC.length}
end
end
section
open Go.Ab (Fw OT Sj and_true tT XP Tn)
section
variable{P:Program} {m:J} {w:World}
def AHX{nt:Nat}{fr:Fr}{tmps:AV0}(Kr:FR m nt fr tmps){st:St}(hr:IQ m st.heap w){r:EG}{x:PV}(h:ALK P fr st r=some x):
  ∃v,(tT tmps r).run P w=.ok v w/\VR m x v:=by
 cases r with
 |tmp t=>
  simp only[ALK,Ba]at h;subst h;exact⟨_,rfl,Kr.get t⟩
 |cell a t=>
  simp only[ALK]at h;split at h
  .rename_i q hq;split at h
   .rename_i p hp;simp at h;subst h;obtain⟨_,v,g1,g2⟩:=sr (P:=P) hr (Kr.get a) hq rfl (y:=p.1) (IK:=p.2) (by rw[hp]);exact⟨v,Tn g1,g2⟩
   .cases h
  .cases h
def dI{nt:Nat}{fr:Fr}{tmps:AV0}(Kr:FR m nt fr tmps){st:St}(hr:IQ m st.heap w):∀{rs:List EG} {l:LP},ZT P fr st rs=some l->
  ∃l',(rs.mapM (tT tmps)).run P w=.ok l' w/\JT m l l'
 |[],l,h=>by simp[ZT]at h;subst h;exact⟨[],AD,.nil⟩
 |r::rs,l,h=>by
  simp only[ZT]at h;split at h
  .rename_i v hv;split at h
   .rename_i l' hl;simp at h;subst h;obtain⟨u,g1,g2⟩:=AHX Kr hr hv;obtain⟨us,g3,g4⟩:=dI Kr hr hl;refine⟨u::us,?_,.cons _ _ _ _ g2 g4⟩;rw[List.mapM_cons,Bh,g1];simp only[Bh,g3,Result.andThen_ok,Sem.run_pure]
   .cases h
  .cases h
def xM{l:LP}{l':LV}(h:JT m l l'):VR m (NF l) (if h:l'.toArray.size=1 then l'.toArray[0]else .tuple l'.toArray):=by
 cases h with
 |nil=>exact .tuple _ _ .nil
 |cons a v l l' h1 h2=>
  cases h2 with
  |nil=>exact h1
  |cons b u k k' h3 h4=>
   exact Aii
def gC{a x:PV}{v:Bc}(hv:VR m a v)(h:dk a=some x):R1 m.K x v:=by unfold dk at h;exact Af2
def gD:∀{l k:LP} {l':LV},JT m l l'->o5 l=some k->R1s m.K k l'
 |[],k,l',hv,h=>by simp[o5]at h;subst h;cases hv;exact .nil
 |a::l,k,l',hv,h=>by
  cases hv with
  |cons _ v _ l' h1 h2=>
   simp only[o5]at h;split at h
   .rename_i x hx;split at h
    .rename_i k' hk;simp at h;subst h;exact .cons _ _ _ _ (gC h1 hx) (gD h2 hk)
    .cases h
   .cases h
def oz{a x:PV}{v:Bc}(hv:VR m a v)(h:QG a=some x)(Iw:Nat):RR m.K w Iw x v:=by
 unfold QG at h;split at h
 .exact Agc
 .exact .one _ _ (gC hv h)
def ACc{st:St}(hr:IQ m st.heap w){e:Nat}{a x:PV}{v:Bc}(hv:VR m a v)(h:VO e st a=some x){Iw:Nat}(hb:∀b B n e t,m.Hm b=some (B,n,e,t)->Iw<=B):RR m.K w Iw x v:=by
 unfold VO at h;split at h
 .exact Agc
 .simp at h;subst h;cases hv with
  |data _ _ hd=>cases hd;exact .tM e
  |nil=>exact .tM e
 .simp at h;subst h;cases hv with
  |data _ _ hd=>cases hd
  |ai=>exact .tM e
  |H6 _ _ _ _ _ _ _ _ _ h0=>simp at h0
 .rename_i b G1 MT;split at h
  .rename_i n e' Lr;cases hc:Bo n G1.length&&Bo e' e&&G1.all (λr=>Bo r.length e)&&C5 0 e with
   |false=>simp[hc]at h
   |true=>
    simp only[hc,cond_true,Ba]at h;subst h;obtain⟨ATJ,hc4⟩:=and_true hc;obtain⟨AWv,hc3⟩:=and_true ATJ;obtain⟨fB,Ro⟩:=and_true AWv;have hn:=Bu fB;have he:=Bu Ro;subst hn he;have Jg:∀Gy∈G1,Gy.length=e':=λGy hm=>Bu (CV.1 hc3 Gy hm);rcases ABz hr Lr (.inr rfl) Jg hv with⟨rfl,rfl⟩|⟨h0,B,c,t,ks,vs,ty,rfl,AOx,hct,ho,hk,hR,hw,hs,hp⟩
    .exact .tM e'
    .exact .Hm G1 B e' c ks vs ty (hb _ _ _ _ _ ho) hk hR h0 AOx hw (by rw[hs];exact hct)
  .cases h
 .exact .one _ _ (gC hv h)
def Qa.box{K:KK}:∀{Bs:LN} {Xi:LLP},Qa K w Bs Xi->∀(i:Nat) (cs:LP),Xi[i]?=some cs->∃B vs ty,Bs[i]?=some B/\K B=none/\w.heap[B]?=some (.cells vs ty (0,0))/\Sv K cs vs.toList
 |_,_,.nil,i,cs,h=>by simp at h
 |_,_,.cons B NL Bs Xi vs ty hK hw hd hr,i,cs,h=>by
  cases i with
  |zero=>simp at h;subst h;exact⟨B,vs,ty,rfl,hK,hw,hd⟩
  |succ i=>simp at h;obtain⟨B',qc,ik,h1,h2⟩:=hr.box i cs h;exact⟨B',qc,ik,by simpa using h1,h2⟩
def vu{K:KK}(hK:AEq K w){Bs:LN}{IC:LLP}(hc:Qa K w Bs IC)(L6:Bs.Nodup):IQ {box:=λb=>Bs[b]?,Hm:=λ_=>none,K:=K} (Ol IC).heap w:=by
 have ao:∀b B,Bs[b]?=some B->∃cs,IC[b]?=some cs:=λb B hb=>by
  have H5:=(Bn.1 hb).1;rw[hc.length]at H5;exact⟨IC[b]'H5,BZ H5⟩
 refine⟨λb o hb=>?_,(λB o ho=>by cases ho),λb n e hb=>?_,hK,λb B hb=>?_,(λb x hb=>by cases hb),λb b' B h1 h2 _ _=>?_,(λ_ _ _ _ _ _ _ _ _ h=>by cases h),λb B hb _=>?_,λb B hb=>?_⟩
 .simp only[Ol,E3]at hb;obtain⟨NL,h1,rfl⟩:=hb;obtain⟨B,vs,ty,g1,g2,g3,g4⟩:=hc.box b NL h1;exact⟨B,vs,ty,g1,g3,Sv.vrs (m:={box:=λb=>Bs[b]?,Hm:=λ_=>none,K:=K}) g4⟩
 .simp only[Ol,E3]at hb;obtain⟨NL,_,h2⟩:=hb;cases h2
 .obtain⟨cs,h1⟩:=ao b B hb;exact⟨.box cs,by simp only[Ol];rw[h1];rfl,rfl⟩
 .obtain⟨l1,e1⟩:=Bn.1 h1;obtain⟨l2,e2⟩:=Bn.1 h2;rcases Nat.lt_trichotomy b b' with H5|heq|H5
  .exact Zq (e1.trans e2.symm) (Dn.1 L6 b b' l1 l2 H5)
  .exact heq
  .exact Zq (e2.trans e1.symm) (Dn.1 L6 b' b l2 l1 H5)
 .obtain⟨cs,Jw⟩:=ao b B hb;obtain⟨B',vs,ty,g1,g2,_⟩:=hc.box b cs Jw;have Py:Bs[b]?=some B:=hb;rw[Py]at g1;cases g1;exact g2
 .obtain⟨cs,Jw⟩:=ao b B hb;obtain⟨B',vs,ty,g1,_,g3,_⟩:=hc.box b cs Jw;have Py:Bs[b]?=some B:=hb;rw[Py]at g1;cases g1;exact(B4.1 g3).1
def ARc{K:KK}{Bs:LN}{a:PV}{v:Bc}(h:AR K Bs a v):VR {box:=λb=>Bs[b]?,Hm:=λ_=>none,K:=K} a v:=by
 cases h with
 |data _ _ hd=>exact .data _ _ hd
 |agg l l' hl=>exact .agg _ _ (Sv.vrs (m:={box:=λb=>Bs[b]?,Hm:=λ_=>none,K:=K}) hl)
 |G5 i B hi=>exact .G5 i 0 B hi
def qz{K:KK}{Bs:LN}:∀{l:LP} {l':LV},ARs K Bs l l'->JT {box:=λb=>Bs[b]?,Hm:=λ_=>none,K:=K} l l'
 |[],_,.nil=> .nil
 |_::_,_,.cons _ _ _ _ h1 h2=> .cons _ _ _ _ (ARc h1) (qz h2)
def ed{args:LP}{HW:LV}(h:JT m args HW)(n:Nat):
  FR m (max args.length n) (MO args) (HW.toArray++C9 (n-HW.toArray.size) undef):=by
 have hl:=h.length;refine⟨by simp;omega,λt=>?_⟩;unfold MO;by_cases ht:t<args.length
 .obtain⟨v,g1,g2⟩:=h.get (BZ ht)
  have:(HW.toArray++C9 (n-HW.toArray.size) undef).getD t undef=v:=by
   rw[CC,EV AB];simp[g1]
  rw[this,BZ ht];exact g2
 .have:(HW.toArray++C9 (n-HW.toArray.size) undef).getD t undef=undef:=by
   exact AjA
  rw[this,CA AA];exact .tuple _ _ .nil
def eu{st:St}:∀{bs:LN} {l:LLP},HZ st bs=some l->l.length=bs.length/\∀(i b:Nat),bs[i]?=some b->∃cs k:LP,st.heap b=some (.box cs)/\KR cs=some k/\l[i]?=some k
 |[],l,h=>by simp[HZ]at h;subst h;exact⟨rfl,λi b hb=>by simp at hb⟩
 |b::bs,l,h=>by
  simp only[HZ]at h;split at h
  .rename_i cs Jw;split at h
   .rename_i k hk;split at h
    .rename_i l' hl;simp at h;subst h;obtain⟨h1,h2⟩:=eu hl;refine⟨by simp[h1],λi b' hb=>?_⟩;cases i with
     |zero=>simp at hb;subst hb;exact⟨cs,k,Jw,hk,rfl⟩
     |succ i=>simp at hb;obtain⟨NL,k',g1,g2,g3⟩:=h2 i b' hb;exact⟨NL,k',g1,g2,by simpa using g3⟩
    .cases h
   .cases h
  .cases h
def Qa.nO{K:KK}:∀{Bs:LN} {Xi:LLP},Bs.length=Xi.length->(∀(i B:Nat) (cs:LP),Bs[i]?=some B->Xi[i]?=some cs->K B=none/\∃vs ty,w.heap[B]?=some (.cells vs ty (0,0))/\Sv K cs vs.toList)->Qa K w Bs Xi
 |[],[],_,_=> .nil
 |[],_::_,h,_=>by simp at h
 |_::_,[],h,_=>by simp at h
 |B::Bs,cs::Xi,hl,h=>by
  obtain⟨h1,vs,ty,h2,h3⟩:=h 0 B cs rfl rfl;exact .cons B cs Bs Xi vs ty h1 h2 h3 (Qa.nO AZ λi B' NL hB hc=>h (i+1) B' NL (by simpa using hB) (by simpa using hc))
def QK{fn:Eb}{tmps:AV0}{R:Ending->World->Prop}{m m1:J}{w:World}{h:HO}:
  ∀(ds:List Ed) {w1:World},Jt m w m1 w1->IQ m1 h w1->bj w.heap.size m1 w1 ds->(∀w2,Jt m w m1 w2->IQ m1 h w2->LeavesIn Cy 0 P fn tmps R [] .returning w2)->
   LeavesInM Cy 0 P fn tmps R ds .returning w1
 |[],w1,he,hr,_,hk=>hk w1 he hr
 |d::ds,w1,he,hr,⟨⟨r,h1,h2,h3,h4,h0,h5⟩,h6⟩,hk=>by
  subst h1;refine⟨(by intro h;cases h),.inl ⟨r,BJ w1 r (.deferred none),rfl,?_,?_⟩⟩
  .have JU:(FM r).run P w1=.ok (.deferred (some [])) w1:=by simp[FM,Em,h3]
   have ml:(GA r (.deferred none)).run P w1=.ok () (BJ w1 r (.deferred none)):=by simp only[GA,Em,h3];rfl
   exact Aiu
  .obtain⟨g1,g2,g3,g4⟩:=Go.Ab.L7 w1 r _ (.deferred none) h3 AdZ AdZ;refine QK ds (m1:=m1) ⟨he.le,by rw[g3];exact he.size,he.kW,he.dA,he.iM,λB hB hn=>?_,he.os,he.output,λa ha=>(g4 a).trans (he.M4 a ha),he.Lj⟩ (hr.put h3 rfl Aeh rfl h0) ?_ hk
   .rw[g2 B AA];exact he.Kv B hB hn
   .have key:∀ds,bj w.heap.size m1 w1 ds->(∀d'∈ds,d'≠({target:=.collected r,args:=#[]}:Ed))->bj w.heap.size m1 (BJ w1 r (.deferred none)) ds:=by
     intro ds
     induction ds with
     |nil=>intro _ _;trivial
     |cons d0 ds ih=>
      rintro⟨⟨q,k1,k2,k3,k4,k0,k5⟩,k6⟩ MT;refine⟨⟨q,k1,k2,?_,k4,k0,k5⟩,ih k6 λd' hd'=>MT d' (Co _ hd')⟩;rw[g2 q Acm];exact k3
    exact key ds h6 h5
def zx{f:CE}{fn:Eb}{c:DA}(QU:P.funcs[f]?=some fn)(hb:fn.body=some c){args:LP}{IC:LLP}{r:PV}{Hs:LLP}(e:Nat)
  {md:Bool}(h:MB P md .old (max args.length fn.ntmps) c true (oj P e IC.length fn.results.toList λr' c'=>r'=r/\c'=Hs) (MO args) (Ol IC)):PC P f args IC r Hs:=by
 intro K w Bs HW hK hC L6 Ok;have hr:=vu hK hC L6;have Mi:=qz Ok;have II:args.length=HW.length:=Mi.length;refine callsIn_of_wp_marks QU hb trivial ?_
 have Qx:Ha (Ol IC):=λb hb=>by
  exact AjB
 refine um (max args.length fn.ntmps) c none w.heap.size (a:={tmps:=_,defers:=[]}) h trivial hr Qx (ed Mi fn.ntmps) trivial (Bd _) _ λm1 a1 w1 x UN jT e1 r1 f1 _ g1 d1 k1=>?_
 have fin:(H2 (ZT P UN jT fn.results.toList) λl=>H2 (bif Bo e 0 then QG (NF l)else VO e jT (NF l)) λr'=>H2 (HZ jT (Bw IC.length)) λc'=>r'=r/\c'=Hs)->
   LeavesInM Cy 0 P fn a1.tmps (λen w'=>∃K' v,en=.returned v/\xZ K w Bs r Hs K' v w') a1.defers .returning w1:=by
  intro hk;obtain⟨l,hl,hk⟩:=Lz hk;obtain⟨r',XB,hk⟩:=Lz hk;obtain⟨c',hc',rfl,rfl⟩:=Lz hk;refine QK a1.defers e1 r1 d1 λw2 e2 r2=>?_;obtain⟨l',q1,q2⟩:=dI g1 r2 hl;have hv:=xM q2;refine⟨if h:l'.toArray.size=1 then l'.toArray[0]else .tuple l'.toArray,?_,m1.K,_,rfl,?_⟩
  .exact Aib
  .have Lr:∀b B n e t,m1.Hm b=some (B,n,e,t)->w.heap.size<=B:=by
    intro b B n e t ho;rcases e2.dA b B n e t ho with⟨_,_,_,_,h1⟩|h1
    .cases h1
    .exact h1
   obtain⟨c1,c2⟩:=eu hc';refine⟨e2.le.K,r2.an,λB ks Jr H5=>?_,?_,e2.size,λB H5 hn=>e2.Kv B H5 ?_,e2.os,e2.output,e2.M4,?_⟩
   .exact AiQ
   .refine Qa.nO (by rw[c1,ES];exact hC.length) λi B cs hB Jw=>?_;have hi:i<IC.length:=by rw[<- hC.length];exact(Bn.1 hB).1
    obtain⟨cs0,k,g2,g3,g4⟩:=c2 i i (by rw[Eg hi]);rw[Jw]at g4;cases g4;obtain⟨B',vs,ty,g5,g6,g7⟩:=r2.box i cs0 g2;have:=e2.le.box i B hB;rw[this]at g5;cases g5;exact⟨r2.bK i B this (by rw[g2];exact Na rfl),vs,ty,g6,g7.UJ g3⟩
   .rintro(⟨b,hb⟩|⟨b,n,e,t,hb⟩)
    .exact hn (Bt hb)
    .cases hb
   .cases he:Bo e 0 with
    |true=>simp only[he,cond_true]at XB;exact oz hv XB _
    |false=>simp only[he,cond_false]at XB;exact ACc r2 hv XB Lr
 cases x with
 |normal=>exact fin k1
 |exit id=>exact k1.elim
 |ret=>exact fin k1
def PQ(P:Cc)(f:CE)(args:LP)(IC:LLP)(Q:PV->LLP->Prop):Prop:=∃r Hs,PC P f args IC r Hs/\Q r Hs
def z6{f:CE}{fn:Eb}{c:DA}(QU:P.funcs[f]?=some fn)(hb:fn.body=some c){args:LP}{IC:LLP}{Q:PV->LLP->Prop}(e:Nat)
  {md:Bool}(h:MB P md .old (max args.length fn.ntmps) c true (oj P e IC.length fn.results.toList Q) (MO args) (Ol IC)):PQ P f args IC Q:=by
 obtain⟨⟨r,Hs⟩,hQ,h'⟩:=lU (β:=PV×LLP) (λE h=>by cases h) c h (T:=λb=>Q b.1 b.2) (K':=λx f s b=>oj P e IC.length fn.results.toList (λr' c'=>r'=b.1/\c'=b.2) x f s) λx f s hx=>by
  have:∀{A:Option (LP)} {B:LP->Option PV} {C:Option (LLP)},(H2 A λl=>H2 (B l) λr=>H2 C λc'=>Q r c')->∃b:PV×LLP,Q b.1 b.2/\H2 A λl=>H2 (B l) λr=>H2 C λc'=>r=b.1/\c'=b.2:=by
   intro A B C h0;obtain⟨l,g1,h1⟩:=Lz h0;obtain⟨r,g2,h2⟩:=Lz h1;obtain⟨c',g3,h3⟩:=Lz h2;exact⟨(r,c'),h3,by simp only[H2,g1,g2,g3,and_self]⟩
  cases x with
  |normal=>exact this hx
  |exit id=>exact hx.elim
  |ret=>exact this hx
 exact⟨r,Hs,zx QU hb e h',hQ⟩
def om(P:Cc)(rs:List EG)(Q:PV->St->Prop):Kx:=λx fr st=>match x with
 | .exit _=>False
 |_=>H2 (ZT P fr st rs) λl=>Q (NF l) st
def nu{X:Mode}{f:CE}{fn:Eb}{c:DA}(QU:P.funcs[f]?=some fn)(hb:fn.body=some c){args:LP}{st:St}{Q:PV->St->Prop}{md:Bool}(hf:Ha st)
  (h:MB P md X (max args.length fn.ntmps) c true (om P fn.results.toList Q) (MO args) st):SW X.Lj P f args st Q:=by
 intro m w HW hE hr Mi;have II:args.length=HW.length:=Mi.length;refine callsIn_of_wp_marks QU hb trivial ?_;refine um (max args.length fn.ntmps) c none w.heap.size (a:={tmps:=_,defers:=[]}) h hE hr hf (ed Mi fn.ntmps) trivial (Bd _) _ λm1 a1 w1 x UN jT e1 r1 f1 w1' g1 d1 k1=>?_
 have fin:(H2 (ZT P UN jT fn.results.toList) λl=>Q (NF l) jT)->LeavesInM Cy 0 P fn a1.tmps (ACT m w st Q) a1.defers .returning w1:=by
  intro hk;obtain⟨l,hl,hk⟩:=Lz hk;refine QK a1.defers e1 r1 d1 λw2 e2 r2=>?_;obtain⟨l',q1,q2⟩:=dI g1 r2 hl;refine⟨if h:l'.toArray.size=1 then l'.toArray[0]else .tuple l'.toArray,?_,m1,_,NF l,jT,rfl,e2,r2,xM q2,w1',f1,hk⟩;exact Aib
 cases x with
 |normal=>exact fin k1
 |exit id=>exact k1.elim
 |ret=>exact fin k1
def qF{A:Option (LP)}{Q:PV->St->Prop}{s:St}(h:H2 A λl=>Q (NF l) s):∃b:PV×St,Q b.1 b.2/\H2 A λl=>NF l=b.1/\s=b.2:=by obtain⟨l,g1,h1⟩:=Lz h;exact⟨(NF l,s),h1,by simp only[H2,g1,and_self]⟩
def AAJ{E:Xg}{f:CE}{fn:Eb}{c:DA}(QU:P.funcs[f]?=some fn)(hb:fn.body=some c){args:LP}{st:St}{Q:PV->St->Prop}{md:Bool}(hf:Ha st)(hQ:∀r s,Q r s->IL st s/\Ha s)
  (h:MB P md (.lZ E) (max args.length fn.ntmps) c true (om P fn.results.toList Q) (MO args) st):∃r IK,SC E P f args st r IK/\Q r IK:=by
 obtain⟨⟨r,IK⟩,hq,h'⟩:=lU (β:=PV×St) (λE h=>by cases h) c h (T:=λb=>Q b.1 b.2) (K':=λx f s b=>om P fn.results.toList (λr' s'=>r'=b.1/\s'=b.2) x f s) λx f s hx=>by
  cases x with
  |normal=>exact qF hx
  |exit id=>exact hx.elim
  |ret=>exact qF hx
 obtain⟨h1,h2⟩:=hQ r IK hq;exact⟨r,IK,.AUo (nu (X:=.lZ E) QU hb hf h') h1 h2,hq⟩
end
end
section
open Go.Ab (OT)
def pQ(x:Option KC)(s:St)(k:PV->St->Prop):Prop:=H2 x λq=>H2 (q.run s) λp=>k p.1 p.2
def Jy(x:Option KC)(s:St)(k:KL):Prop:=H2 x λq=>H2 (q.run s) λp=>k p.1 p.2 q.rd q.wr
def pC(P:Cc)(X:Mode)(f:CE)(vs:LP)(s:St)(k:PV->St->Prop):Prop:=ue P X true f vs s λv s' _ _=>k v s'
def Rs(P:Cc)(X:Mode)(f:CE)(vs:LP)(s:St)(k:KL):Prop:=ue P X false f vs s k
def Hb(P:Cc)(f:CE)(vs:LP)(s:St)(k:PV->St->Prop):Prop:=pC P .old f vs s k
def HP(P:Cc)(f:CE)(vs:LP)(s:St)(k:KL):Prop:=Rs P .old f vs s k
def MW(P:Cc)(X:Mode)(vs:LP)(s:St)(k:PV->St->Prop):Prop:=ASe P X vs s k
def MX(P:Cc)(X:Mode)(name:String)(vs:LP)(s:St)(k:PV->St->Prop):Prop:=APv P X name vs s k
def AMz(P:Cc)(X:Mode)(name:String)(vs:LP)(s:St)(k:KL):Prop:=APv P X name vs s λv s'=>k v s' [] []
def SY(P:Cc)(X:Mode)(f:CE)(vs:LP)(s:St)(k:KL):Prop:=ue P X true f vs s k
def Iq(x:Option PV):Option KC:=match x with
 |some v=>some (.val v)
 |none=>none
def IJ(x:PV):Option KC:=match x with
 | .nil=>some (.Hm 0 0 λb=> .H6 b [])
 |x=>some (.val x)
def Hf(c a b:PV):Option KC:=match c with
 | .bool c=>some (.val (bif c then a else b))
 |_=>none
def Ij(x:PV):Option KC:=bif x.cells.all PV.Iu then some (.box x.cells λb=> .G5 b 0)else none
def AA7(cells:LP):List (Option (Nat×Nat)×PV)->Option (LP)
 |[]=>some cells
 |(p,v)::Jl=>match p with
  |none=>none
  |some (off,size)=>bif Bo v.cells.length size then(match NR cells off v.cells with
   |some cs=>AA7 cs Jl
   |none=>none)else none
def HS(z:LP)(Iv:List (Option (Nat×Nat)×PV)):Option KC:=bif (Iv.map Bp).all PV.w9 then(match(match AA7 z Iv with
 |some l=>some (PV.agg l)
 |none=>none)with
 |some v=>some (.val v)
 |none=>none)else none
def ACA(size:Nat):LP->Option (LLP)
 |[]=>some []
 |v::r=>bif Bo v.cells.length size then(match KR v.cells with
  |some Gy=>match ACA size r with
   |some l=>some (Gy::l)
   |none=>none
  |none=>none)else none
def Ik(size:Nat)(l:LP):Option KC:=match(match ACA size l with
 |some G1=>some (PV.HC G1)
 |none=>none)with
 |some v=>some (.val v)
 |none=>none
def G3(a:PV):Option KC:=match a with
 | .G5 b o=>some (.load b λcs=>cs[o]?)
 | .M8 Gy o=>match Gy[o]? with
  |some v=>some (.val v)
  |none=>none
 |_=>none
def Yk(n:Nat)(cs:LP)(o:Nat):Option PV:=if o+n<=cs.length then some (.agg ((cs.drop o).take n))else none
def G4(n:Nat)(a:PV):Option KC:=match a with
 | .G5 b o=>some (.load b λcs=>Yk n cs o)
 | .M8 Gy o=>match Yk n Gy o with
  |some v=>some (.val v)
  |none=>none
 |_=>none
def HQ(n:Nat)(x a:PV):Option KC:=match a with
 | .G5 b o=>bif Bo x.cells.length n&&x.cells.all PV.Iu then some (.store b λcs=>NR cs o x.cells)else none
 |_=>none
def IA(x:PV):Option KC:=match x with
 | .G5 b o=>some (.val (.G5 b o))
 | .M8 r o=>some (.val (.M8 r o))
 |_=>none
def H7(P:Cc)(op:EP)(t:Bm)(x y:PV):Option KC:=match al P op t x y with
 |some v=>some (.val v)
 |none=>none
def KV(op:UnOp)(x:PV):Option KC:=match unP op x with
 |some v=>some (.val v)
 |none=>none
def Hx(k:IntKind)(x:PV):Option KC:=match(match x with
  | .int _ n=>some (Az k (k.wrap n))
  |_=>none)with
 |some v=>some (.val v)
 |none=>none
def SV(b:Bool)(l:LP):Option (ON×LP):=match b with
 |false=>some (none,l)
 |true=>match l with
  |v::r=>match M0 v with
   |some n=>some (some n,r)
   |none=>none
  |[]=>none
def AM5(x:PV)(Mw KQ:ON):Option PV:=match x with
 | .HK s=>if KQ.getD s.size<=s.size/\Mw.getD 0<=KQ.getD s.size then some (.HK (s.extract (Mw.getD 0) (KQ.getD s.size)))else none
 |_=>none
def AHi(size:Nat)(x:PV)(Mw KQ:ON):Option PV:=match x with
 | .LQ b n=>if Mw=none/\KQ.getD n<=n then some (.LQ b (KQ.getD n))else none
 |x=>match x.G1 with
 |some G1=>if KQ.getD G1.length<=G1.length/\Mw.getD 0<=KQ.getD G1.length/\G1.all (λr=>Bo r.length size)=true then some (.HC ((G1.drop (Mw.getD 0)).take (KQ.getD G1.length-Mw.getD 0)))else none
 |none=>none
def Ig(lo hi:Bool)(x:PV)(r:LP):Option KC:=match SV lo r with
 |some (lo',r)=>match SV hi r with
  |some (VI,_)=>(match AM5 x lo' VI with
   |some v=>some (.val v)
   |none=>none)
  |none=>none
 |none=>none
def Ie(size:Nat)(lo hi:Bool)(x:PV)(r:LP):Option KC:=match SV lo r with
 |some (lo',r)=>match SV hi r with
  |some (VI,_)=>(match AHi size x lo' VI with
   |some v=>some (.val v)
   |none=>none)
  |none=>none
 |none=>none
def Iz(off:Nat)(x:PV):Option KC:=match(match x with
  | .G5 b o=>some (PV.G5 b (o+off))
  | .M8 Gy o=>some (PV.M8 Gy (o+off))
  |_=>none)with
 |some v=>some (.val v)
 |none=>none
def LH(off:Nat)(x:PV):Option KC:=match(match x with
  | .agg l=>l[off]?
  |_=>none)with
 |some v=>some (.val v)
 |none=>none
def LS(off n:Nat)(x:PV):Option KC:=match(match x with
  | .agg l=>Yk n l off
  |_=>none)with
 |some v=>some (.val v)
 |none=>none
def Jq(size:Nat)(x i:PV):Option KC:=match(match M0 i with
  |some i=>match x with
   | .LQ b n=>if i<n then some (PV.G5 b (i*size))else none
   | .HC G1=>fW size G1 i
   | .H6 _ G1=>fW size G1 i
   |_=>none
  |none=>none)with
 |some v=>some (.val v)
 |none=>none
def Kp(x i:PV):Option KC:=match(match M0 i with
  |some i=>match x with
   | .HK s=>match s[i]? with
    |some b=>some (Az .u8 b.toNat)
    |none=>none
   |_=>none
  |none=>none)with
 |some v=>some (.val v)
 |none=>none
def LG(ix:Nat)(x:PV):Option KC:=match x with
 | .tuple l=>match l[ix]? with
  |some v=>some (.val v)
  |none=>none
 |_=>none
def Hw(x:PV):Option KC:=match(match x with
  | .HK s=>some (Az .i64 s.size)
  |_=>none)with
 |some v=>some (.val v)
 |none=>none
def Hg(x:PV):Option KC:=match(match x with
  | .LQ _ n=>some (Az .i64 n)
  |x=>match x.G1 with
  |some G1=>some (Az .i64 G1.length)
  |none=>none)with
 |some v=>some (.val v)
 |none=>none
def IT(size bytes:Nat)(s x:PV):Option KC:=match x.G1 with
 |some xs=>bif xs.all (λr=>Bo r.length size)then(match s with
  | .nil=>bif Go.Ab.JE xs.length bytes then some (.Hm xs.length size λb=> .H6 b xs)else none
  | .LQ b n=>bif Go.Ab.JE (n+xs.length) bytes then some (.ey b size (λcs=>if n*size<=cs.length then some (cs.take (n*size)++xs.flatten)else none) λb'=> .LQ b' (n+xs.length))else none
  | .H6 b G1=>bif Go.Ab.JE (G1.length+xs.length) bytes&&G1.all (λr=>Bo r.length size)then some (.push b G1.length size xs.length (.H6 b (G1++xs)))else none
  |_=>none)else none
 |none=>none
def Jk(size bytes:Nat)(s x:PV):Option KC:=match x.G1 with
 |some xs=>bif xs.all (λr=>Bo r.length size)then(match s with
  | .nil=>bif Go.Ab.JE xs.length bytes then(match xs with
   |[]=>some (.val .nil)
   |_::_=>some (.LM size xs.flatten λb=> .LQ b xs.length))else none
  | .LQ b n=>bif Go.Ab.JE (n+xs.length) bytes then some (.ey b size (λcs=>if n*size<=cs.length then some (cs.take (n*size)++xs.flatten)else none) λb'=> .LQ b' (n+xs.length))else none
  | .H6 b G1=>bif Go.Ab.JE (G1.length+xs.length) bytes&&G1.all (λr=>Bo r.length size)then some (.push b G1.length size xs.length (.H6 b (G1++xs)))else none
  |_=>none)else none
 |none=>none
def ACB(size:Nat):LP->Option (LLP)
 |[]=>some []
 |v::r=>bif Bo v.cells.length size then(match U5 v.cells with
  |some Gy=>match ACB size r with
   |some l=>some (Gy::l)
   |none=>none
  |none=>none)else none
def Jx(size:Nat)(l:LP):Option KC:=match(match ACB size l with
 |some G1=>some (PV.HC G1)
 |none=>none)with
 |some v=>some (.val v)
 |none=>none
def KB(size bytes:Nat)(z:LP)(l c:PV):Option KC:=match M0 l with
 |some l=>match M0 c with
  |some c=>bif Bo l c&&Go.Ab.JE c bytes then some (.LM size (C2 l z).flatten λb=> .LQ b l)else none
  |none=>none
 |none=>none
def MS(x y:PV):Option KC:=match AKr x y with
 |some v=>some (.val v)
 |none=>none
def Sn(t:Bm)(x:PV):Option KC:=match(bif x.Iu then some (PV.iface t x)else none)with
 |some v=>some (.val v)
 |none=>none
def SZ(t:Bm)(x:PV):Option KC:=match(match x with
  | .iface t' v=>if t'=t then some v else none
  |_=>none)with
 |some v=>some (.val v)
 |none=>none
def So:List (Option PV)->Option (LP)
 |[]=>some []
 |r::rs=>match r with
  |some v=>match So rs with
   |some l=>some (v::l)
   |none=>none
  |none=>none
def I8(x:Option KC)(s:St):Option PV:=match x with
 |some q=>match q.run s with
  |some p=>some p.1
  |none=>none
 |none=>none
def IN(e n:Nat)(v:PV)(s:St)(Q:PV->LLP->Prop):Prop:=H2 (bif Bo e 0 then QG v else VO e s v) λr=>H2 (HZ s (Bw n)) λc=>Q r c
section
variable(P:Program) (md:Bool) (X:Mode) (nt:Nat)
noncomputable abbrev oF(ops r:List CI):Ks->Ks:=
 @List.rec CI (λ_=>Ks->Ks) (λK=>K) (λo _ ih K fr st=>match Go.Ab.NK nt o.dst with
  |true=>gP P md X true ops o fr st (λv st _ _=>ih K (fr.put o.dst v) st)
  |false=>False) r
noncomputable abbrev oDF(ops r:List CI):(Fr->List af->St->Prop)->Ks:=
 @List.rec CI (λ_=>(Fr->List af->St->Prop)->Ks) (λK fr st=>K fr [] st) (λo _ ih K fr st=>match Go.Ab.NK nt o.dst with
  |true=>gP P md X false ops o fr st (λv IK rd wr=>ih (λfr l s=>K fr ((rd,wr++It st.next IK.next)::l) s) (fr.put o.dst v) IK)
  |false=>False) r
noncomputable abbrev AUv(ops:List CI)(d:Bool)(K:Ks):Ks:=match d with
 |false=>oF P md X nt ops ops K
 |true=>λfr st=>match Go.Ab.Oq ops&&P.follows .mixedOrders with
  |true=>oDF P md X nt ops ops (λfr l st=>Ih [] l (Go.Ab.Ma ops [])=false/\K fr st) fr st
  |false=>False
noncomputable abbrev iY(B:Ks)(K:Kx):Kx:=λx=>@OT.rec (λ_=>Ks) B (λid=>K (.exit id)) (K .ret) x
noncomputable abbrev rA(id:Nat)(K:Kx):Kx:=λx=>@OT.rec (λ_=>Ks) (K .normal) (λsj=>match Bo sj id with
 |true=>K .normal
 |false=>K (.exit sj)) (K .ret) x
noncomputable def nA(body:Ks->Ks)(n:Nat):Ks:=@Nat.rec (λ_=>Ks) (λ_ _=>False) (λ_ w=>body w) n
noncomputable abbrev Jn(c:DA):Bool->Kx->Ks:=
 @Code.rec (λ_=>Bool->Kx->Ks) (λ_ K=>K .normal) (λ_ ops d _ K=>AUv P md X nt ops.toList d (K .normal)) (λ_ _ vt ihb rg K=>vt rg (iY (ihb rg K) K))
  (λc _ _ vt ihb rg K f s=>H2 (Oh f c) λx=>He x (vt rg K f s) (ihb rg K f s))
  (λid _ ih rg K=>ih rg (rA id K)) (λ_ ih rg K f s=>∃n,nA (λw=>ih rg (iY w K)) n f s)
  (λg ps _ _ vt kA rg K=>match rg with
   |true=>ZS P X nt g ps.toList (vt false) (kA false) K
   |false=>λ_ _=>False) (λid _ K=>K (.exit id)) (λ_ ih=>ih) (λ_ _ K=>K .normal) (λ_ _ _ _ _=>False) (λ_ K=>K .ret) (λ_ _ _ _ _=>False) c
def AMs(ops:List CI):∀(r:List CI) (K:Ks),oF P md X nt ops r K=oP P md X nt ops r K
 |[],K=>rfl
 |o::r,K=>by
  funext fr st
  show(match Go.Ab.NK nt o.dst with
   |true=>gP P md X true ops o fr st (λv st _ _=>oF P md X nt ops r K (fr.put o.dst v) st)
   |false=>False)=_
  simp only[oP,AMs ops r];cases Go.Ab.NK nt o.dst<;>rfl
def AGz(ops:List CI):∀(r:List CI) (K:Fr->List af->St->Prop),oDF P md X nt ops r K=oDP P md X nt ops r K
 |[],K=>rfl
 |o::r,K=>by
  funext fr st
  show(match Go.Ab.NK nt o.dst with
   |true=>gP P md X false ops o fr st (λv IK rd wr=>oDF P md X nt ops r (λfr l s=>K fr ((rd,wr++It st.next IK.next)::l) s) (fr.put o.dst v) IK)
   |false=>False)=_
  simp only[oDP,AGz ops r];cases Go.Ab.NK nt o.dst<;>rfl
def ALI(ops:List CI)(d:Bool)(K:Ks):AUv P md X nt ops d K=ADx P md X nt ops d K:=by
 cases d with
 |false=>exact AMs P md X nt ops ops K
 |true=>
  funext fr st
  show(match Go.Ab.Oq ops&&P.follows .mixedOrders with
   |true=>oDF P md X nt ops ops (λfr l st=>Ih [] l (Go.Ab.Ma ops [])=false/\K fr st) fr st
   |false=>False)=_
  rw[AGz];simp only[ADx];cases Go.Ab.Oq ops&&P.follows .mixedOrders<;>rfl
def ACE(B:Ks)(K:Kx):iY B K=jg B K:=by funext x;cases x<;>rfl
def ACh(id:Nat)(K:Kx):rA id K=bq id K:=by
 funext x;cases x with
 |exit sj=>
  show(match Bo sj id with|true=>K .normal|false=>K (.exit sj))=_;simp only[bq];cases Bo sj id<;>rfl
 |_=>rfl
def wJ(b:Ks->Ks):∀n,nA b n=fO b n
 |0=>rfl
 |n+1=>by show b (nA b n)=b (fO b n);rw[wJ b n]
def uk(c:DA):∀rg K,Jn P md X nt c rg K=MB P md X nt c rg K:=by
 induction c with
 |region id ops d=>intro rg K;exact ALI P md X nt ops.toList d (K .normal)
 |seq a b vt ihb=>
  intro rg K;show Jn P md X nt a rg (iY (Jn P md X nt b rg K) K)=MB P md X nt a rg (jg (MB P md X nt b rg K) K);rw[ihb,ACE,vt]
 |cond c a b vt ihb=>
  intro rg K;show(λf s=>H2 (Oh f c) λx=>He x (Jn P md X nt a rg K f s) (Jn P md X nt b rg K f s))=_;rw[vt,ihb];rfl
 |block id c ih=>
  intro rg K;show Jn P md X nt c rg (rA id K)=MB P md X nt c rg (bq id K);rw[ACh,ih]
 |loop c ih=>
  intro rg K;funext f s;show(∃n,nA (λw=>Jn P md X nt c rg (iY w K)) n f s)=(∃n,fO (λw=>MB P md X nt c rg (jg w K)) n f s)
  have:(λw=>Jn P md X nt c rg (iY w K))=λw=>MB P md X nt c rg (jg w K):=by
   funext w;rw[ACE,ih]
  simp only[this,wJ]
 |scope c ih=>intro rg K;exact ih rg K
 |skip=>intro rg K;rfl
 |label _=>intro rg K;rfl
 |exit _=>intro rg K;rfl
 |ret=>intro rg K;rfl
 |goto _=>intro rg K;rfl
 |refuse _=>intro rg K;rfl
 |rangeFunc g ps a c vt kA=>
  intro rg K;cases rg with
  |false=>rfl
  |true=>
   show ZS P X nt g ps.toList (Jn P md X nt a false) (Jn P md X nt c false) K=ZS P X nt g ps.toList (MB P md X nt a false) (MB P md X nt c false) K;have h1:Jn P md X nt a false=MB P md X nt a false:=by funext K;exact vt false K
   have h2:Jn P md X nt c false=MB P md X nt c false:=by funext K;exact kA false K
   rw[h1,h2]
end
section
variable{P:Program} {md:Bool} {X:Mode} {nt:Nat} {rg:Bool}
def Gt{a b:DA}{K:Kx}{B T:Ks}(hb:Jn P md X nt b rg K=B)(ha:Jn P md X nt a rg (iY B K)=T):Jn P md X nt (.seq a b) rg K=T:=by subst hb;exact ha
def G7{c:DA}{id:Nat}{K:Kx}{T:Ks}(h:Jn P md X nt c rg (rA id K)=T):Jn P md X nt (.block id c) rg K=T:=h
abbrev ASY(c:Cb)(A B:Ks):Ks:=λf s=>H2 (Oh f c) λx=>He x (A f s) (B f s)
def Jj{c:Cb}{a b:DA}{K:Kx}{A B:Ks}(ha:Jn P md X nt a rg K=A)(hb:Jn P md X nt b rg K=B):Jn P md X nt (.cond c a b) rg K=ASY c A B:=by subst ha hb;rfl
def AQu{c:DA}{K:Kx}(L:Nat->Ks)(h0:∀f s,L 0 f s=False)(hs:∀n,Jn P md X nt c rg (iY (L n) K)=L (n+1)):Jn P md X nt (.loop c) rg K=λf s=>∃n,L n f s:=by
 have key:∀n,nA (λW=>Jn P md X nt c rg (iY W K)) n=L n:=by
  intro n
  induction n with
  |zero=>funext f s;exact(h0 f s).symm
  |succ n ih=>
   show Jn P md X nt c rg (iY (nA (λW=>Jn P md X nt c rg (iY W K)) n) K)=_;rw[ih,hs]
 funext f s;show(∃n,nA (λW=>Jn P md X nt c rg (iY W K)) n f s)=_;simp only[key]
def AVG{c:DA}{K:Kx}{T:Ks}(J:Ks)(h:Jn P md X nt c rg K=T)(hJ:∀f s,T f s=J f s):Jn P md X nt c rg K=J:=by rw[h];funext f s;exact hJ f s
def Gs{c:DA}{K:Kx}:Jn P md X nt c rg K=Jn P md X nt c rg K:=rfl
def qK{n:Nat}{IC:LLP}(hn:IC.length=n){f:CE}{fn:Eb}{c:DA}(QU:P.funcs[f]?=some fn)(hb:fn.body=some c){args:LP}{Q:PV->LLP->Prop}(e:Nat){T:Ks}
  (Xl:max args.length fn.ntmps=nt)(ht:Jn P false .old nt c true (oj P e n fn.results.toList Q)=T)(h:T (MO args) (Ol IC)):PQ P f args IC Q:=
 z6 (md:=false) QU hb e (by rw[Xl,hn,<- uk,ht];exact h)
def Cd(P:Cc)(md:Bool)(X:Mode)(f:CE)(args:LP)(Q:PV->St->Prop)(s:St):Prop:=∃fn c,P.funcs[f]?=some fn/\fn.body=some c/\MB P md X (max args.length fn.ntmps) c true (om P fn.results.toList Q) (MO args) s
def uh{f:CE}{fn:Eb}{c:DA}(QU:P.funcs[f]?=some fn)(hb:fn.body=some c){args:LP}{s:St}{Q:PV->St->Prop}{T:Ks}
  (Xl:max args.length fn.ntmps=nt)(ht:Jn P md X nt c true (om P fn.results.toList Q)=T)(h:T (MO args) s):Cd P md X f args Q s:=
 ⟨fn,c,QU,hb,by rw[Xl,<- uk,ht];exact h⟩
def Cd.sw{f:CE}{args:LP}{s:St}{Q:PV->St->Prop}(h:Cd P md X f args Q s)(hf:Ha s):SW X.Lj P f args s Q:=by obtain⟨fn,c,h1,h2,h3⟩:=h;exact nu h1 h2 hf h3
def Cd.sc{E:Xg}{f:CE}{args:LP}{s:St}{Q:PV->St->Prop}(h:Cd P md (.lZ E) f args Q s)(hf:Ha s)(hQ:∀r s',Q r s'->IL s s'/\Ha s'):∃r s',SC E P f args s r s'/\Q r s':=by obtain⟨fn,c,h1,h2,h3⟩:=h;exact AAJ h1 h2 hf hQ h3
def AHF(B:Ks):Kx:=λx=>@OT.rec (λ_=>Ks) B (λ_ _ _=>False) (λ_ _=>False) x
def MH(P:Cc)(X:Mode)(g:PV)(body:PV->(St->Prop)->St->Prop)(K:St->Prop)(st:St):Prop:=match X with
 | .Im E=>(∀m,E.holds m)/\∃gf Xh,∃(I:LP->St->Prop) (R:St->St->Prop) (xs:LP),g=.fn gf Xh/\Pn P gf=true/\
  (∀Jp x post s,xs=Jp++x::post->I Jp s->Ha s->body x (λs2=>I (Jp++[x]) s2/\R s s2) s)/\
  (∀(E':Xg) (L:Nat),(∀Jp x post s,xs=Jp++x::post->I Jp s->Ha s->YW E' P L [x] s λr s'=>r=.bool true/\I (Jp++[x]) s'/\R s s')->SW E' P gf (.yield L::Xh) st λ_ s'=>I xs s')/\
  (∀s,I xs s->Ha s->IL st s->K s)
 |_=>False
def ABw(B:Ks):(λ(ex:OT) f1 s1=>ex=.normal/\B f1 s1)=AHF B:=by
 funext ex f s;cases ex with
 |normal=>exact propext ⟨λh=>h.2,λh=>⟨rfl,h⟩⟩
 |exit _=>exact propext ⟨λh=>(by cases h.1),λh=>h.elim⟩
 |ret=>exact propext ⟨λh=>(by cases h.1),λh=>h.elim⟩
def AM9{g:Cb}{p:Nat}{ps:Array Tmp}{a b:DA}{K:Kx}(hps:ps.toList=[p])(hp:C5 p nt=true)(gv:Fr->PV)(hg:∀f,Oh f g=some (gv f))(body:Fr->PV->(St->Prop)->St->Prop)
  (hB:∀f x T s,Jn P md X nt a false (AHF (Jn P md X nt b false (AHF λ_ s2=>T s2))) (f.set p x) s=body f x T s):
  Jn P md X nt (.rangeFunc g ps a b) true K=λf s=>MH P X (gv f) (body f) (K .normal f) s:=by
 have hp:p<nt:=Go.Ab.Tq hp;funext fr st;show ZS P X nt g ps.toList (Jn P md X nt a false) (Jn P md X nt b false) K fr st=_;rw[hps]
 have Py:∀(x:PV) (Z:St->Prop) s,Jn P md X nt a false (λex f1 s1=>ex=.normal/\Jn P md X nt b false (λex2 _ s2=>ex2=.normal/\Z s2) f1 s1) (fr.set p x) s=body fr x Z s:=by
  intro x Z s;rw[ABw (Jn P md X nt b false λex2 _ s2=>ex2=.normal/\Z s2),ABw λ_ s2=>Z s2];exact hB fr x Z s
 unfold MH ZS;cases X with
 |old=>rfl
 |lZ E=>rfl
 |Im E=>
  have one:∀{xs:LP} {Jp:LLP} {x:LP} {post:LLP},xs.map (λx=>[x])=Jp++x::post->∃ADr x' qJ,xs=ADr++x'::qJ/\Jp=ADr.map (λx=>[x])/\x=[x']/\post=qJ.map (λx=>[x]):=by
   intro xs Jp
   induction Jp generalizing xs with
   |nil=>
    intro x post h;cases xs with
    |nil=>simp at h
    |cons a l=>simp at h;exact⟨[],a,l,rfl,rfl,h.1.symm,h.2.symm⟩
   |cons b Jp ih=>
    intro x post h;cases xs with
    |nil=>simp at h
    |cons a l=>
     simp at h;obtain⟨ADr,x',qJ,e1,e2,e3,e4⟩:=ih h.2;exact⟨a::ADr,x',qJ,by rw[e1];rfl,by rw[e2,<- h.1];rfl,e3,e4⟩
  have oU:∀l:LP,(l.map λx=>[x]).flatten=l:=λl=>by induction l with
   |nil=>rfl
   |cons a l ih=>simp[ih]
  have ARd:∀l:LLP,(∀x,x∈l->x.length=1)->l.flatten.map (λx=>[x])=l:=λl=>by induction l with
   |nil=>intro _;rfl
   |cons a l ih=>
    intro h;obtain⟨y,rfl⟩:=Fy.1 (h a AD);simp[ih λx hx=>h x (Co _ hx)]
  refine propext ⟨λ⟨h1,gf,Xh,I,R,xs,h2,h3,_,h5,h6,h7,h8⟩=>?_,λ⟨h1,gf,Xh,I,R,xs,h2,h3,h4,h5,h6⟩=>?_⟩
  .have hl:xs.flatten.map (λx=>[x])=xs:=ARd xs h5;refine⟨h1,gf,Xh,λl=>I (l.map λx=>[x]),R,xs.flatten,by rw[hg]at h2;exact DM h2,h3,λJp x post s hx hI hf=>?_,λE' L hr=>?_,λs hI=>h8 s (by rw[<- hl];exact hI)⟩
   .have US:xs=(Jp.map λx=>[x])++[x]::(post.map λx=>[x]):=by rw[<- hl,hx];simp
    have:=h6 _ [x] _ s US hI hf;simp only[ua]at this;rw[Py]at this;have hc:(Jp++[x]).map (λx=>[x])=Jp.map (λx=>[x])++[[x]]:=AD;simp only[hc];exact this
   .refine(h7 E' L λJp x post s hx hI hf=>?_).mono λr s h=>by show I (xs.flatten.map λx=>[x]) s;rw[hl];exact h
    have sh:Jp.flatten.map (λx=>[x])=Jp:=ARd Jp λy hy=>h5 y (by rw[hx];simp[hy]);obtain⟨y,rfl⟩:=Fy.1 (h5 x Acr);have:=hr Jp.flatten y post.flatten s Acr (by show I (Jp.flatten.map λx=>[x]) s;rw[sh];exact hI) hf;have hc:(Jp.flatten++[y]).map (λx=>[x])=Jp++[[y]]:=by rw[Br,sh];rfl
    simpa only[hc]using this
  .refine⟨h1,gf,Xh,λl=>I l.flatten,R,xs.map λx=>[x],by rw[hg,h2],h3,by simpa using hp,λx hx=>?_,λJp x post s hx hI hf=>?_,λE' L hr=>?_,λs hI=>h6 s (by simp only[oU]at hI;exact hI)⟩
   .simp at hx;obtain⟨a,_,rfl⟩:=hx;rfl
   .obtain⟨ADr,x',qJ,e1,rfl,rfl,rfl⟩:=one hx;simp only[oU]at hI;simp only[ua];rw[Py];simp only[GO,oU,ET,List.flatten_nil,CL];exact h4 ADr x' qJ s e1 hI hf
   .simp only[oU];refine h5 E' L λJp x post s hx hI hf=>?_;have:=hr (Jp.map λx=>[x]) [x] (post.map λx=>[x]) s Acr (by simp only[oU];exact hI) hf;simpa only[GO,oU,ET,List.flatten_nil,CL]using this
end
section
variable{P:Program} {s s':St} {k:PV->St->Prop} {kl:KL} {x:Option KC} {q:KC} {v:PV}
def AYk(h:x=some q)(h2:q.run s=some (v,s'))(hk:k v s'):pQ x s k:=by unfold pQ;rw[h];show H2 (q.run s) _;rw[h2];exact hk
def AUq(h:x=some q)(h2:q.run s=some (v,s'))(hk:kl v s' q.rd q.wr):Jy x s kl:=by unfold Jy;rw[h];show H2 (q.run s) _;rw[h2];exact hk
def Gz{f:CE}{vs args:LP}{IC Hs:LLP}{r:PV}{bs:LN}(h:PC P f args IC r Hs)(h1:Js vs 0=some (args,bs))(h2:Mq bs=true)(h3:HZ s bs=some IC)(h4:Hs.length=bs.length)
  (hk:k (JV r (IF s bs Hs)).1 (JV r (IF s bs Hs)).2):Hb P f vs s k:=
 ⟨_,_,bs,⟨args,IC,r,Hs,h1,h2,h3,h4,h,rfl⟩,hk⟩
def Hq{f:CE}{vs args:LP}{IC Hs:LLP}{r:PV}{bs:LN}(h:PC P f args IC r Hs)(h1:Js vs 0=some (args,bs))(h2:Mq bs=true)(h3:HZ s bs=some IC)(h4:Hs.length=bs.length)
  (hk:kl (JV r (IF s bs Hs)).1 (JV r (IF s bs Hs)).2 [] bs):HP P f vs s kl:=
 ⟨_,_,bs,⟨args,IC,r,Hs,h1,h2,h3,h4,h,rfl⟩,hk⟩
def AMy{g:PV}{QZ:Bool}{X:(KL)->Prop}(h:sO g QZ=some true)(hk:X kl):JZ g QZ X kl s:=by unfold JZ;rw[h];exact hk
def cI{b:Bool}{A B:Prop}(h:b=true)(hk:A):He (.bool b) A B:=⟨(λ_=>hk),(λh'=>by rw[h]at h';cases h')⟩
def cH{b:Bool}{A B:Prop}(h:b=false)(hk:B):He (.bool b) A B:=⟨(λh'=>by rw[h]at h';cases h'),(λ_=>hk)⟩
def AQU{e n:Nat}{r:PV}{c:LLP}{Q:PV->LLP->Prop}(h:(bif Bo e 0 then QG v else VO e s v)=some r)(h2:HZ s (Bw n)=some c)(hk:Q r c):IN e n v s Q:=by unfold IN;rw[h];show H2 (HZ s (Bw n)) _;rw[h2];exact hk
end
end
end Go.Vi
