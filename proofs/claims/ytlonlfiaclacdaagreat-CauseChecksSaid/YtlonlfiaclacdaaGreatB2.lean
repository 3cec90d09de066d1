/- Part of the proof of CauseChecks (own work, made small). -/
import Derived.Test.YtlonlfiaclacdaaGreatB1
import Derived.MapKept
set_option linter.all false
set_option maxRecDepth 100000
open Array renaming all_eq_true_iff_forall_mem->EI,eq_empty_of_size_eq_zero->EP,foldl_toList->Eh,getD_eq_getD_getElem?->Cg,getElem?_eq_getElem->CQ,getElem?_eq_some_iff->CU,getElem?_replicate->En,getElem?_toList->Cz,length_toList->Cp,replicate->Dh,toList_map->Fj
open Bool renaming and_eq_false_iff->DS,and_eq_true->Bo,false_eq_true->Cw,not_eq_true'->Dl,or_eq_false_iff->C6,or_eq_true->D6
open Go renaming Obj->EE,heap_alloc_new->EG,invoke->EB,CallsIn->Er,Code->C5,Deferred->FM,Func->Dm,FuncId->B9,Next->FV,Oper->CW,Operand->Cy,Program->Cf,ResultVar->D8,TypeId->Bz,Value->Bk,beq_toListBytes->Es,callFunc->DL,callMethod->FK,cell_of_row->Df,eqGuard->D0,execOp->Cr,run_storeCells_at->EA,run_underlying->Bv,wpOpIn->EW
open Go.Ab.World renaming KE->BO
open Go.Builtin renaming append_->C0,delete_->FB
open Go.Call renaming operands->Dj
open Go.Deferred renaming ofValue->Cl
open Go.Fence renaming wide->DF
open Go.Instr renaming findKey->Dz,findNow->Dy,loadAt->Dr,lookup->Fb,makeInterface->FO,mapUpdate->FA,sameBits->FH,sameNow->Em,storeAt->FT,sureAddr->DJ,typeAssert->Fi
open Go.MapKept renaming bytes_beq->FG
open Go.Op renaming operands->DP
open Go.Region renaming binds->DB,linearise->Fk,ready->Ex
open Go.Sem renaming run->Ek,run_bind->B6
open Go.Value renaming func->Ey,slice->Eb
open Go.Vi.I1 renaming is->BH
open Go.Vi.JJ renaming run->A2
open Go.Vi.Obj renaming box->BI
open Go.Vi.PV renaming int->BD
open Go.Vi.St renaming new->BE,set->BN
open List renaming all_cons->Co,all_eq_true->CY,any_eq_false->Fc,append_assoc->B3,append_nil->CG,drop_drop->Dp,findIdx?_eq_some_iff_getElem->Cq,flatten_append->FP,flatten_cons->DU,getD->FL,getElem?_append_left->CL,getElem?_drop->Cu,getElem?_eq_getElem->Bc,getElem?_eq_none->Ck,getElem?_eq_some_iff->Bp,getElem?_take->C1,getElem_mem->Bl,idxOf?->Ec,idxOf?_eq_none_iff->Db,length_append->Bd,length_cons->CE,length_eq_one_iff->Ez,length_map->Bb,length_range->Fe,length_take->C2,map_append->Bu,mem_append->Bf,mem_cons->Bm,mem_cons_of_mem->Bq,mem_cons_self->Bw,mem_of_getElem?->Bn,mem_range->Da,mem_singleton->By,nil_append->CC,pairwise_iff_getElem->DT,prefix_refl->Cs,range->CS,replicate->DA,take_of_length_le->Cc,toList_toArray->FN
open Nat renaming add_zero->DN,beq->Br,blt->DZ,eq_of_beq_eq_true->B5,le_refl->Bg,le_trans->CN,lt_of_lt_of_le->Cv,min_eq_left->C7,testBit->EX,zero_add->CZ,zero_le->DO
open Option renaming isSome_iff_exists->DH,map_eq_some_iff->EH
open Option.some renaming inj->FC,injEq->Bh
open Prod renaming snd->Bx
open Prod.mk renaming injEq->Ch
namespace Go.Vi
abbrev LLP:=List (List PV)
abbrev KL:=PV->St->List Nat->List Nat->Prop
abbrev HO:=Nat->Option Obj
abbrev LP:=List PV
end Go.Vi
namespace Go.Vi
section
open Go.Ab (Rh O7 SB LH R7 Oz L3 IP JM Mj LL Nj K4 MD Fw OT Xm JH and_true)
section
variable{P:Program} {m:J} {h:HO} {w:World}
def Vl(P:Cf)(ro:ON)(m:J)(w:World)(h':HO)(y:PV)(r:Result FV):Prop:=
 ∀(o:CW) (a:Act) (K:Act->World->Prop) (Q:QX),
  (∀m' v' w',Lx m w m' w'->It m' h' w'->VR m' y v'->K (a.put o.dst v') w')->o.uponIn (Fw ro) 0 P a K Q r
def IL{ro:ON}{h':HO}{y:PV}{v:Bk}{w':World}{m':J}(h1:Lx m w m' w')(h2:It m' h' w')(h3:VR m' y v):
 Vl P ro m w h' y (.ok (.value v) w'):=λ_ _ _ _ hK=>hK _ _ _ h1 h2 h3
def ez{ro:ON}{h':HO}{w':World}{m':J}(h1:Lx m w m' w')(h2:It m' h' w'):
 Vl P ro m w h' .undef (.ok .skip w'):=λ_ _ _ _ hK=>hK _ _ _ h1 h2 (.tuple [] [] .nil)
def cJ{a:PV}{v:Bk}(h:LC m [a] [v]):VR m a v:=by cases h with|cons _ _ _ _ h1 _=>exact h1
def lz{a b:PV}{u v:Bk}(h:LC m [a,b] [u,v]):VR m a u/\VR m b v:=by cases h with|cons _ _ _ _ h1 h2=>cases h2 with|cons _ _ _ _ h3 _=>exact⟨h1,h3⟩
def ASp{a b c:PV}{u v x:Bk}(h:LC m [a,b,c] [u,v,x]):VR m a u/\VR m b v/\VR m c x:=by cases h with|cons _ _ _ _ h1 h2=>exact⟨h1,lz h2⟩
def lA{ρ:Cy->Bk}:∀{JL:List (Nat×Cy)} {vs:LP},LC m vs (JL.map λp=>ρ p.2)->mE m (O0 JL vs) (JL.map λ(i,x)=>(i,ρ x))
 |[],vs,h=>by cases h;trivial
 |(i,o)::r,vs,h=>by
  cases h with
  |cons a v l l' h1 h2=>exact⟨rfl,h1,lA h2⟩
def nZ:∀{JL:List (Nat×Cy)} {vs:LP},vs.all PV.tE=true->∀p∈O0 JL vs,p.2≠ .SQ
 |[],_,_,p,hp=>by simp[O0]at hp
 |_::_,[],_,p,hp=>by simp[O0]at hp
 |(i,o)::r,v::vs,h,p,hp=>by
  simp only[Co,Bo]at h;simp only[O0,Bm]at hp;rcases hp with rfl|hp
  .intro e;simp only at e;rw[e]at h;exact Zq h.1 AL
  .exact nZ h.2 p hp
def cF{ρ:Cy->Bk}{o:Option Cy}{l:LP}{Ju:LV}(h:LC m l ((o.map ρ).toList++Ju)){n:ON}{r:LP}(ht:XS o l=some (n,r)):
  Go.Ab.Mp n (o.map ρ)/\LC m r Ju:=by
 cases o with
 |none=>
  simp only[XS,Bh,Ch]at ht;obtain⟨rfl,rfl⟩:=ht;exact⟨trivial,h⟩
 |some x=>
  simp only[XS]at ht;split at ht
  .rename_i a r';split at ht
   .rename_i k hk;simp only[Bh,Ch]at ht;obtain⟨rfl,rfl⟩:=ht;cases h with
    |cons _ v _ l' h1 h2=>
     exact⟨by obtain⟨q,hq⟩:=SG hk h1;exact⟨q,hq⟩,h2⟩
   .cases ht
  .cases ht
def Q8{ro:ON}{st He:St}(hr:It m st.heap w){x:Option PV}{q:JJ}(hq:(match x with|some v=>some (.val v)|none=>none)=some q){y:PV}(HW:q.run st=some (y,He)){ρ:Cy->Bk}{o:CW}{c:Sem Bk}
  (he:Cr ρ o=(do pure (.value (<- c))))(hc:∀y,x=some y->∃v,c.run P w=.ok v w/\VR m y v):Vl P ro m w He.heap y ((Cr ρ o).run P w):=by
 cases x with
 |none=>cases hq
 |some v=>
  simp at hq;subst hq;simp[A2]at HW;obtain⟨rfl,rfl⟩:=HW;obtain⟨v',h1,h2⟩:=hc _ rfl;rw[OT he h1];exact IL (Lx.refl m w) hr h2
def AB4(hr:It m h w){b:Nat}(hb:h b=none){cs:LP}{vs:AV0}(hc:LC m cs vs.toList)(e:Bz):
  ∃m',Lx m w m' (w.alloc (.cells vs e))/\It m' (λx=>bif Br x b then some (.box cs)else h x) (w.alloc (.cells vs e))/\VR m' (.GN b 0) (.pointer (some ⟨w.heap.size,0,none⟩)):=by
 obtain⟨m',h1,h2,h3⟩:=hr.ANQ hb vs e hc;exact⟨m',h1,h2,.GN _ _ _ h3⟩
def pT(hr:It m h w){t:Bz}{a:PV}{v:Bk}(ha:VR m a v){q:JJ}(hq:m6 P t a=some q){st He:St}(I0:st.heap=h){y:PV}(HW:q.run st=some (y,He)):
  He=st/\∃v',(Dr t v).run P w=.ok v' w/\VR m y v':=by
 unfold m6 at hq;split at hq
 .rename_i b o;simp at hq;subst hq;simp only[A2]at HW;split at HW
  .rename_i cs JK;split at HW
   .rename_i x hx;simp at HW;obtain⟨rfl,rfl⟩:=HW;cases ha with
    |data _ _ hd=>cases hd
    |GN _ _ B hB=>
     rw[I0]at JK;obtain⟨B',vs,ty,h1,h2,h3⟩:=hr.box b cs JK;rw[hB]at h1;cases h1
     have:=oW (P:=P) (w:=w) hx h3 (B:=B) (IW:=0) (λj u hj=>by
      rw[CZ,Df w B j vs ty (0,0) h2,<- Cz];exact hj)
     rw[CZ]at this;exact⟨rfl,this⟩
   .cases HW
  .rename_i e cs JK;split at HW
   .rename_i x hx;simp at HW;obtain⟨rfl,rfl⟩:=HW;cases ha with
    |data _ _ hd=>cases hd
    |GN _ _ B hB=>
     rw[I0]at JK;obtain⟨B',vs,ty,h1,_,h2,h3⟩:=hr.K7 b e cs JK;rw[hB]at h1;cases h1
     have:=oW (P:=P) (w:=w) hx h3 (B:=B) (IW:=0) (λj u hj=>by
      rw[CZ,Df w B j vs ty (0,0) h2,<- Cz];rw[C1]at hj;split at hj
      .exact hj
      .cases hj)
     rw[CZ]at this;exact⟨rfl,this⟩
   .cases HW
  .cases HW
 .rename_i GG o;split at hq
  .rename_i x hx;simp at hq;subst hq;simp[A2]at HW;obtain⟨rfl,rfl⟩:=HW;cases ha with
   |data _ _ hd=>cases hd
   |MP _ _ B IW ks hk hl hd=>
    refine⟨rfl,oW (P:=P) (w:=w) hx hd.vrs (B:=B) (IW:=IW) λj u hj=>?_⟩;rw[C1]at hj;split at hj
    .rw[Cu]at hj;exact ao hr hk hj
    .cases hj
  .cases hq
 .cases hq
def AE5(hr:It m h w){t:Bz}{a x:PV}{v u:Bk}(ha:VR m a v)(hx:VR m x u){q:JJ}(hq:wZ P t x a=some q){st He:St}(I0:st.heap=h){y:PV}(HW:q.run st=some (y,He)):
  ∃w',(FT t v u).run P w=.ok () w'/\Lx m w m w'/\It m He.heap w'/\y=.undef:=by
 unfold wZ at hq;split at hq
 .rename_i b o;split at hq
  .rename_i n hs;cases hc:Br x.cells.length n&&x.cells.all PV.IT with
   |false=>simp[hc]at hq
   |true=>
    simp only[hc,cond_true,Bh]at hq;subst hq;obtain⟨ZI,Tj⟩:=and_true hc;have ZI:=B5 ZI;simp only[A2]at HW;split at HW
    .rename_i cs JK;split at HW
     .rename_i Oc SV;simp at HW;obtain⟨rfl,rfl⟩:=HW;cases ha with
      |data _ _ hd=>cases hd
      |GN _ _ B hB=>
       rw[I0]at JK;obtain⟨B',vs,ty,h1,h2,h3⟩:=hr.box b cs JK;rw[hB]at h1;cases h1
       have hxg:x≠ .SQ:=by
        rintro rfl;simp[PV.cells,PV.IT]at Tj
       have hxc:=hx.cells hxg;obtain⟨g1,g2⟩:=Zl SV h3 hxc;have ADW:=EA (P:=P) B o ty u.cells.toList 0 vs w h2 (by simpa using g1) (gi hxc Tj);simp only[DN]at ADW;obtain⟨x1,x2,x3,x4⟩:=MD w B vs (vs.toList.take o++u.cells.toList++vs.toList.drop (o+u.cells.toList.length)).toArray ty h2
       have Of:u.cells.size=n:=by
        exact Ag0
       obtain⟨k1,k2⟩:=hr.AIk JK hB (w':=w.setRow B (vs.toList.take o++u.cells.toList++vs.toList.drop (o+u.cells.toList.length)).toArray) (cs:=Oc) x1 (by simpa using g2) x2 x3 rfl rfl x4;exact Afg
     .cases HW
    .rename_i e cs JK;split at HW
     .rename_i Oc SV;simp at HW;obtain⟨rfl,rfl⟩:=HW;cases ha with
      |data _ _ hd=>cases hd
      |GN _ _ B hB=>
       rw[I0]at JK;obtain⟨B',vs,ty,h1,h0,h2,h3⟩:=hr.K7 b e cs JK;rw[hB]at h1;cases h1
       have hxg:x≠ .SQ:=by
        rintro rfl;simp[PV.cells,PV.IT]at Tj
       have hxc:=hx.cells hxg
       have Pq:cs.length<=vs.toList.length:=by
        have:=h3.length;rw[C2]at this;omega
       obtain⟨g1,g2⟩:=Zl SV h3 hxc
       have yA:o+u.cells.toList.length<=cs.length:=by
        have:=g1;rw[C2]at this;omega
       have ADW:=EA (P:=P) B o ty u.cells.toList 0 vs w h2 (by simp at yA Pq⊢;omega) (gi hxc Tj);simp only[DN]at ADW;obtain⟨x1,x2,x3,x4⟩:=MD w B vs (vs.toList.take o++u.cells.toList++vs.toList.drop (o+u.cells.toList.length)).toArray ty h2
       have Of:u.cells.size=n:=by
        exact Ag0
       have AUq:Oc.length=cs.length:=by
        unfold MU at SV;split at SV
        .rename_i hh;simp only[Bh]at SV;subst SV;simp only[Bd,C2,List.length_drop];omega
        .cases SV
       have htk:(vs.toList.take o++u.cells.toList++vs.toList.drop (o+u.cells.toList.length)).take Oc.length=(vs.toList.take cs.length).take o++u.cells.toList++(vs.toList.take cs.length).drop (o+u.cells.toList.length):=by
        rw[AUq,List.take_take,C7 AA,List.drop_take,B3,B3,List.take_append,Cc (by rw[C2];omega),List.take_append,Cc (l:=u.cells.toList) (by rw[C2];omega)];congr 3;rw[C2];omega
       obtain⟨k1,k2⟩:=hr.zB JK hB (w':=w.setRow B (vs.toList.take o++u.cells.toList++vs.toList.drop (o+u.cells.toList.length)).toArray) (cs:=Oc) (vs:=(vs.toList.take o++u.cells.toList++vs.toList.drop (o+u.cells.toList.length)).toArray) (by rw[h0,<- Cp (xs:=vs),<- Cp (xs:=(vs.toList.take o++u.cells.toList++vs.toList.drop (o+u.cells.toList.length)).toArray),FN,K4 _ _ _ (show o+u.cells.toList.length<=vs.toList.length by omega)]) x1 (by
        rw[FN,htk];exact g2) x2 x3 rfl rfl x4
       exact Afg
     .cases HW
    .cases HW
  .cases hq
 .cases hq
def zN(hr:It m h w){t t' d:Bz}(VP:P.underlying t'=some (.slice d)){s x:PV}{v v2:Bk}(hv:VR m s v)(hx:VR m x v2){q:JJ}{md:Bool}(hq:nn P md t s x=some q){st He:St}(I0:st.heap=h){y:PV}(HW:q.run st=some (y,He))
  (hf:∀b,st.next<=b->b<He.next->st.heap b=none)(ty:Bz):
  ∃r w' m',(C0 #[t,t'] ty #[v,v2]).run P w=.ok r w'/\Lx m w m' w'/\It m' He.heap w'/\VR m' y r:=by
 unfold nn at hq;split at hq
 .rename_i e he;have ht:=JM he;split at hq
  .rename_i size hs;obtain⟨i,hi,Of⟩:=Oz hs;split at hq
   .rename_i bytes hby;obtain⟨i',qU,fN⟩:=L3 hby;rw[hi]at qU;cases qU;split at hq
    .rename_i z hz;obtain⟨i2,zv,Ml,hzv,hzc⟩:=k9 hz;rw[hi]at Ml;cases Ml;cases hl:Br z.cells.length (size+1)with
     |false=>simp only[hl,cond_false]at hq;cases hq
     |true=>
      simp only[hl,cond_true]at hq
      have hzs:zv.cells.size=i.size:=by
       have:=((oU (m:=m) hzc).cells (λe=>by rw[e]at hzc;exact rA hzc)).length;rw[B5 hl]at this;rw[Of];simpa using this.symm
      split at hq
      .rename_i xs hxs;have hxd:=hx.GK hxs;cases JO:xs.all (λr=>Br r.length (size+1))with
       |false=>simp only[JO,cond_false]at hq;cases hq
       |true=>
        simp only[JO,cond_true]at hq;have VM:∀GG∈xs,GG.length=i.size:=λGG hm=>by rw[Of];exact B5 (CY.1 JO GG hm)
        split at hq
        .cases hb:Go.Ab.Im xs.length bytes with
         |false=>simp[hb]at hq
         |true=>
          simp only[hb,cond_true]at hq;obtain⟨Lz,L0⟩:=and_true hb;cases SU:ABw P md t with
          |true=>
           rw[SU]at hq;simp only[cond_true]at hq
           have hv0:v=.slice none 0 0:=by
            cases hv with
            |data _ _ hd=>cases hd;rfl
            |nil=>rfl
           subst hv0;split at hq
           .simp only[Bh]at hq;subst hq;simp[A2]at HW;obtain⟨rfl,rfl⟩:=HW
            obtain⟨a,ca,rfl,ha⟩:∃a ca,v2=.slice a 0 ca/\(a=none->ca=0):=by
             cases hxd with
             |none a ca ha=>exact⟨a,ca,rfl,ha⟩
             |GV _ _ _ _ _ _ _ hh=>simp at hh
            have hv2:Eb a 0 ca=.slice none 0 0\/∃a' c',Eb a 0 ca=.slice (some a') 0 c':=by
             cases a with
             |none=>rw[ha rfl];exact .inl rfl
             |some a=>exact .inr ⟨_,_,rfl⟩
            exact⟨_,w,m,Go.Ab.Rd t t' ty e i d ht VP hi _ none 0 0 rfl (Bg _) _ hv2 w,Lx.refl m w,by rw[I0];exact hr,.nil⟩
           .simp only[Bh]at hq;subst hq;simp only[A2,Bh,Ch]at HW;obtain⟨rfl,rfl⟩:=HW;have PS:h st.next=none:=by rw[<- I0];exact hf _ (Bg _) Aac
            obtain⟨r,w',m',g1,g2,g3,g4⟩:=tx hr ht VP hi hzv hzs AA PS VM AD AZ9 (Go.Ab.Rw L0) hxd ty;refine⟨r,w',m',g1,g2,g3.congr λk=>?_,g4⟩;simp only[BE,JT,Of,I0]
          |false=>
          rw[SU]at hq;simp only[cond_false,Bh]at hq;subst hq;simp[A2]at HW;obtain⟨rfl,rfl⟩:=HW;have PS:h st.next=none:=by rw[<- I0];exact hf _ (Bg _) Aac
          have VO:=hr.pY PS i.size
          have hv0:VR m (.HL st.next []) v:=by
           cases hv with
           |data _ _ hd=>cases hd;exact .VV _
           |nil=>exact .VV _
          obtain⟨r,w',m',g1,g2,g3,g4⟩:=sZ VO ht VP hi hzv hzs AA (b:=st.next) (GK:=[]) (xs:=xs) (e0:=i.size) (by simp[JT]) (.inl rfl) (λGG hm=>by simp at hm) VM
           (by simp;rw[fN];exact Go.Ab.Rw Lz) (by simp;exact Go.Ab.Rw L0) hv0 hxd ty
          refine⟨r,w',m',g1,g2,g3.congr λk=>?_,by simpa using g4⟩;simp only[BE,JT,List.length_nil,CZ,Of,I0];split<;>rfl
        .rename_i b n;cases hb:Go.Ab.Im (n+xs.length) bytes with
         |false=>simp[hb]at hq
         |true=>
          simp only[hb,cond_true,Bh]at hq;subst hq;obtain⟨Lz,L0⟩:=and_true hb;simp only[A2]at HW;split at HW
          .rename_i e' cs JK;cases hee:Br (size+1) e' with
           |false=>simp[hee]at HW
           |true=>
            have AUy:=B5 hee;simp only[hee,cond_true]at HW;split at HW
            .rename_i Oc SV;split at SV
             .rename_i hn;simp only[Bh]at SV HW;subst SV;simp only[Ch]at HW;obtain⟨rfl,rfl⟩:=HW;have PS:h st.next=none:=by rw[<- I0];exact hf _ (Bg _) (by simp[BE,BN])
              rw[I0]at JK;obtain⟨r,w',m',g1,g2,g3,g4⟩:=qf hr ht VP hi hzv hzs AA (b:=b) (b':=st.next) (n:=n) (cs:=cs) (by rw[Of];show h b=some (.K7 (size+1) cs);rw[AUy];exact JK) PS (by rw[Of];exact hn) VM AZ9 (Go.Ab.Rw L0) hv hxd ty;refine⟨r,w',m',g1,g2,g3.congr λk=>?_,g4⟩;simp only[BE,BN,JT,Of,I0]
             .cases SV
            .cases HW
          .cases HW
        .rename_i b GK;cases hb:Go.Ab.Im (GK.length+xs.length) bytes&&GK.all (λr=>Br r.length (size+1))with
         |false=>simp[hb]at hq
         |true=>
          simp only[hb,cond_true,Bh]at hq;subst hq;obtain⟨rN,ma⟩:=and_true hb;obtain⟨Lz,L0⟩:=and_true rN;simp only[A2]at HW;split at HW
          .rename_i n' e' KT;cases hc:Br GK.length n'&&(Br GK.length 0||Br (size+1) e')with
           |false=>simp[hc]at HW
           |true=>
            simp only[hc,cond_true,Bh,Ch]at HW;obtain⟨rfl,rfl⟩:=HW;obtain⟨ZI,Tj⟩:=and_true hc;have ZI:=B5 ZI;subst ZI;rw[I0]at KT
            obtain⟨r,w',m',g1,g2,g3,g4⟩:=sZ hr ht VP hi hzv hzs AA (b:=b) (GK:=GK) (xs:=xs) (e0:=e') KT (by
             rcases Bool.or_eq_true_iff.1 Tj with h|h
             .exact .inl (B5 h)
             .exact .inr (by rw[Of];exact(B5 h).symm)) (λGG hm=>by rw[Of];exact B5 (CY.1 ma GG hm)) VM
             AZ9 (Go.Ab.Rw L0) hv hxd ty
            refine⟨r,w',m',g1,g2,g3.congr λk=>?_,g4⟩;simp only[BN,JT,Of,I0]
          .cases HW
        .cases hq
      .cases hq
    .cases hq
   .cases hq
  .cases hq
 .cases hq
def ZS{a:PV}{k:I1}(h:ey a=some k){v:Bk}(hv:VR m a v):v=k.val:=by
 unfold ey at h;split at h
 .exact AgV
 .exact AgV
 .cases h
def I1.desc:I1->TypeDesc
 | .i _=> .int .i64
 | .s _=> .string
def eA{t:Bz}{k:I1}(h:dz P t k=true):∃kt e d,P.underlying t=some (.map kt e)/\P.underlying kt=some d/\d=k.desc/\VU P e=some (.int .i64 0):=by
 unfold dz at h;split at h
 .rename_i kt e hu;obtain⟨h1,h2⟩:=and_true h
  have hz:VU P e=some (.int .i64 0):=by
   clear h h1;split at h2
   .rename_i hz;exact hz
   .cases h2
  clear h h2;split at h1
  .rename_i hk;exact⟨kt,e,_,hu,hk,rfl,hz⟩
  .rename_i hk;exact⟨kt,e,_,hu,hk,rfl,hz⟩
  .cases h1
 .cases h
def AB6{a b:BA}(h:(a.toList==b.toList)=true):b=a:=by rw[<- Es]at h;exact((FG a b).1 h).symm
def I1.yG{k k':I1}(h:k.is k'=true):k'=k:=by
 cases k<;>cases k'<;>simp only[BH]at h
 .rw[beq_iff_eq]at h;rw[h]
 .cases h
 .cases h
 .rw[AB6 h]
def I1.gM(k:I1):k.is k=true:=by cases k<;>simp[BH]
def jN{k:I1}{d:TypeDesc}(hd:d=k.desc):∀{l:ML} {es:List MapEntry} (i:Nat),cQ l es->l.all (λp=>k.NM p.1)=true->
  ∃q,Dy d k.val es i=some q/\(match IQ k l with
   |some v=>∃j e,q=some (i+j,.int .i64 v)/\es[j]?=some e/\e.key=k.val/\∀x,cQ (Mv k x l) (es.modify j λe=>{e with key:=k.val,val:=.int .i64 x})
   |none=>q=none/\∀x c,cQ (Mv k x l) (es++[⟨k.val,.int .i64 x,c⟩]))
 |[],[],i,_,_=>⟨none,rfl,rfl,λx c=>⟨rfl,rfl,trivial⟩⟩
 |[],_::_,_,h,_=>h.elim
 |(_,_)::_,[],_,h,_=>h.elim
 |(k',v)::l,e::es,i,⟨h1,h2,h3⟩,JO=>by
  simp only[Co,Bo]at JO;obtain⟨hk,JO⟩:=JO;obtain⟨q,g1,g2⟩:=jN hd (i+1) h3 JO
  have K9:Em d k.val e.key=some (k.is k'):=by
   exact Ae8
  cases hb:k.is k' with
  |true=>
   rw[hb]at K9;have hkk:k'=k:=I1.yG hb;subst hkk;refine⟨some (i,e.val),by simp[Dy,K9],?_⟩;simp only[IQ,hb,cond_true];refine⟨0,e,by rw[h2];rfl,rfl,h1,λx=>?_⟩;simp only[Mv,hb,cond_true,List.modify_zero_cons];exact⟨rfl,rfl,h3⟩
  |false=>
   rw[hb]at K9;refine⟨q,by simp[Dy,K9,g1],?_⟩;simp only[IQ,hb,cond_false];split at g2
   .rename_i v' hv';obtain⟨j,e',q1,q2,q3,q4⟩:=g2;refine⟨j+1,e',by rw[q1,show i+1+j=i+(j+1) by omega],by simpa using q2,q3,λx=>?_⟩;simp only[Mv,hb,cond_false,List.modify_succ_cons];exact⟨h1,h2,q4 x⟩
   .rename_i hv';obtain⟨q1,q2⟩:=g2;refine⟨q1,λx c=>?_⟩;simp only[Mv,hb,cond_false,List.cons_append];exact⟨h1,h2,q2 x c⟩
def Wf{k:I1}{kt:Bz}{d:TypeDesc}(hu:P.underlying kt=some d)(hd:d=k.desc)(empty:Bool)(n:Nat)(w:World):
  (Instr.checkKey empty (n+1) kt k.val).run P w=.ok () w:=by
 cases k<;>(simp only[I1.desc]at hd;subst hd)<;>simp[Instr.checkKey,Bv hu,I1.val]
def AAX(hr:It m h w){t:Bz}{mp k:PV}{ok:Bool}{q:JJ}(hq:HF P t mp k ok=some q){st He:St}(I0:st.heap=h){y:PV}(HW:q.run st=some (y,He)){u v:Bk}(hm:VR m mp u)(hk:VR m k v):
  He=st/\∃r,(Fb t u v ok).run P w=.ok r w/\VR m y r:=by
 unfold HF at hq;split at hq
 .rename_i k' Rm;have hv:=ZS Rm hk;subst hv;cases ta:dz P t k' with
  |false=>simp[ta]at hq
  |true=>
   obtain⟨kt,e,d,hu,hd,hdk,hz⟩:=eA ta;simp only[ta,cond_true]at hq;obtain⟨zv,hzv,hzr,hzg⟩:=XO hz w
   have AWD:zv=.int .i64 0:=by
    have:=hzr m;cases this with|data _ _ hd=>cases hd;rfl
   subst AWD;split at hq
   .rename_i b;simp only[Bh]at hq;subst hq;simp only[A2]at HW;split at HW
    .rename_i l hl;cases JO:l.all (λp=>k'.NM p.1)with
     |false=>simp[JO]at HW
     |true=>
      simp only[JO,cond_true]at HW;rw[I0]at hl;cases hm with
      |data _ _ hd=>cases hd
      |map _ B hB=>
       obtain⟨B',MH,Ga,g1,g2,g3⟩:=hr.map b l hl;rw[hB]at g1;cases g1;have Iz:=Go.Ab.XM (P:=P) w B MH Ga g2;obtain⟨q,f1,f2⟩:=jN hdk 0 g3 JO;have lO:=Wf (P:=P) hd hdk MH.isEmpty 9999 w;split at HW
       .rename_i x hx;cases hf:IQ k' l with
        |some n=>
         rw[hf]at hx f2;simp only[Bh]at hx;subst hx;simp only[Bh,Ch]at HW;obtain⟨rfl,rfl⟩:=HW;obtain⟨j,e',rfl,_⟩:=f2;refine⟨rfl,if ok then .tuple #[.int .i64 n,.bool true]else .int .i64 n,?_,?_⟩
         .simp[Fb,Bv hu,Iz,lO,Dz,Bv hd,f1]
         .cases ok
          .exact AhY
          .exact .tuple _ [.int .i64 n,.bool true] (.cons _ _ _ _ (.data _ _ (.int _ _)) (.one (.data _ _ (.bool _))))
        |none=>
         rw[hf]at hx f2;simp only[Bh]at hx;subst hx;simp only[Bh,Ch]at HW;obtain⟨rfl,rfl⟩:=HW;obtain⟨rfl,_⟩:=f2;refine⟨rfl,if ok then .tuple #[.int .i64 0,.bool false]else .int .i64 0,?_,?_⟩
         .simp[Fb,Bv hu,Iz,lO,Dz,Bv hd,f1,hzv]
         .cases ok
          .exact AhY
          .exact .tuple _ [.int .i64 0,.bool false] (.cons _ _ _ _ (.data _ _ (.int _ _)) (.one (.data _ _ (.bool _))))
       .cases HW
    .cases HW
   .cases hq
 .cases hq
def ABI(hr:It m h w){t:Bz}{mp k x:PV}{q:JJ}(hq:HH P t mp k x=some q){st He:St}(I0:st.heap=h){y:PV}(HW:q.run st=some (y,He)){u v z:Bk}(hm:VR m mp z)(hk:VR m k u)(hx:VR m x v):
  ∃w',(FA t z u v).run P w=.ok () w'/\Lx m w m w'/\It m He.heap w'/\y=.undef:=by
 unfold HH at hq;split at hq
 .rename_i k' Rm;have hv:=ZS Rm hk;subst hv;cases ta:dz P t k' with
  |false=>simp[ta]at hq
  |true=>
   obtain⟨kt,e,d,hu,hd,hdk,hz⟩:=eA ta;simp only[ta,cond_true]at hq;split at hq
   .rename_i b n;simp only[Bh]at hq;subst hq;cases hx with|data _ _ hx=>
    cases hx;simp only[A2]at HW;split at HW
    .rename_i l hl;cases JO:l.all (λp=>k'.NM p.1)with
     |false=>simp[JO]at HW
     |true=>
      simp only[JO,cond_true,Bh,Ch]at HW;obtain⟨rfl,rfl⟩:=HW;rw[I0]at hl;cases hm with
      |data _ _ hd=>cases hd
      |map _ B hB=>
       obtain⟨B',MH,Ga,g1,g2,g3⟩:=hr.map b l hl;rw[hB]at g1;cases g1;have Iz:=Go.Ab.XM (P:=P) w B MH Ga g2;obtain⟨q,f1,f2⟩:=jN hdk 0 g3 JO;have lO:=Wf (P:=P) hd hdk false 9999 w
       have key:∀(Tf:Array MapEntry) (iu:Nat),cQ (Mv k' n l) Tf.toList->Lx m w m (BO w B (.map Tf iu))/\It m (st.set b (.map (Mv k' n l))).heap (BO w B (.map Tf iu)):=by
        intro Tf iu hrel;obtain⟨p1,p2,p3,p4⟩:=Go.Ab.Mx w B (.map MH Ga) (.map Tf iu) g2 AbV AbV;obtain⟨k1,k2⟩:=hr.zC hl hB (w':=BO w B (.map Tf iu)) (l:=Mv k' n l) p1 hrel p2 p3 rfl rfl p4;exact Ahf
       cases hf:IQ k' l with
       |some n0=>
        rw[hf]at f2;obtain⟨j,e',rfl,q2,q3,q4⟩:=f2;obtain⟨k1,k2⟩:=key (MH.modify j λe=>{e with key:=k'.val,val:=.int .i64 n}) Ga (by simpa using q4 n);refine⟨_,?_,k1,k2,rfl⟩
        have AVE:((MH[j]?).map (·.key)).getD k'.val=e'.key:=by
         have:MH[j]?=some e':=by simpa using q2
         rw[this];rfl
        have Ur:FH 10000 e'.key k'.val=true:=by
         rw[q3];cases k' with
         |i n=>simp[FH,I1.val]
         |s b=>simp[FH,I1.val,(FG b b).2 rfl]
        rw[CZ]at f1;simp only[FA,B6,Bv hu,Result.andThen_ok,Iz,lO,Dz,Bv hd,f1,Sem.run_pure,AVE,Instr.keyThatStays,Ur,if_true,Go.Ab.S9 w B MH Ga g2]
       |none=>
        rw[hf]at f2;obtain⟨rfl,q2⟩:=f2;obtain⟨k1,k2⟩:=key (MH.push {key:=k'.val,val:=.int .i64 n,born:=Ga}) (Ga+1) (by simpa using q2 n Ga);refine⟨_,?_,k1,k2,rfl⟩;simp only[FA,B6,Bv hu,Result.andThen_ok,Iz,lO,Dz,Bv hd,f1,Sem.run_pure,Go.Ab.S9 w B MH Ga g2]
    .cases HW
   .cases hq
 .cases hq
def xY{k:I1}{d:TypeDesc}(hd:d=k.desc):∀{l:ML} {es:List MapEntry} (i:Nat),cQ l es->l.all (λp=>k.NM p.1)=true->
  ∃q,Dy d k.val es i=some q/\(match q with
   |some (p,_)=>∃j,p=i+j/\j<es.length/\cQ (SD k l) (es.eraseIdx j)
   |none=>cQ (SD k l) es)
 |[],[],i,_,_=>⟨none,rfl,trivial⟩
 |[],_::_,_,h,_=>h.elim
 |(_,_)::_,[],_,h,_=>h.elim
 |(k',v)::l,e::es,i,⟨h1,h2,h3⟩,JO=>by
  simp only[Co,Bo]at JO;obtain⟨hk,JO⟩:=JO;obtain⟨q,g1,g2⟩:=xY hd (i+1) h3 JO
  have K9:Em d k.val e.key=some (k.is k'):=by
   exact Ae8
  cases hb:k.is k' with
  |true=>
   rw[hb]at K9;refine⟨some (i,e.val),by simp[Dy,K9],0,rfl,AD,?_⟩;simp only[SD,hb,cond_true,List.eraseIdx_zero,List.tail_cons];exact h3
  |false=>
   rw[hb]at K9;refine⟨q,by simp[Dy,K9,g1],?_⟩;cases q with
   |none=>
    simp only[SD,hb,cond_false];exact⟨h1,h2,g2⟩
   |some p=>
    obtain⟨p,v'⟩:=p;obtain⟨j,rfl,hj,hrel⟩:=g2;refine⟨j+1,AA,by simp;omega,?_⟩;simp only[SD,hb,cond_false,List.eraseIdx_cons_succ];exact⟨h1,h2,hrel⟩
def zt(hr:It m h w){t:Bz}{mp k:PV}{q:JJ}(hq:HN P t mp k=some q){st He:St}(I0:st.heap=h){y:PV}(HW:q.run st=some (y,He)){u z:Bk}(hm:VR m mp z)(hk:VR m k u){IK:Array Bz}(SU:IK[0]?=some t)(ty:Bz):
  ∃w',(FB IK ty #[z,u]).run P w=.ok (.tuple #[]) w'/\Lx m w m w'/\It m He.heap w'/\y=.undef:=by
 unfold HN at hq;split at hq
 .rename_i k' Rm;have hv:=ZS Rm hk;subst hv;cases ta:dz P t k' with
  |false=>simp[ta]at hq
  |true=>
   obtain⟨kt,e,d,hu,hd,hdk,hz⟩:=eA ta;simp only[ta,cond_true]at hq;split at hq
   .rename_i b;simp only[Bh]at hq;subst hq;simp only[A2]at HW;split at HW
    .rename_i l hl;cases JO:l.all (λp=>k'.NM p.1)with
     |false=>simp[JO]at HW
     |true=>
      simp only[JO,cond_true,Bh,Ch]at HW;obtain⟨rfl,rfl⟩:=HW;rw[I0]at hl;cases hm with
      |data _ _ hd=>cases hd
      |map _ B hB=>
       obtain⟨B',MH,Ga,g1,g2,g3⟩:=hr.map b l hl;rw[hB]at g1;cases g1;have Iz:=Go.Ab.XM (P:=P) w B MH Ga g2;obtain⟨q,f1,f2⟩:=xY hdk 0 g3 JO;have lO:=Wf (P:=P) hd hdk MH.isEmpty 9999 w;have a0:(#[Value.map (some B),k'.val]:AV0)[0]?=some (.map (some B)):=rfl;have a1:(#[Value.map (some B),k'.val]:AV0)[1]?=some k'.val:=rfl
       have key:∀(Tf:Array MapEntry),cQ (SD k' l) Tf.toList->Lx m w m (BO w B (.map Tf Ga))/\It m (st.set b (.map (SD k' l))).heap (BO w B (.map Tf Ga)):=by
        intro Tf hrel;obtain⟨p1,p2,p3,p4⟩:=Go.Ab.Mx w B (.map MH Ga) (.map Tf Ga) g2 AbV AbV;obtain⟨k1,k2⟩:=hr.zC hl hB (w':=BO w B (.map Tf Ga)) (l:=SD k' l) p1 hrel p2 p3 rfl rfl p4;exact Ahf
       cases q with
       |some p=>
        obtain⟨p,v'⟩:=p;obtain⟨j,rfl,hj,hrel⟩:=f2
        have Tp:(MH.eraseIdxIfInBounds j).toList=MH.toList.eraseIdx j:=by
         have hj:j<MH.size:=by simpa using hj
         simp[Array.eraseIdxIfInBounds,hj,Array.toList_eraseIdx]
        obtain⟨k1,k2⟩:=key (MH.eraseIdxIfInBounds j) (by rw[Tp];exact hrel);refine⟨_,?_,k1,k2,rfl⟩;rw[CZ]at f1;exact AfE
       |none=>
        obtain⟨k1,k2⟩:=key MH f2;refine⟨_,?_,k1,k2,rfl⟩;exact AfE
    .cases HW
   .cases hq
 .cases hq
def bR{t:Bz}(h:gL P t=some false):∃d,P.underlying t=some d/\∀ms,d≠ .interface ms:=by
 unfold gL at h;split at h
 .cases h
 .rename_i d hn hd;exact⟨d,hd,λms e=>hn ms e⟩
 .cases h
def ADi{t:Bz}{x y:PV}(h:kI P t x=some y){u:Bk}(hx:VR m x u)(w:World):∃v,(FO t u).run P w=.ok v w/\VR m y v:=by
 unfold kI at h;split at h
 .rename_i hi;obtain⟨d,hd,hn⟩:=bR hi;cases hsc:x.IT with
  |false=>simp[hsc]at h
  |true=>
   simp only[hsc,cond_true,Bh]at h;subst h;refine⟨.iface t u,?_,.iface _ _ _ hx⟩;simp only[FO,B6,Bv hd,Result.andThen_ok];cases d<;>first|rfl|(exact(hn _ rfl).elim)
 .cases h
def zP{t QY:Bz}{x y:PV}(h:nr P QY x=some y){u:Bk}(hx:VR m x u)(w:World):
  ∃v,(Fi u t QY false).run P w=.ok v w/\VR m y v:=by
 unfold nr at h;split at h
 .rename_i hi;obtain⟨d,hd,hn⟩:=bR hi;split at h
  .rename_i t' v';split at h
   .rename_i ht;subst ht;simp only[Bh]at h;subst h;cases hx with
    |data _ _ hd=>cases hd
    |iface _ _ u' hv=>
     refine⟨u',?_,hv⟩;cases d<;>first|(exact(hn _ rfl).elim)|(simp[Fi,Bv hd])
   .cases h
  .cases h
 .cases h
end
end
section
open Go.Ab (Rh O7 SB LH R7 Oz L3 IP JM Mj LL Fw OT Xm JH and_true)
section
variable{P:Program} {m:J} {w:World}
def ANi{st:St}(hr:It m st.heap w){o:CW}{vs:LP}{q:JJ}{md:Bool}(h:opQ P md o.op vs=some q){y:PV}{He:St}(HW:q.run st=some (y,He))
  (hf:∀b,st.next<=b->b<He.next->st.heap b=none){ρ:Cy->Bk}(Mt:LC m vs (o.op.operands.toList.map ρ))(ro:ON):
  Vl P ro m w He.heap y ((Cr ρ o).run P w):=by
 obtain⟨dst,op,ty,pos,after,guard⟩:=o;simp only at h Mt;unfold opQ at h;split at h
 .split at h
  .exact Afj
  .cases h
 .rename_i x0;split at h
  .simp at h;subst h;simp[A2]at HW;obtain⟨rfl,rfl⟩:=HW;have hv:=cJ (v:=ρ x0) Mt
   have hv0:VR m (.HL st.next []) (ρ x0):=by
    generalize ρ x0=u at hv;cases hv with
    |data _ _ hd=>cases hd;exact .VV _
    |nil=>exact .VV _
   exact IL (v:=ρ x0) (Lx.refl m w) (hr.pY (hf st.next (Bg _) Aac) 0) hv0
  .exact Afj
  .cases h
 .rename_i c0 a0 b0;split at h
  .rename_i c a b;simp at h;subst h;simp[A2]at HW;obtain⟨rfl,rfl⟩:=HW;obtain⟨h1,h2,h3⟩:=ASp (u:=ρ c0) (v:=ρ a0) (x:=ρ b0) Mt;have hc:ρ c0=.bool c:=by generalize ρ c0=q at h1;cases h1 with|data _ _ hd=>cases hd;rfl
   have:(Cr ρ ⟨dst,.pick c0 a0 b0,ty,pos,after,guard⟩).run P w=.ok (.value (if c then ρ a0 else ρ b0)) w:=by
    simp only[Cr,hc,Go.asBool];rfl
   rw[this];cases c
   .exact IL (Lx.refl m w) hr h3
   .exact IL (Lx.refl m w) hr h2
  .cases h
 .rename_i e;split at h
  .rename_i z hz;simp at h;subst h;simp[A2]at HW;obtain⟨rfl,rfl⟩:=HW;obtain⟨v,hv,hvr,hg⟩:=XO hz w;obtain⟨m',k1,k2,k3⟩:=AB4 hr (hf st.next (Bg _) Aac) ((hvr m).cells hg) e;have:(Instr.alloc e true (.tuple #[])).run P w=.ok (.pointer (some ⟨w.heap.size,0,none⟩)) (w.alloc (.cells v.cells e)):=by simp[Instr.alloc,hv,newVar,Go.Ab.Ni]
   rw[OT rfl this];exact IL k1 k2 k3
  .cases h
 .rename_i e x0;split at h
  .rename_i x;cases hs:x.cells.all PV.IT with
   |false=>simp[hs]at h
   |true=>
    simp only[hs,cond_true,Bh]at h;subst h;simp[A2]at HW;obtain⟨rfl,rfl⟩:=HW;have hx:=cJ (v:=ρ x0) Mt;have hxg:x≠ .SQ:=by rintro rfl;simp[PV.cells,PV.IT]at hs
    obtain⟨m',k1,k2,k3⟩:=AB4 hr (hf st.next (Bg _) Aac) (hx.cells hxg) e;have:(Instr.box e (ρ x0)).run P w=.ok (.pointer (some ⟨w.heap.size,0,none⟩)) (w.alloc (.cells (ρ x0).cells e)):=by simp[Instr.box,newVar,Go.Ab.Ni]
    rw[OT rfl this];exact IL k1 k2 k3
  .cases h
 .rename_i t JL;cases hs:vs.all PV.tE with
  |false=>simp[hs]at h
  |true=>
   simp only[hs,cond_true]at h;refine Q8 hr h HW (c:=Instr.build t (JL.map λ(i,x)=>(i,ρ x))) rfl λy hy=>?_;refine zY (Nh:=JL.map λ(i,x)=>(i,ρ x)) ?_ (nZ hs) hy w;rw[Fj]
   exact lA (by
    have:LC m vs (List.map (ρ∘λx=>x.2) JL.toList):=by simpa[DP]using Mt
    exact this)
 .rename_i t len JL;cases h0:ABw P md t&&(Br len 0&&Br JL.size 0)with
  |true=>
   simp only[h0,cond_true]at h;obtain⟨_,hl⟩:=and_true h0;obtain⟨hl,hps⟩:=and_true hl;have hl:=B5 hl;subst hl;obtain rfl:JL=#[]:=EP (B5 hps);obtain⟨u,w',m',g1,g2,g3,g4⟩:=fM (P:=P) (Nh:=(#[]:Array (Nat×Cy)).map λ(i,x)=>(i,ρ x)) hr AD rfl h HW hf;exact Agx
  |false=>
  simp only[h0,cond_false]at h;split at h
  .rename_i v hv;simp at h;subst h;simp[A2]at HW;obtain⟨rfl,rfl⟩:=HW
   obtain⟨u,w',m',g1,g2,g3,g4⟩:=gu (P:=P) (Nh:=JL.map λ(i,x)=>(i,ρ x)) hr (by
    rw[Fj];exact lA (by
    have:LC m vs (List.map (ρ∘λx=>x.2) JL.toList):=by simpa[DP]using Mt
    exact this)) hv
   exact Agx
  .cases h
 .rename_i t l0 c0;split at h
  .obtain⟨h1,h2⟩:=lz (u:=ρ l0) (v:=ρ c0) Mt;obtain⟨v,w',m',g1,g2,g3,g4⟩:=ld (P:=P) hr rfl h HW hf h1 h2;exact Agx
  .cases h
 .rename_i t x0;split at h
  .exact Q8 hr h HW rfl λz hz=>ADi hz AcI w
  .cases h
 .rename_i x0 t QY ok;split at h
  .exact Q8 hr h HW rfl λz hz=>zP hz AcI w
  .cases h
 .rename_i fn first ij
  split at h
  .rename_i f;cases h0:Br first.size 0 with
   |false=>simp[h0]at h
   |true=>
    simp only[h0,cond_true,Bh]at h;subst h;simp[A2]at HW;obtain⟨rfl,rfl⟩:=HW;have Zr:first=#[]:=EP (B5 h0)
    subst Zr;have hv:LC m vs (ij.toList.map ρ):=by simpa[DP]using Mt
    have:(Cr ρ ⟨dst,.makeFunc (.func f) #[] ij,ty,pos,after,guard⟩).run P w=.ok (.value (.func (.func f) #[] (ij.toList.map ρ).toArray)) w:=by
     simp only[Cr,Instr.makeFunc,JH];rfl
    rw[this];exact IL (Lx.refl m w) hr (.fn _ _ _ hv)
  .cases h
 .rename_i t;simp only[Bh]at h;subst h;simp only[A2,Bh,Ch]at HW;obtain⟨rfl,rfl⟩:=HW;obtain⟨m',k1,k2,k3⟩:=hr.ANR (l:=[]) (hf st.next (Bg _) Aac) #[] 0 (by trivial);have:(Cr ρ ⟨dst,.makeMap t none,ty,pos,after,guard⟩).run P w=.ok (.value (.map (some w.heap.size))) (w.alloc (.map #[] 0)):=rfl;rw[this];exact IL k1 k2 (.map _ _ k3)
 .rename_i t m0 k0 ok;split at h
  .obtain⟨h1,h2⟩:=lz (u:=ρ m0) (v:=ρ k0) Mt;obtain⟨rfl,v,g1,g2⟩:=AAX (P:=P) hr h rfl HW h1 h2;rw[OT rfl g1];exact AhI
  .cases h
 .rename_i t m0 k0 x0;split at h
  .obtain⟨h1,h2,h3⟩:=ASp (u:=ρ m0) (v:=ρ k0) (x:=ρ x0) Mt;obtain⟨w',g1,g2,g3,rfl⟩:=ABI (P:=P) hr h rfl HW h1 h2 h3;rw[Xm rfl g1];exact ez g2 g3
  .cases h
 .rename_i t a0;split at h
  .obtain⟨rfl,v,g1,g2⟩:=pT (P:=P) hr (cJ Mt) h rfl HW;rw[OT rfl g1];exact AhI
  .cases h
 .rename_i t a0 x0;split at h
  .obtain⟨h1,h2⟩:=lz (u:=ρ a0) (v:=ρ x0) Mt;obtain⟨w',g1,g2,g3,rfl⟩:=AE5 (P:=P) hr h1 h2 h rfl HW;rw[Xm rfl g1];exact ez g2 g3
  .cases h
 .rename_i x0;split at h
  .rename_i b o;simp at h;subst h;simp[A2]at HW;obtain⟨rfl,rfl⟩:=HW;have hx:=cJ (v:=ρ x0) Mt
   have:(Cr ρ ⟨dst,.nilCheck x0,ty,pos,after,guard⟩).run P w=.ok (.value (ρ x0)) w:=by
    simp only[Cr];generalize ρ x0=q at hx;cases hx with
    |data _ _ hd=>cases hd
    |GN=>rfl
   rw[this];exact IL (Lx.refl m w) hr hx
  .rename_i r o;simp at h;subst h;simp[A2]at HW;obtain⟨rfl,rfl⟩:=HW;have hx:=cJ (v:=ρ x0) Mt
   have:(Cr ρ ⟨dst,.nilCheck x0,ty,pos,after,guard⟩).run P w=.ok (.value (ρ x0)) w:=by
    simp only[Cr];generalize ρ x0=q at hx;cases hx with
    |data _ _ hd=>cases hd
    |MP=>rfl
   rw[this];exact IL (Lx.refl m w) hr hx
  .cases h
 .rename_i op t x0 y0 yt;split at h
  .obtain⟨h1,h2⟩:=lz (u:=ρ x0) (v:=ρ y0) Mt;exact Q8 hr h HW (c:=do D0 op t x0 y0 (ρ x0) (ρ y0);binOp op t (ρ x0) (ρ y0)) rfl λz hz=>AFv hz h1 h2 x0 y0 w
  .cases h
 .rename_i op t x0;split at h
  .exact Q8 hr h HW rfl λz hz=>AN7 hz AcI w
  .cases h
 .rename_i src d x0;split at h
  .exact Q8 hr h HW rfl λz hz=>q8 hz AcI w
  .cases h
 .rename_i t x0 lo hi;split at h
  .rename_i x r;split at h
   .rename_i lo' r1 e1;split at h
    .rename_i qU r2 e2
     have hv:LC m (x::r) (ρ x0::((lo.map ρ).toList++((hi.map ρ).toList++[]))):=by
      have:(Op.slice t x0 lo hi none).operands.toList.map ρ=ρ x0::((lo.map ρ).toList++((hi.map ρ).toList++[])):=by
       cases lo<;>cases hi<;>simp[DP]
      rw[this]at Mt;exact Mt
     cases hv with
     |cons _ _ _ _ hx Lu=>
      obtain⟨a1,Lu⟩:=cF Lu e1;obtain⟨a2,_⟩:=cF Lu e2;exact Q8 hr h HW rfl λz hz=>AA4 hz hx a1 a2 w
    .cases h
   .cases h
  .cases h
 .rename_i t x0 f;split at h
  .exact Q8 hr h HW rfl λz hz=>lK hz AcI w
  .cases h
 .rename_i t x0 f;split at h
  .exact Q8 hr h HW rfl λz hz=>z4 hz AcI w
  .cases h
 .rename_i t x0 i0;split at h
  .obtain⟨h1,h2⟩:=lz (u:=ρ x0) (v:=ρ i0) Mt;exact Q8 hr h HW rfl λz hz=>la hz h1 h2 w
  .cases h
 .rename_i t x0 i0;split at h
  .obtain⟨h1,h2⟩:=lz (u:=ρ x0) (v:=ρ i0) Mt;exact Q8 hr h HW rfl λz hz=>AAM hz h1 h2 w
  .cases h
 .rename_i x0 ix;split at h
  .rename_i l;refine Q8 hr h HW (c:=Instr.extract (ρ x0) ix) rfl λz hz=>?_;have hx:=cJ (v:=ρ x0) Mt;generalize ρ x0=q at hx;cases hx with
   |data _ _ hd=>cases hd
   |tuple _ l' hl=>
    obtain⟨v,hv,hvr⟩:=hl.get hz;exact⟨v,by simp[Instr.extract,hv],hvr⟩
  .cases h
 .rename_i args argTypes;have hv:LC m vs (args.toList.map ρ):=by simpa[DP,Dj]using Mt
  have he:(Cr ρ ⟨dst,.call ⟨.builtin .len,args,argTypes⟩,ty,pos,after,guard⟩)=builtin .len argTypes ty (args.map λ| .const _=>true|_=>false) (args.toList.map ρ).toArray:=by
   exact AeX
  generalize Pq:args.toList.map ρ=cl at hv he;split at h
  .rename_i t x SU;cases hv with
   |cons _ cv _ _ h1 h2=>
    cases h2;have AC3:argTypes[0]?=some t:=by rw[<- Cz,SU];rfl
    rw[he];split at h
    .rename_i v hv;simp at h;subst h;simp[A2]at HW;obtain⟨rfl,rfl⟩:=HW;obtain⟨r,g1,g2⟩:=AHq (P:=P) hv h1 AC3 ty w
     have:(builtin .len argTypes ty (args.map λ| .const _=>true|_=>false) [cv].toArray).run P w=.ok (.value r) w:=by
      simp only[builtin,B6];rw[show[cv].toArray=#[cv]from rfl,g1];rfl
     rw[this];exact AhI
    .cases h
  .cases h
 .rename_i args argTypes;have hv:LC m vs (args.toList.map ρ):=by simpa[DP,Dj]using Mt
  have he:(Cr ρ ⟨dst,.call ⟨.builtin .append,args,argTypes⟩,ty,pos,after,guard⟩)=builtin .append argTypes ty (args.map λ| .const _=>true|_=>false) (args.toList.map ρ).toArray:=by
   exact AeX
  generalize Pq:args.toList.map ρ=cl at hv he;split at h
  .rename_i t t' s x SU;split at h
   .rename_i d hd
    have AC3:argTypes=#[t,t']:=by
     apply Array.ext';simpa using SU
    subst AC3
    obtain⟨u,v,rfl⟩:∃u v,cl=[u,v]:=by
     exact AeH
    obtain⟨h1,h2⟩:=lz hv;rw[he];obtain⟨r,w',m',g1,g2,g3,g4⟩:=zN (P:=P) hr hd h1 h2 h rfl HW hf ty
    have:(builtin .append #[t,t'] ty (args.map λ| .const _=>true|_=>false) [u,v].toArray).run P w=.ok (.value r) w':=by
     exact AgW
    rw[this];exact IL g2 g3 g4
   .cases h
  .cases h
 .rename_i args argTypes;have hv:LC m vs (args.toList.map ρ):=by simpa[DP,Dj]using Mt
  have he:(Cr ρ ⟨dst,.call ⟨.builtin .min,args,argTypes⟩,ty,pos,after,guard⟩)=builtin .min argTypes ty (args.map λ| .const _=>true|_=>false) (args.toList.map ρ).toArray:=by
   exact AeX
  generalize Pq:args.toList.map ρ=cl at hv he;split at h
  .rename_i x y
   obtain⟨u,v,rfl⟩:∃u v,cl=[u,v]:=by
    exact AeH
   obtain⟨h1,h2⟩:=lz hv;rw[he];split at h
   .rename_i z hz;simp only[Bh]at h;subst h;simp[A2]at HW;obtain⟨rfl,rfl⟩:=HW;unfold AHt at hz;split at hz
    .split at hz
     .rename_i hk;subst hk;simp only[Bh]at hz;subst hz;cases h1 with|data _ _ h1=>cases h2 with|data _ _ h2=>
      cases h1;cases h2;exact IL (Lx.refl m w) hr (.data _ _ (.int _ _))
     .cases hz
    .cases hz
   .cases h
  .cases h
 .rename_i args argTypes;have hv:LC m vs (args.toList.map ρ):=by simpa[DP,Dj]using Mt
  have he:(Cr ρ ⟨dst,.call ⟨.builtin .delete,args,argTypes⟩,ty,pos,after,guard⟩)=builtin .delete argTypes ty (args.map λ| .const _=>true|_=>false) (args.toList.map ρ).toArray:=by
   exact AeX
  generalize Pq:args.toList.map ρ=cl at hv he;split at h
  .rename_i t t' mp k SU
   obtain⟨u,v,rfl⟩:∃u v,cl=[u,v]:=by
    exact AeH
   obtain⟨h1,h2⟩:=lz hv;have AC3:argTypes[0]?=some t:=by rw[<- Cz,SU];rfl
   rw[he];obtain⟨w',g1,g2,g3,rfl⟩:=zt (P:=P) hr h rfl HW h1 h2 AC3 ty
   have:(builtin .delete argTypes ty (args.map λ| .const _=>true|_=>false) [u,v].toArray).run P w=.ok (.value (.tuple #[])) w':=by
    exact AgW
   rw[this];exact IL g2 g3 (.tuple [] [] .nil)
  .cases h
 .cases h
def vw{r:PV}{st He:St}{v:PV}(h:(v,He)=JF r st):st.next<=He.next:=by unfold JF at h;split at h<;>(obtain⟨_,rfl⟩:=Prod.mk.inj h)<;>simp[BE]
def R1.vr{a:PV}{v:Bk}(h:R1 m.K a v):VR m a v:=by
 cases h with
 |data _ _ hd=>exact .data _ _ hd
 |agg l l' hl=>exact .agg _ _ hl.vrs
def R1s.vrs{l:LP}{l':LV}(h:R1s m.K l l'):LC m l l':=by
 induction l generalizing l' with
 |nil=>cases h;exact .nil
 |cons a l ih=>cases h with|cons _ v _ l' h1 h2=>exact .cons _ _ _ _ h1.vr (ih h2)
def ACE{st:St}(hr:It m st.heap w){f:B9}{fn:Dm}(PR:P.funcs[f]?=some fn)(hb:fn.body.isSome=true)(hn:(fn.name== "runtime.NumGoroutine")=false){vs:LP}{v:PV}{He:St}{bs:LN}(hc:gV P f vs st v He bs)
  (hf:∀b,st.next<=b->b<He.next->st.heap b=none){HP:LV}(Mt:LC m vs HP)(ro:ON):
  Vl P ro m w He.heap v ((DL f HP.toArray).run P w):=by
 obtain⟨args,HV,r,G9,h1,h2,h3,h4,h5,h6⟩:=hc.ex;have KO:=R6 h2;obtain⟨Bs,g1,g2,g3⟩:=bG hr rfl h3;have OU:=Zn (bs0:=bs) g3 h1 Mt (λi b hb=>by rw[CZ];exact hb)
 have AUQ:Bs.Nodup:=by
  refine DT.2 λi j hi hj hij heq=>?_;obtain⟨Bi,a1,a2⟩:=g3 i _ (Bc (show i<bs.length by omega));obtain⟨Bj,a3,a4⟩:=g3 j _ (Bc (show j<bs.length by omega));rw[Bc hi]at a1;rw[Bc hj]at a3;cases a1;cases a3;rw[<- heq]at a4;exact DT.1 KO i j AA AA hij (hr.LJ _ _ _ a2 a4 (by obtain⟨cs,hc⟩:=QP h3 bs[i] (Bl _);rw[hc];exact MA rfl) (by obtain⟨cs,hc⟩:=QP h3 bs[j] (Bl _);rw[hc];exact MA rfl))
 have Tk:=h5 m.K w Bs HP hr.Xp g1 AUQ OU;obtain⟨body,ji⟩:=DH.1 hb
 have HW:(DL f HP.toArray).run P w=.ok (.enter f HP.toArray) w:=by
  exact AeG
 rw[HW];intro o a K Q hK;refine⟨λh=>by simp[Fw,DF]at h,?_⟩;have ZJ:Er (Fw ro) (0-1) P f HP.toArray w (λe w'=>∃K' v,e=.returned v/\tg m.K w Bs r G9 K' v w'):=Tk;refine ZJ.mono ?_;rintro e w' ⟨K',u,rfl,AJS⟩;obtain⟨k1,k2⟩:=hr.AT3 AJS g3 g2 (QP h3) (st:=st) (He:=Hc st bs G9) rfl rfl KO h4
 have ADT:(v,He)=(r,Hc st bs G9)->VR {m with K:=K'} r u->K (a.put o.dst u) w':=by
  intro he hv;obtain⟨rfl,rfl⟩:=Prod.mk.inj he;exact hK _ _ _ k1 k2 hv
 have Wy:(Hc st bs G9).next=st.next:=LY;have PS:(v,He)=((Hc st bs G9).next.casesOn (PV.undef) λ_=>PV.undef,He)->True:=λ_=>trivial;cases AJS.val with
 |one _ _ vJ=>
  refine ADT ?_ (R1.vr (m:={m with K:=K'}) vJ);rw[h6];cases vJ with
  |data _ _ hd=>cases hd<;>rfl
  |agg=>rfl
 |tuple l l' hl=>exact ADT h6 (.tuple _ _ (R1s.vrs (m:={m with K:=K'}) hl))
 |ph e=>
  simp only[JF,Ch]at h6;obtain⟨rfl,rfl⟩:=h6
  have MT:(Hc st bs G9).heap (Hc st bs G9).next=none:=by
   rw[Wy];have:=hf st.next (Bg _) (by simp[BE,Wy]);rw[KG KO h4];cases hi:bs.idxOf? st.next with
   |none=>exact this
   |some i=>
    exact Ad8
  have:=k2.pY MT e;refine hK _ _ w' k1 (this.congr λx=>?_) (.VV _);simp[BE]
 |HE GK B e c ks nY ty Nc hk hR Va AME hw Of=>
  simp only[JF,Ch]at h6;obtain⟨rfl,rfl⟩:=h6
  have MT:(Hc st bs G9).heap (Hc st bs G9).next=none:=by
   rw[Wy];have:=hf st.next (Bg _) (by simp[BE,Wy]);rw[KG KO h4];cases hi:bs.idxOf? st.next with
   |none=>exact this
   |some i=>
    exact Ad8
  have AAE:¬J.my {m with K:=K'} B:=by
   intro hi;have:m.my B:=hi;have:=hr.ADw this;omega
  obtain⟨q1,q2,q3⟩:=k2.AOz MT hk Va hR.len hw rfl AAE;refine hK _ _ w' ⟨k1.le.trans q1,k1.size,k1.cW,λx B' n' e' t' hx=>?_,k1.bU,k1.LU,k1.os,k1.output,k1.NZ,k1.KW⟩ (q2.congr λx=>rfl) ?_
  .rcases q3 x B' n' e' t' hx with h|rfl
   .exact k1.YP x _ _ _ _ h
   .exact .inr Nc
  .exact .HL _ GK B c B GK.length e nY.size AaB Va (Bg _) (λ_=>⟨rfl,Of⟩) (hR.dr Va hk (Cs _) AME)
end
end
section
def Gm(st:St):Prop:=∀b,st.next<=b->st.heap b=none
structure HT (st He:St):Prop where
 next:st.next<=He.next
 none:∀b,b<st.next->st.heap b=none->He.heap b=none
def HT.refl(st:St):HT st st:=⟨Bg _,λ_ _ h=>h⟩
def HT.trans{a b c:St}(h:HT a b)(k:HT b c):HT a c:=⟨CN h.next k.next,λx hx hn=>k.none x (Cv hx h.next) (h.none x hx hn)⟩
structure VJ where
 holds:J->Prop
 ext:∀{m m':J} {w w':World},holds m->Lx m w m' w'->holds m'
def Ov(E:VJ)(m:J):Prop:=E.holds m
def Ov.le{E:VJ}{m m':J}{w w':World}(h:Ov E m)(k:Lx m w m' w'):Ov E m':=E.ext h k
def VJ.Jh:VJ:=⟨λ_=>True,λ_ _=>trivial⟩
def SCr(E:VJ)(P:Cf)(f:B9)(args:LP)(st:St)(r:PV)(He:St):Prop:=
 ∀(m:J) (w:World) (HP:LV),Ov E m->It m st.heap w->LC m args HP->
  Er DF 0 P f HP.toArray w λe w'=>∃m' v,e=.returned v/\Lx m w m' w'/\It m' He.heap w'/\VR m' r v
structure SC (E:VJ) (P:Cf) (f:B9) (args:List PV) (st:St) (r:PV) (He:St):Prop where
 Iw:HT st He
 Iv:Gm He
 ANq:SCr E P f args st r He
mutual
def Je (S:Nat->Bool):PV->Bool
 | .GN b _=>S b
 | .ME b _=>S b
 | .map b=>S b
 | .HL b _=>S b
 | .agg l=>Jx S l
 | .tuple l=>Jx S l
 | .fn _ l=>Jx S l
 | .iface _ v=>Je S v
 |_=>true
def Jx (S:Nat->Bool):List PV->Bool
 |[]=>true
 |a::l=>Je S a&&Jx S l
end
def jR(S:Nat->Bool)(m:J):J:={m with box:=λb=>if S b=true then m.box b else none,HE:=λb=>if S b=true then m.HE b else none}
section
variable{S:Nat->Bool} {m:J} {h:HO} {w:World}
mutual
def VR.Hn {a:PV} {v:Bk}:VR m a v->Je S a=true->VR (jR S m) a v
 | .SQ v,_=> .SQ v
 | .data a v hd,_=> .data a v hd
 | .nil,_=> .nil
 | .VV b,_=> .VV b
 | .HL b GK B0 c B n e t ho h0 hn ht hd,hs=> .HL b GK B0 c B n e t (by
  have:S b=true:=by simpa[Je]using hs
  simp only[jR,this,if_true];exact ho) h0 hn ht hd
 | .ME b n B c hb hc hz,hs=> .ME b n B c (by
  have:S b=true:=by simpa[Je]using hs
  simp only[jR,this,if_true];exact hb) hc hz
 | .GN b o B hb,hs=> .GN b o B (by
  have:S b=true:=by simpa[Je]using hs
  simp only[jR,this,if_true];exact hb)
 | .MP GG o B IW ks hk hl hd,_=> .MP GG o B IW ks hk hl hd
 | .agg l l' hl,hs=> .agg l l' (LC.Hn hl AaC)
 | .tuple l l' hl,hs=> .tuple l l' (LC.Hn hl AaC)
 | .PY,_=> .PY
 | .map b B hb,hs=> .map b B (by
  have:S b=true:=by simpa[Je]using hs
  simp only[jR,this,if_true];exact hb)
 | .Za,_=> .Za
 | .fn f l l' hl,hs=> .fn f l l' (LC.Hn hl AaC)
 | .nfn,_=> .nfn
 | .yield L,_=> .yield L
 | .iface t a v hv,hs=> .iface t a v (VR.Hn hv AaC)
 | .TL,_=> .TL
def LC.Hn {l:List PV} {l':List Bk}:LC m l l'->Jx S l=true->LC (jR S m) l l'
 | .nil,_=> .nil
 | .cons a v l l' h1 h2,hs=> .cons a v l l' (VR.Hn h1 (by simp only[Jx,Bo]at hs;exact hs.1)) (LC.Hn h2 (by simp only[Jx,Bo]at hs;exact hs.2))
end
def Obj.Je(S:Nat->Bool):Obj->Bool
 | .box cs=>Jx S cs
 | .K7 _ cs=>Jx S cs
 |_=>true
def pq(S:Nat->Bool)(h:HO):HO:=λb=>if S b=true then h b else none
def Uv{b B:Nat}(hb:(jR S m).box b=some B):S b=true/\m.box b=some B:=by simp only[jR]at hb;exact AfS
def XD{b:Nat}{x:Nat×Nat×Nat×Nat}(hb:(jR S m).HE b=some x):S b=true/\m.HE b=some x:=by simp only[jR]at hb;exact AfS
def nQ{b:Nat}{o:Obj}(hb:pq S h b=some o):S b=true/\h b=some o:=by simp only[pq]at hb;exact AfS
def It.Hn(hr:It m h w)(hc:∀b o,S b=true->h b=some o->o.Je S=true):It (jR S m) (pq S h) w:=by
 refine⟨λb o hb=>?_,hr.KW,λb n e hb=>?_,hr.Xp,λb B hb=>?_,λb x hb=>?_,λb b' B hb OK d d'=>?_,λb b' B n e t n' e' t' hb OK=>?_,λb B hb d=>?_,λb B hb=>hr.blt b B (Uv hb).2⟩
 .obtain⟨hs,ho⟩:=nQ hb;have hrf:=hc b o hs ho;have:=hr.bl b o ho;cases o with
  |box cs=>
   obtain⟨B,vs,ty,h1,h2,h3⟩:=this;exact⟨B,vs,ty,by simp only[jR,hs,if_true];exact h1,h2,h3.Hn hrf⟩
  |K7 e cs=>
   obtain⟨B,vs,ty,h1,h0,h2,h3⟩:=this;exact⟨B,vs,ty,by simp only[jR,hs,if_true];exact h1,h0,h2,h3.Hn hrf⟩
  |map l=>
   obtain⟨B,es,c,h1,h2,h3⟩:=this;exact⟨B,es,c,by simp only[jR,hs,if_true];exact h1,h2,h3⟩
  |HE _ _=>trivial
  |KV=>trivial
 .obtain⟨hs,ho⟩:=nQ hb;rcases hr.HE b n e ho with⟨h1,h2⟩|⟨h0,B,t,h1,h2⟩
  .exact .inl ⟨h1,by simp only[jR,hs,if_true];exact h2⟩
  .exact .inr ⟨h0,B,t,by simp only[jR,hs,if_true];exact h1,h2⟩
 .obtain⟨hs,hb⟩:=Uv hb;obtain⟨o,h1,h2⟩:=hr.P6 b B hb;exact⟨o,by simp only[pq,hs,if_true];exact h1,h2⟩
 .obtain⟨hs,hb⟩:=XD hb;obtain⟨n,e,h1⟩:=hr.Qq b x hb;exact⟨n,e,by simp only[pq,hs,if_true];exact h1⟩
 .obtain⟨hs,hb⟩:=Uv hb;obtain⟨td,OK⟩:=Uv OK;simp only[pq,hs,td,if_true]at d d';exact hr.LJ b b' B hb OK d d'
 .exact hr.Mi b b' B n e t n' e' t' (XD hb).2 (XD OK).2
 .obtain⟨hs,hb⟩:=Uv hb;simp only[pq,hs,if_true]at d;exact hr.bK b B hb d
def OD(hr:It m h w){T:Nat->Bool}(hST:∀b,S b=true->T b=true)(Yc:∀b,S b=true->∃o,h b=some o/\o.Uu=false)(hTn:∀b,T b=true->S b=false->h b=none)
  {m1:J}{w':World}{h1:HO}(he:Lx (jR S m) w m1 w')(VO:It m1 h1 w')(hT:∀b,T b=false->h1 b=none):
  ∃m2,Lx m w m2 w'/\It m2 (λb=>if T b=true then h1 b else h b) w'/\m1.le m2:=by
 have mc:∀b,S b=true->h b≠some .KV:=λb hb=>by
  obtain⟨o,h2,h3⟩:=Yc b hb;rw[h2];exact MA h3
 have Lz:∀b,T b=false->m1.box b=none:=λb hb=>VO.R8 (hT b hb);have ho1:∀b,T b=false->m1.HE b=none:=λb hb=>VO.jS (hT b hb);let m2:J:={m1 with box:=λb=>if T b=true then m1.box b else m.box b,HE:=λb=>if T b=true then m1.HE b else m.HE b,eO:=λb=>if T b=true then m1.eO b else m.eO b}
 have cb:∀b B,m2.box b=some B->(T b=true/\m1.box b=some B)\/(T b=false/\m.box b=some B):=by
  intro b B hb;have hb:(if T b=true then m1.box b else m.box b)=some B:=hb;exact Ae9
 have co:∀b x,m2.HE b=some x->(T b=true/\m1.HE b=some x)\/(T b=false/\m.HE b=some x):=by
  intro b B hb;have hb:(if T b=true then m1.HE b else m.HE b)=some B:=hb;exact Ae9
 have l1:m1.le m2:=by
  refine⟨λb B hb=>?_,Yn.refl _,λb B n e t hb=>⟨B,n,t,?_,Bg _,λ_=>⟨rfl,rfl⟩⟩,λb B hb=>?_⟩
  .by_cases c:T b=true
   .exact AhW
   .rw[Lz b Aaf]at hb;cases hb
  .by_cases c:T b=true
   .exact AhW
   .rw[ho1 b Aaf]at hb;cases hb
  .by_cases c:T b=true
   .show(if _ then _ else _)=_;rw[Ps c]
   .rw[Lz b Aaf]at hb;cases hb
 have hTS:∀b,T b=true->h b≠none->S b=true:=λb hb hn=>by
  by_cases c:S b=true
  .exact c
  .exact Zq (hTn b hb Aaf) hn
 have AO2:∀b B,m.box b=some B->T b=true->(jR S m).box b=some B:=λb B hb ht=>by
  obtain⟨o,h2,_⟩:=hr.P6 b B hb;exact AgQ
 have AWb:∀b x,m.HE b=some x->T b=true->(jR S m).HE b=some x:=λb x hb ht=>by
  obtain⟨n,e,h2⟩:=hr.Qq b x hb;exact AgQ
 have l2:m.le m2:=by
  refine⟨λb B hb=>?_,he.le.K,λb B n e t hb=>?_,λb B hb=>?_⟩
  .show(if _ then _ else _)=_;by_cases c:T b=true
   .rw[Ps c];exact he.le.box b B (AO2 b B hb c)
   .rw[Ng c];exact hb
  .show∃B' n' t',(if T b=true then m1.HE b else m.HE b)=some (B',n',e,t')/\n<=n'/\(n'=n->B'=B/\t'=t);by_cases c:T b=true
   .rw[Ps c];exact he.le.HE b B n e t (AWb b _ hb c)
   .rw[Ng c];exact⟨B,n,t,hb,Bg _,λ_=>⟨rfl,rfl⟩⟩
  .show(if _ then _ else _)=_;by_cases c:T b=true
   .rw[Ps c];exact he.le.eO b B (AO2 b B hb c)
   .rw[Ng c]
 have AND:∀b B,S b=false->m.box b=some B->h b≠some .KV->¬(jR S m).my B:=by
  rintro b B hs hb hd (⟨b0,h0⟩|⟨b0,n,e,t,h0⟩)
  .obtain⟨s0,h0⟩:=Uv h0;have:=hr.LJ b0 b B h0 hb (mc b0 s0) hd;rw[this,hs]at s0;cases s0
  .obtain⟨_,h0⟩:=XD h0;obtain⟨n',e',h2⟩:=hr.Qq b0 _ h0;rcases hr.HE b0 n' e' h2 with⟨_,h3⟩|⟨_,B2,t2,h3,ks,h4,_⟩
   .rw[h0]at h3;cases h3
   .rw[h0]at h3;cases h3;rw[hr.bK b _ hb hd]at h4;cases h4
 have ARx:∀b B n e t,S b=false->m.HE b=some (B,n,e,t)->¬(jR S m).my B:=by
  rintro b B n e t hs hb (⟨b0,h0⟩|⟨b0,n0,e0,t0,h0⟩)
  .obtain⟨s0,h0⟩:=Uv h0;obtain⟨n',e',h2⟩:=hr.Qq b _ hb;rcases hr.HE b n' e' h2 with⟨_,h3⟩|⟨_,B2,t2,h3,ks,h4,_⟩
   .rw[hb]at h3;cases h3
   .rw[hb]at h3;cases h3;rw[hr.bK b0 _ h0 (mc b0 s0)]at h4;cases h4
  .obtain⟨s0,h0⟩:=XD h0;have:=hr.Mi b0 b B _ _ _ _ _ _ h0 hb;rw[this,hs]at s0;cases s0
 have AEB:∀b,T b=false->S b=false:=λb hb=>by
  by_cases c:S b=true
  .rw[hST b c]at hb;cases hb
  .simpa using c
 refine⟨m2,⟨l2,he.size,λb B hb=>?_,λb B n e t hb=>?_,λB ks hk=>?_,λB hB hn=>he.LU B hB λhi=>hn ?_,he.os,he.output,he.NZ,he.KW⟩,
  ⟨λb o hb=>?_,VO.KW,λb n e hb=>?_,VO.Xp,λb B hb=>?_,λb x hb=>?_,λb b' B hb OK d d'=>?_,λb b' B n e t n' e' t' hb OK=>?_,λb B hb d=>?_,λb B hb=>?_⟩,l1⟩
 .rcases cb b B hb with⟨_,hb⟩|⟨_,hb⟩
  .rcases he.cW b B hb with⟨b0,h0⟩|h0
   .exact .inl ⟨b0,(Uv h0).2⟩
   .exact .inr h0
  .exact .inl ⟨b,hb⟩
 .rcases co b _ hb with⟨_,hb⟩|⟨_,hb⟩
  .rcases he.YP b B n e t hb with⟨b0,n0,e0,t0,h0⟩|h0
   .exact .inl ⟨b0,n0,e0,t0,(XD h0).2⟩
   .exact .inr h0
  .exact .inl ⟨b,n,e,t,hb⟩
 .rcases he.bU B ks hk with⟨b0,n0,e0,t0,h0⟩|h0
  .exact .inl ⟨b0,n0,e0,t0,(XD h0).2⟩
  .exact .inr h0
 .rcases hi with⟨b0,h0⟩|⟨b0,n0,e0,t0,h0⟩
  .exact .inl ⟨b0,(Uv h0).2⟩
  .exact .inr ⟨b0,n0,e0,t0,(XD h0).2⟩
 .by_cases c:T b=true
  .rw[Ps c]at hb;exact(VO.bl b o hb).Hi l1 λ_ _ _=>rfl
  .rw[Ng c]at hb;have c:T b=false:=by simpa using c
   exact(hr.bl b o hb).Hi l2 λhd B hB=>he.LU B (hr.blt b B hB) (AND b B (AEB b c) hB (by rw[hb];exact MA hd))
 .by_cases c:T b=true
  .rw[Ps c]at hb;rcases VO.HE b n e hb with⟨h2,h3⟩|⟨h0,B,t,h2,h3⟩
   .exact .inl ⟨h2,by show(if _ then _ else _)=_;rw[Ps c];exact h3⟩
   .exact .inr ⟨h0,B,t,by show(if _ then _ else _)=_;rw[Ps c];exact h2,h3⟩
  .rw[Ng c]at hb;have c':T b=false:=by simpa using c
   rcases hr.HE b n e hb with⟨h2,h3⟩|⟨h0,B,t,h2,ks,h3,h4,vs,ty,h5,h6⟩
   .exact .inl ⟨h2,by show(if _ then _ else _)=_;rw[Ng c];exact h3⟩
   .have VN:=ARx b B n e t (AEB b c') h2;obtain⟨Uw,k1,k2⟩:=he.le.K B ks h3
    have:Uw=ks:=by
     rcases he.bU B Uw k1 with⟨b0,n0,e0,t0,g0⟩|g0|g0
     .exact Zq (.inr ⟨b0,n0,e0,t0,g0⟩) VN
     .have g0:m.K B=some Uw:=g0;rw[h3]at g0;cases g0;rfl
     .have:=hr.Ux h2;omega
    subst this;exact .inr ⟨h0,B,t,by show(if _ then _ else _)=_;rw[Ng c];exact h2,_,k1,h4,vs,ty,(he.LU B (hr.Ux h2) VN).trans h5,h6⟩
 .rcases cb b B hb with⟨c,hb⟩|⟨c,hb⟩
  .obtain⟨o,h2⟩:=VO.P6 b B hb;exact⟨o,by simp only[c,if_true];exact h2⟩
  .obtain⟨o,h2⟩:=hr.P6 b B hb;exact⟨o,by simp only[c];exact h2⟩
 .rcases co b x hb with⟨c,hb⟩|⟨c,hb⟩
  .obtain⟨n,e,h2⟩:=VO.Qq b x hb;exact⟨n,e,by simp only[c,if_true];exact h2⟩
  .obtain⟨n,e,h2⟩:=hr.Qq b x hb;exact⟨n,e,by simp only[c];exact h2⟩
 .have sE:∀b b',T b=true->m1.box b=some B->T b'=false->m.box b'=some B->h b'≠some .KV->False:=by
   intro b b' _ k1 c' k2 d';rcases he.cW b B k1 with⟨b0,h0⟩|h0
   .exact AND b' B (AEB b' c') k2 d' (.inl ⟨b0,h0⟩)
   .have:=hr.blt b' B k2;omega
  rcases cb b B hb with⟨c,hb⟩|⟨c,hb⟩<;>rcases cb b' B OK with⟨c',OK⟩|⟨c',OK⟩
  .simp only[c,c',if_true]at d d';exact VO.LJ b b' B hb OK d d'
  .simp only[c',Cw,if_false]at d';exact(sE b b' c hb c' OK d').elim
  .simp only[c,Cw,if_false]at d;exact(sE b' b c' OK c hb d).elim
  .simp only[c,c',Cw,if_false]at d d';exact hr.LJ b b' B hb OK d d'
 .have sE:∀{b b' n e t n' e' t'},m1.HE b=some (B,n,e,t)->T b'=false->m.HE b'=some (B,n',e',t')->False:=by
   intro b b' n e t n' e' t' k1 c' k2;rcases he.YP b B n e t k1 with⟨b0,n0,e0,t0,h0⟩|h0
   .exact ARx b' B n' e' t' (AEB b' c') k2 (.inr ⟨b0,n0,e0,t0,h0⟩)
   .have:=hr.Ux k2;omega
  rcases co b _ hb with⟨c,hb⟩|⟨c,hb⟩<;>rcases co b' _ OK with⟨c',OK⟩|⟨c',OK⟩
  .exact VO.Mi b b' B _ _ _ _ _ _ hb OK
  .exact(sE hb c' OK).elim
  .exact(sE OK c hb).elim
  .exact hr.Mi b b' B _ _ _ _ _ _ hb OK
 .rcases cb b B hb with⟨c,hb⟩|⟨c,hb⟩
  .simp only[c,if_true]at d;exact VO.bK b B hb d
  .simp only[c,Cw,if_false]at d;have hk:=hr.bK b B hb d;show m1.K B=none;cases LX:m1.K B with
   |none=>rfl
   |some ks=>
    rcases he.bU B ks LX with⟨b0,n0,e0,t0,h0⟩|h0|h0
    .exact Zq (.inr ⟨b0,n0,e0,t0,h0⟩) (AND b B (AEB b c) hb d)
    .have h0:m.K B=some ks:=h0;rw[hk]at h0;cases h0
    .have:=hr.blt b B hb;omega
 .rcases cb b B hb with⟨c,hb⟩|⟨c,hb⟩
  .exact VO.blt b B hb
  .exact Cv (hr.blt b B hb) he.size
end
def Hn(st:St)(fp:LN):St:={heap:=pq (λb=>fp.contains b) st.heap,next:=st.next}
def eB(st:St)(fp:LN)(s0:St)(b:Nat):Bool:=fp.contains b||(Nat.ble st.next b&&DZ b s0.next)
def Nf(st:St)(fp:LN)(s0:St):St:={heap:=λb=>if eB st fp s0 b=true then s0.heap b else st.heap b,next:=s0.next}
def nh(st:St)(fp:LN):Prop:=∀b,b∈fp->b<st.next/\∃o,st.heap b=some o/\o.Uu=false/\o.Je (λb=>fp.contains b)=true
section
variable{E:VJ} {P:Program} {f:FuncId} {args:LP} {st s0 He:St} {r:PV} {fp:LN}
def OZ{b:Nat}(hb:b∈fp):(Hn st fp).heap b=st.heap b:=by show(if fp.contains b=true then _ else _)=_;rw[Ps AY]
def Yj{b:Nat}(hb:b∉fp):(Hn st fp).heap b=none:=by show(if fp.contains b=true then _ else _)=_;rw[Ng AY]
def QD{b:Nat}(hb:b∈fp\/(st.next<=b/\b<s0.next)):(Nf st fp s0).heap b=s0.heap b:=by
 show(if eB st fp s0 b=true then _ else _)=_;rw[Ps];unfold eB;rcases hb with h|⟨h1,h2⟩
 .simp[h]
 .simp[DZ,h1];omega
def L9{b:Nat}(hb:b∉fp)(hn:¬(st.next<=b/\b<s0.next)):(Nf st fp s0).heap b=st.heap b:=by show(if eB st fp s0 b=true then _ else _)=_;rw[Ng];unfold eB;simp[DZ,hb];intro h1;omega
def Gm.Hn(h:Gm st):Gm (Hn st fp):=λb hb=>by
 show(if _ then _ else _)=_;split
 .exact h b hb
 .rfl
def SF{b:Nat}:eB st fp s0 b=true<->b∈fp\/(st.next<=b/\b<s0.next):=by unfold eB;simp only[D6,Bo,List.contains_eq_mem,decide_eq_true_eq,DZ,Nat.ble_eq];exact Iff.rfl
def SC.jQ(hEr:∀S m,E.holds m->E.holds (jR S m))(h:SC E P f args (Hn st fp) r s0)(OU:Jx (λb=>fp.contains b) args=true)(Vg:nh st fp)(hf:∀b,st.next<=b->b<s0.next->st.heap b=none):SCr E P f args st r (Nf st fp s0):=by
 have rU:∀b,eB st fp s0 b=false->s0.heap b=none:=λb hb=>by
  have hb:¬(b∈fp\/(st.next<=b/\b<s0.next)):=λh=>by rw[SF.2 h]at hb;cases hb
  by_cases c:b<st.next
  .exact h.Iw.none b c (Yj λhm=>hb (.inl hm))
  .exact h.Iv b (by
    have:¬b<s0.next:=λh2=>hb (.inr ⟨AA,h2⟩);omega)
 intro m w HP hE hr hv
 .have hrR:=hr.Hn (S:=λb=>fp.contains b) (λb o hs ho=>by
   obtain⟨_,o',h1,_,h3⟩:=Vg b (by simpa using hs);rw[ho]at h1;cases h1;exact h3)
  refine(h.ANq (jR (λb=>fp.contains b) m) w HP (hEr _ _ hE) hrR (hv.Hn OU)).mono ?_;rintro e w' ⟨m1,v,rfl,he,VO,hv1⟩
  obtain⟨m2,k1,k2,k3⟩:=Go.Vi.OD hr (T:=eB st fp s0) (λb hb=>SF.2 (.inl AY)) (λb hb=>by
   obtain⟨_,o,h1,h2,_⟩:=Vg b AY
   exact⟨o,h1,h2⟩) (λb hb hs=>by
    rcases SF.1 hb with h1|h1
    .simp[h1]at hs
    .exact hf b h1.1 h1.2) he VO rU
  exact⟨m2,v,rfl,k1,k2,hv1.mono k3⟩
def SC.OD(hEr:∀S m,E.holds m->E.holds (jR S m))(h:SC E P f args (Hn st fp) r s0)(OU:Jx (λb=>fp.contains b) args=true)(Vg:nh st fp)(hf:Gm st):SC E P f args st r (Nf st fp s0):=by
 refine⟨⟨h.Iw.next,λb hb hn=>?_⟩,λb hb=>?_,h.jQ hEr OU Vg λb hb _=>hf b hb⟩
 .by_cases c:b∈fp
  .obtain⟨_,o,h1,_⟩:=Vg b c;rw[hn]at h1;cases h1
  .rw[L9 c AA];exact hn
 .have hb:s0.next<=b:=hb;have h1:st.next<=s0.next:=h.Iw.next;exact AgL
def tX(vs args:LP):Prop:=∀(m:J) (l:LV),LC m vs l->LC m args l
def tX.refl(l:LP):tX l l:=λ_ _ h=>h
def tX.cons{a a':PV}{l l':LP}(h1:∀m v,VR m a v->VR m a' v)(h2:tX l l'):tX (a::l) (a'::l'):=λm k h=>by
 cases h with|cons _ v _ k h3 h4=>exact .cons _ _ _ _ (h1 m v h3) (h2 m k h4)
def NK(a:PV):∀m v,VR m a v->VR m a v:=λ_ _ h=>h
def VH{a x:PV}(h:a.data=some x):∀m v,VR m a v->VR m x v:=λ_ _ hv=> .data _ _ (hv.Q7 h)
def SCr.Hw{vs:LP}(h:SCr E P f args st r He)(hw:tX vs args):SCr E P f vs st r He:=λm w HP hE hr hv=>h m w HP hE hr (hw m HP hv)
def SC.Hw{vs:LP}(h:SC E P f args st r He)(hw:tX vs args):SC E P f vs st r He:=⟨h.Iw,h.Iv,λm w HP hE hr hv=>h.ANq m w HP hE hr (hw m HP hv)⟩
structure mB (E:VJ) (P:Cf) (f:B9) (vs:List PV) (st:St) (v:PV) (He:St) (fp:List Nat):Prop where
 mk::
 ex:∃args s0,(∀S m,E.holds m->E.holds (jR S m))/\tX vs args/\Jx (λb=>fp.contains b) args=true/\SC E P f args (Hn st fp) v s0/\nh st fp/\He=Nf st fp s0
end
def ti(m:J)(w:World)(st:St)(Q:PV->St->Prop)(e:Ending)(w':World):Prop:=∃m' v r He,e=.returned v/\Lx m w m' w'/\It m' He.heap w'/\VR m' r v/\HT st He/\Gm He/\Q r He
def SW(E:VJ)(P:Cf)(f:B9)(args:LP)(st:St)(Q:PV->St->Prop):Prop:=∀(m:J) (w:World) (HP:LV),Ov E m->It m st.heap w->LC m args HP->Er DF 0 P f HP.toArray w (ti m w st Q)
def YW(E:VJ)(P:Cf)(L:Nat)(args:LP)(st:St)(Q:PV->St->Prop):Prop:=
 ∀(m:J) (w:World) (HP:LV),Ov E m->It m st.heap w->LC m args HP->∃l:Loop,w.heap[L]?=some (.loop l)/\HP.length=l.params.size/\
  RoundIn DF 0 P L l.fn ((l.params.zip HP.toArray).foldl (λtmps (t,a)=>tmps.setIfInBounds t a) l.tmps) l.assign l.body w (ti m w st Q)
def SC.AKD{E:VJ}{P:Cf}{f:B9}{args:LP}{st He:St}{r:PV}(h:SW E P f args st λr' s'=>r'=r/\s'=He)(hg:HT st He)(hf:Gm He):SC E P f args st r He:=⟨hg,hf,λm w HP hE hr hv=>(h m w HP hE hr hv).mono λe w' ⟨m',v,r',s',h1,h2,h3,h4,_,_,h7,h8⟩=>⟨m',v,h1,h2,by rw[<- h8];exact h3,by rw[<- h7];exact h4⟩⟩
def SC.sw{E:VJ}{P:Cf}{f:B9}{args:LP}{st He:St}{r:PV}(h:SC E P f args st r He){Q:PV->St->Prop}(hQ:Q r He):SW E P f args st Q:=λm w HP hE hr hv=>
 (h.ANq m w HP hE hr hv).mono λe w' ⟨m',v,h1,h2,h3,h4⟩=>⟨m',v,r,He,h1,h2,h3,h4,h.Iw,h.Iv,hQ⟩
def SW.mono{E:VJ}{P:Cf}{f:B9}{args:LP}{st:St}{Q Q':PV->St->Prop}(h:SW E P f args st Q)(hQ:∀r s,Q r s->Q' r s):SW E P f args st Q':=λm w HP hE hr hv=>
 (h m w HP hE hr hv).mono λe w' ⟨m',v,r,s,h1,h2,h3,h4,h5,h6,h7⟩=>⟨m',v,r,s,h1,h2,h3,h4,h5,h6,hQ r s h7⟩
def SW.Hw{E:VJ}{P:Cf}{f:B9}{args vs:LP}{st:St}{Q:PV->St->Prop}(h:SW E P f args st Q)(hw:tX vs args):SW E P f vs st Q:=λm w HP hE hr hv=>h m w HP hE hr (hw m HP hv)
def SW.OD{E:VJ}{P:Cf}{f:B9}{args:LP}{st:St}{fp:LN}{Q:PV->St->Prop}(hEr:∀S m,E.holds m->E.holds (jR S m))(h:SW E P f args (Hn st fp) Q)(OU:Jx (λb=>fp.contains b) args=true)(Vg:nh st fp)(hf:Gm st):
  SW E P f args st λr s'=>∃s0,Q r s0/\st.next<=s0.next/\Gm s0/\s'=Nf st fp s0:=by
 intro m w HP hE hr hv
 have hrR:=hr.Hn (S:=λb=>fp.contains b) (λb o hs ho=>by
  obtain⟨_,o',h1,_,h3⟩:=Vg b (by simpa using hs);rw[ho]at h1;cases h1;exact h3)
 refine(h (jR (λb=>fp.contains b) m) w HP (hEr _ _ hE) hrR (hv.Hn OU)).mono ?_;rintro e w' ⟨m1,v,r,s0,rfl,he,VO,hv1,hg,MT,hq⟩
 have rU:∀b,eB st fp s0 b=false->s0.heap b=none:=λb hb=>by
  have hb:¬(b∈fp\/(st.next<=b/\b<s0.next)):=λh=>by rw[SF.2 h]at hb;cases hb
  by_cases c:b<st.next
  .exact hg.none b c (Yj λhm=>hb (.inl hm))
  .exact MT b (by
    have:¬b<s0.next:=λh2=>hb (.inr ⟨AA,h2⟩);omega)
 obtain⟨m2,k1,k2,k3⟩:=Go.Vi.OD hr (T:=eB st fp s0) (λb hb=>SF.2 (.inl AY)) (λb hb=>by
  obtain⟨_,o,h1,h2,_⟩:=Vg b AY
  exact⟨o,h1,h2⟩) (λb hb hs=>by
   rcases SF.1 hb with h1|h1
   .simp[h1]at hs
   .exact hf b h1.1) he VO rU
 have hn:st.next<=s0.next:=hg.next;refine⟨m2,v,r,Nf st fp s0,rfl,k1,k2,hv1.mono k3,⟨hn,λb hb hh=>?_⟩,λb hb=>?_,s0,hq,hn,MT,rfl⟩
 .by_cases c:b∈fp
  .obtain⟨_,o,h1,_⟩:=Vg b c;rw[hh]at h1;cases h1
  .rw[L9 c AA];exact hh
 .have hb:s0.next<=b:=hb;exact AgL
section
variable{E:VJ} {P:Program} {m:J} {w:World} {st He:St} {v:PV}
open Go.Ab (Fw)
def qd(P:Cf)(ro:ON)(m:J)(w:World)(st:St)(Q:PV->St->Prop)(r:Result FV):Prop:=
 ∀(o:CW) (a:Act) (K:Act->World->Prop) (Q':QX),
  (∀m' v' w' y He,Lx m w m' w'->It m' He.heap w'->VR m' y v'->HT st He->Gm He->Q y He->K (a.put o.dst v') w')->o.uponIn (Fw ro) 0 P a K Q' r
def ANu(hE:Ov E m)(hr:It m st.heap w){f:B9}{fn:Dm}(PR:P.funcs[f]?=some fn)(hb:fn.body.isSome=true)(hn:(fn.name== "runtime.NumGoroutine")=false){vs:LP}(hc:SCr E P f vs st v He)
  {HP:LV}(Mt:LC m vs HP)(ro:ON):Vl P ro m w He.heap v ((DL f HP.toArray).run P w):=by
 obtain⟨body,ji⟩:=DH.1 hb
 have HW:(DL f HP.toArray).run P w=.ok (.enter f HP.toArray) w:=by
  exact AeG
 rw[HW];intro o a K Q hK;refine⟨λh=>by simp[Fw,DF]at h,?_⟩;have ZJ:Er (Fw ro) (0-1) P f HP.toArray w (λe w'=>∃m' v',e=.returned v'/\Lx m w m' w'/\It m' He.heap w'/\VR m' v v'):=hc m w HP hE hr Mt;refine ZJ.mono ?_;rintro e w' ⟨m',v',rfl,h1,h2,h3⟩;exact hK _ _ _ h1 h2 h3
def eU(hE:Ov E m)(hr:It m st.heap w){f:B9}{fn:Dm}(PR:P.funcs[f]?=some fn)(hb:fn.body.isSome=true)(hn:(fn.name== "runtime.NumGoroutine")=false){vs:LP}{Q:PV->St->Prop}(hc:SW E P f vs st Q)
  {HP:LV}(Mt:LC m vs HP)(ro:ON):qd P ro m w st Q ((DL f HP.toArray).run P w):=by
 obtain⟨body,ji⟩:=DH.1 hb
 have HW:(DL f HP.toArray).run P w=.ok (.enter f HP.toArray) w:=by
  exact AeG
 rw[HW];intro o a K Q' hK;refine⟨λh=>by simp[Fw,DF]at h,?_⟩;have ZJ:Er (Fw ro) (0-1) P f HP.toArray w (ti m w st Q):=hc m w HP hE hr Mt;refine ZJ.mono ?_;rintro e w' ⟨m',v',y,s',rfl,h1,h2,h3,h4,h5,h6⟩;exact hK _ _ _ y s' h1 h2 h3 h4 h5 h6
def ABL(hE:Ov E m)(hr:It m st.heap w){L:Nat}{vs:LP}{Q:PV->St->Prop}(hc:YW E P L vs st Q){HP:LV}(Mt:LC m vs HP)(ro:ON):
  qd P ro m w st Q ((do let d<-Cl (.func (.yield L) #[] #[]) HP.toArray;invoke d.target d.args:Sem FV).run P w):=by
 obtain⟨r,h1,h2,h3⟩:=hc m w HP hE hr Mt;have Iz:(getObj L).run P w=.ok (.loop r) w:=by simp[getObj,Ek,h1]
 have HW:(do let d<-Cl (.func (.yield L) #[] #[]) HP.toArray;invoke d.target d.args:Sem FV).run P w=
   .ok (.round L r.fn ((r.params.zip HP.toArray).foldl (λtmps (t,a)=>tmps.setIfInBounds t a) r.tmps) r.assign r.body) w:=by
  simp only[Cl,pure_bind,invoke,Array.empty_append,Instr.yield,Instr.getLoop,B6,Iz,Result.andThen_ok,Sem.run_pure];rw[Ng (by simpa using h2)];rfl
 rw[HW];intro o a K Q' hK;refine⟨λh=>by simp[Fw,DF]at h,?_⟩;have h':RoundIn (Fw ro) (0-1) P L r.fn ((r.params.zip HP.toArray).foldl (λtmps (t,a)=>tmps.setIfInBounds t a) r.tmps) r.assign r.body w (ti m w st Q):=h3;refine h'.mono ?_;rintro e w' ⟨m',v',y,s',rfl,k1,k2,k3,k4,k5,k6⟩;exact hK _ _ _ y s' k1 k2 k3 k4 k5 k6
def AFj(E:VJ)(P:Cf)(vs:LP)(st:St)(Q:PV->St->Prop):Prop:=(∃g VW args fn,vs=.fn g VW::args/\P.funcs[g]?=some fn/\fn.body.isSome=true/\(fn.name== "runtime.NumGoroutine")=false/\SW E P g (args++VW) st Q)\/∃L args,vs=.yield L::args/\YW E P L args st Q
def AGu(hE:Ov E m)(hr:It m st.heap w){vs:LP}{Q:PV->St->Prop}(hc:AFj E P vs st Q){fv:Bk}{HP:LV}(Mt:LC m vs (fv::HP))(ro:ON):
  qd P ro m w st Q ((do let d<-Cl fv HP.toArray;invoke d.target d.args:Sem FV).run P w):=by
 rcases hc with⟨g,VW,args,fn,rfl,h1,h2,h3,h4⟩|⟨L,args,rfl,h4⟩
 .cases Mt with|cons _ _ _ _ hf ha=>
  cases hf with
  |data _ _ hd=>cases hd
  |fn _ _ cs JK=>
   have HW:(do let d<-Cl (.func (.func g) #[] cs.toArray) HP.toArray;invoke d.target d.args:Sem FV).run P w=(DL g (HP++cs).toArray).run P w:=by
    simp only[Cl,pure_bind,invoke];simp
   rw[HW];exact eU hE hr h1 h2 h3 h4 (ha.append JK) ro
 .cases Mt with|cons _ _ _ _ hf ha=>
  cases hf with
  |data _ _ hd=>cases hd
  |yield=>exact ABL hE hr h4 ha ro
def AKR(E:VJ)(P:Cf)(name:String)(vs:LP)(st:St)(Q:PV->St->Prop):Prop:=
 ∃t x args g fn pr el rv,vs=.iface t x::args/\Go.Ab.pV P t name=some (g,pr,el)/\P.funcs[g]?=some fn/\fn.body.isSome=true/\(fn.name== "runtime.NumGoroutine")=false/\
  (match pr,el with
   |true,some _=>rv=x
   |false,none=>rv=x
   |false,some e=>∃q,m6 P e x=some q/\q.run st=some (rv,st)
   |true,none=>False)/\SW E P g (rv::args) st Q
def AHi(hE:Ov E m)(hr:It m st.heap w){name:String}{vs:LP}{Q:PV->St->Prop}(hc:AKR E P name vs st Q){rv:Bk}{HP:LV}(Mt:LC m vs (rv::HP))(ro:ON):
  qd P ro m w st Q ((FK rv name HP.toArray).run P w):=by
 obtain⟨t,x,args,g,fn,pr,el,rx,rfl,hm,h1,h2,h3,hrx,h4⟩:=hc;cases Mt with|cons _ _ _ _ hf ha=>
 cases hf with
 |data _ _ hd=>cases hd
 |iface _ _ u hu=>
  have rT:∀rv',(Go.receiverAt t (.val u) pr (some ((name.splitOn ".").getLastD name))).run P w=.ok rv' w->
    (FK (.iface t u) name HP.toArray).run P w=(DL g (rv'::HP).toArray).run P w:=by
   intro rv' AVu;obtain⟨i,mt,hi,ta,hp,PR,_⟩:=Go.Ab.kE hm
   have fW:mt.path.toList=[]:=by
    have:mt.path=#[]:=by simpa using hp
    rw[this]
   have rT:(Go.method (P.types.size+Made.depth) t u name).run P w=.ok (g,rv') w:=by
    have AUu:∃n,P.types.size+Made.depth=n+1:=⟨P.types.size+99,rfl⟩
    obtain⟨n,hn⟩:=AUu;rw[hn];simp only[Go.method,B6,typeInfo,run_program,Result.andThen_ok,hi,Sem.run_pure,ta,fW,follow,PR,hp,if_true];rw[AVu];rfl
   simp only[FK,B6,run_program,Result.andThen_ok,rT];simp
  obtain⟨_,_,_,_,_,_,d,hd,hcd⟩:=Go.Ab.kE hm;cases pr with
  |true=>
   cases el with
   |none=>exact hrx.elim
   |some e=>
    subst hrx;obtain⟨e',rfl,_⟩:=hcd.resolve_right AbE;rw[rT u (by simp[receiverAt,Bv hd,Place.get])];exact Ag2
  |false=>
   cases el with
   |none=>
    subst hrx;obtain⟨Pt,_⟩:=hcd.resolve_left (by rintro⟨_,_,hc⟩;cases hc)
    rw[rT u (by
     simp only[receiverAt,B6,Bv hd,Result.andThen_ok];cases d<;>first|(exact Zq rfl (Pt _))|rfl)]
    exact Ag2
   |some e=>
    obtain⟨q,hq,HW⟩:=hrx;obtain⟨e',rfl,he⟩:=hcd.resolve_right AbE;cases he;obtain⟨_,v',g1,g2⟩:=pT (P:=P) hr hu hq rfl HW
    obtain⟨av,hav⟩:∃av,u=.pointer (some av):=by
     unfold m6 at hq;split at hq
     .cases hu with
      |data _ _ hd=>cases hd
      |GN=>exact⟨_,rfl⟩
     .cases hu with
      |data _ _ hd=>cases hd
      |MP=>exact⟨_,rfl⟩
     .cases hq
    subst hav
    rw[rT v' (by
     simp only[Dr,DJ,pure_bind]at g1;have AUp:∀nm,Builtin.ssaWrapNilChk_ #[t] t #[Value.pointer (some av),strVal "",strVal nm]=pure (.pointer (some av)):=λnm=>rfl;simp only[receiverAt,B6,Bv hd,Result.andThen_ok,Place.get,Sem.run_pure,AUp,asAddr,g1])]
    exact eU hE hr h1 h2 h3 h4 (.cons _ _ _ _ g2 ha) ro
end
inductive Mode where
 |old
 |jG (E:VJ)
 |Hw (E:VJ)
def Mode.KW:Mode->VJ
 | .old=>VJ.Jh
 | .jG E=>E
 | .Hw E=>E
end
section
open Go.Ab (Fw M1 OL cX)
abbrev Kx:=OL->Fr->St->Prop
abbrev Ks:=Fr->St->Prop
def HA{α:Type}(x:Option α)(k:α->Prop):Prop:=match x with
 |some a=>k a
 |none=>False
def Kw{α:Type}{x:Option α}{k:α->Prop}(h:HA x k):∃a,x=some a/\k a:=by
 cases x with
 |none=>exact h.elim
 |some a=>exact⟨a,rfl,h⟩
def Fr.put(fr:Fr)(d:Option Tmp)(v:PV):Fr:=match d with
 |some d=>fr.set d v
 |none=>fr
section
variable(P:Program) (md:Bool) (X:Mode)
def Pz:Op->List Cy
 | .call ⟨.value (.func _),args,_⟩=>args.toList
 |op=>op.operands.toList
def Ms(f:B9):Bool:=match P.funcs[f]? with
 |some fn=>fn.body.isSome&& !(fn.name== "runtime.NumGoroutine")
 |none=>false
inductive OpR:Op->List PV->St->PV->St->List Nat->List Nat->Prop
 |req (op:Op) (vs:List PV) (st:St) (q:JJ) (v:PV) (He:St):opQ P md op vs=some q->q.run st=some (v,He)->OpR op vs st v He q.rd q.wr
 |call (f:B9) (args:Array Cy) (IK:Array Bz) (vs:List PV) (st:St) (v:PV) (He:St) (bs:List Nat):Ms P f=true->gV P f vs st v He bs->OpR (.call ⟨.value (.func f),args,IK⟩) vs st v He [] bs
 |xS (f:B9) (args:Array Cy) (IK:Array Bz) (vs:List PV) (st:St) (v:PV) (He:St) (fp:List Nat):Ms P f=true->mB X.KW P f vs st v He fp->OpR (.call ⟨.value (.func f),args,IK⟩) vs st v He [] fp
def xT(f:B9)(vs:LP)(st:St)(k:PV->St->Prop):Prop:=match X with
 | .old=>False
 | .jG E=>∃v He,SW E P f vs st (λr s=>r=v/\s=He)/\k v He
 | .Hw E=>∃Q,SW E P f vs st Q/\∀v He,HT st He->Gm He->Q v He->k v He
def AP3(vs:LP)(st:St)(k:PV->St->Prop):Prop:=match X with
 | .Hw E=>∃Q,AFj E P vs st Q/\∀v He,HT st He->Gm He->Q v He->k v He
 |_=>False
def AWJ(name:String)(vs:LP)(st:St)(k:PV->St->Prop):Prop:=match X with
 | .Hw E=>∃Q,AKR E P name vs st Q/\∀v He,HT st He->Gm He->Q v He->k v He
 |_=>False
def ACC(f:B9)(vs:LP)(st:St)(k:PV->St->LN->Prop):Prop:=match X with
 | .old=>False
 |_=>∃v He fp,mB X.KW P f vs st v He fp/\k v He fp
def ig(u:Bool)(f:B9)(vs:LP)(st:St)(k:KL):Prop:=match X with
 | .old=>∃v He bs,gV P f vs st v He bs/\k v He [] bs
 |X=>(∃v He bs,gV P f vs st v He bs/\k v He [] bs)\/(match u with
  |true=>xT P X f vs st λv He=>k v He [] []
  |false=>ACC P X f vs st λv He fp=>k v He [] fp)
def Mb{u:Bool}{f:B9}{vs:LP}{st:St}{k:KL}:ig P X u f vs st k<->(∃v He bs,gV P f vs st v He bs/\k v He [] bs)\/(match u with
  |true=>xT P X f vs st λv He=>k v He [] []
  |false=>ACC P X f vs st λv He fp=>k v He [] fp):=by
 cases X with
 |old=>cases u<;>exact⟨.inl,λh=>h.resolve_right id⟩
 |jG E=>exact Iff.rfl
 |Hw E=>exact Iff.rfl
def opP(u:Bool)(op:Op)(vs:LP)(st:St)(k:KL):Prop:=match op with
 | .call ⟨.value (.func f),_,_⟩=>bif Ms P f then ig P X u f vs st k else False
 | .call ⟨.value _,_,_⟩=>match u with
  |true=>AP3 P X vs st λv He=>k v He [] []
  |false=>False
 | .call ⟨.invoke _ name,_,_⟩=>match u with
  |true=>AWJ P X name vs st λv He=>k v He [] []
  |false=>False
 |op=>HA (opQ P md op vs) λq=>HA (q.run st) λp=>k p.1 p.2 q.rd q.wr
def AAl{op:Op}{vs:LP}{st:St}{k:KL}(h:opP P md X false op vs st k):∃v He rd wr,OpR P md X op vs st v He rd wr/\k v He rd wr:=by
 unfold opP at h;split at h
 .rename_i f args IK;cases he:Ms P f with
  |false=>simp only[he,cond_false]at h
  |true=>
   simp only[he,cond_true]at h;rcases(Mb P X).1 h with⟨v,He,bs,h1,h2⟩|h
   .exact⟨v,He,[],bs,.call f args IK vs st v He bs he h1,h2⟩
   .obtain⟨v,He,fp,h1,h2⟩:∃v He fp,mB X.KW P f vs st v He fp/\k v He [] fp:=by
     cases X with
     |old=>exact h.elim
     |jG E=>exact h
     |Hw E=>exact h
    exact⟨v,He,[],fp,.xS f args IK vs st v He fp he h1,h2⟩
 .exact h.elim
 .exact h.elim
 .obtain⟨q,h1,h2⟩:=Kw h;obtain⟨⟨v,He⟩,h3,h4⟩:=Kw h2;exact⟨v,He,q.rd,q.wr,.req _ vs st q v He h1 h3,h4⟩
def dg(g:PV)(Po:Bool):Option Bool:=match g with
 | .bool b=>some (b==Po)
 | .tuple []=>some false
 |_=>none
def Ic(g:PV)(Po:Bool)(X:(KL)->Prop)(k:KL)(s:St):Prop:=match dg g Po with
 |some true=>X k
 |some false=>k .undef s [] []
 |none=>False
def Km(ops:List CW)(fr:Fr)(o:CW):Option Bool:=match o.guard with
 |none=>some true
 |some (j,Po)=>match ops[j]? with
  |some o'=>match o'.dst with
   |some d=>match fr d with
    | .bool b=>some (b==Po)
    | .tuple []=>some false
    |_=>none
   |none=>some false
  |none=>some false
inductive Sd (ops:List CW) (fr:Fr) (o:CW) (st:St):PV->St->List Nat->List Nat->Prop
 |skip:Km ops fr o=some false->Sd ops fr o st .undef st [] []
 |run (vs:List PV) (v:PV) (He:St) (rd wr:List Nat):Km ops fr o=some true->Ol fr (Pz o.op)=some vs->OpR P md X o.op vs st v He rd wr->Sd ops fr o st v He rd wr
def AAj(u:Bool)(op:Op)(fr:Fr)(st:St)(k:KL):Prop:=HA (Ol fr (Pz op)) λvs=>opP P md X u op vs st k
def gP(u:Bool)(ops:List CW)(o:CW)(fr:Fr)(st:St)(k:KL):Prop:=match o.guard with
 |none=>AAj P md X u o.op fr st k
 |some (j,Po)=>match ops[j]? with
  |some o'=>match o'.dst with
   |some d=>Ic (fr d) Po (λk=>AAj P md X u o.op fr st k) k st
   |none=>k .undef st [] []
  |none=>k .undef st [] []
def ACt{ops:List CW}{o:CW}{fr:Fr}{st:St}{k:KL}(h:gP P md X false ops o fr st k):∃v He rd wr,Sd P md X ops fr o st v He rd wr/\k v He rd wr:=by
 have one:Km ops fr o=some true->AAj P md X false o.op fr st k->∃v He rd wr,Sd P md X ops fr o st v He rd wr/\k v He rd wr:=by
  intro hw h;obtain⟨vs,h1,h2⟩:=Kw h;obtain⟨v,He,rd,wr,h3,h4⟩:=AAl P md X h2;exact⟨v,He,rd,wr,.run vs v He rd wr hw h1 h3,h4⟩
 unfold gP at h;cases hg:o.guard with
 |none=>
  rw[hg]at h;exact one (by simp[Km,hg]) h
 |some p=>
  obtain⟨j,Po⟩:=p;rw[hg]at h;simp only at h;cases hj:ops[j]? with
  |none=>
   rw[hj]at h;exact⟨.undef,st,[],[],.skip (by simp[Km,hg,hj]),h⟩
  |some o'=>
   rw[hj]at h;simp only at h;cases hd:o'.dst with
   |none=>
    rw[hd]at h;exact⟨.undef,st,[],[],.skip (by simp[Km,hg,hj,hd]),h⟩
   |some d=>
    rw[hd]at h;simp only at h;have hw:Km ops fr o=dg (fr d) Po:=by simp only[Km,hg,hj,hd];rfl
    unfold Ic at h;split at h
    .rename_i he;exact one AbF h
    .rename_i he;exact⟨.undef,st,[],[],.skip AbF,h⟩
    .exact h.elim
variable(nt:Nat)
def oP(ops:List CW):List CW->Ks->Ks
 |[],K=>K
 |o::r,K=>λfr st=>bif M1 nt o.dst then gP P md X true ops o fr st (λv st _ _=>oP ops r K (fr.put o.dst v) st)else False
end
def Mf(st He:St)(b:Nat):Prop:=st.next<=b/\b<He.next
structure Loc (fL:St->PV->St->Prop) (st:St) (v:PV) (He:St) (rd wr:List Nat):Prop where
 next:st.next<=He.next
 ex:∀b,b∈rd\/b∈wr->st.heap b≠none
 OD:∀b,b∉wr->¬Mf st He b->He.heap b=st.heap b
 gh:∀t:St,t.next=st.next->(∀b,b∈rd\/b∈wr->t.heap b=st.heap b)->
  ∃t',fL t v t'/\t'.next=He.next/\(∀b,b∈wr\/Mf st He b->t'.heap b=He.heap b)/\(∀b,b∉wr->¬Mf st He b->t'.heap b=t.heap b)
section
variable{P:Program} {md:Bool} {X:Mode}
def bV{st:St}{v:PV}{rd:LN}{fL:St->PV->St->Prop}(hex:∀b,b∈rd->st.heap b≠none)(hs:∀t:St,t.next=st.next->(∀b,b∈rd->t.heap b=st.heap b)->fL t v t):Loc fL st v st rd []:=
 ⟨Bg _,λb hb=>hex b (hb.resolve_right AD),λ_ _ _=>rfl,λt ht SS=>⟨t,hs t ht λb hb=>SS b (.inl hb),ht,λb hb=>by
  rcases hb with hb|hb
  .simp at hb
  .unfold Mf at hb;omega,λ_ _ _=>rfl⟩⟩
def YC{st:St}{b:Nat}{o:Obj}{v:PV}{fL:St->PV->St->Prop}(hex:st.heap b≠none)(hs:∀t:St,t.next=st.next->t.heap b=st.heap b->fL t v (t.set b o)):Loc fL st v (st.set b o) [] [b]:=by
 have hn:∀{x:Nat},¬Mf st (st.set b o) x:=λh=>by unfold Mf at h;simp[BN]at h;omega
 refine⟨Bg _,λb' hb=>?_,λb' hb _=>?_,λt ht SS=>⟨t.set b o,hs t ht (SS b (.inr AD)),ht,λb' hb=>?_,λb' hb _=>?_⟩⟩
 .simp at hb;subst hb;exact hex
 .simp at hb;simp[BN,JT,hb]
 .rcases hb with hb|hb
  .simp at hb;subst hb;simp[BN,JT]
  .exact Zq hb hn
 .simp at hb;simp[BN,JT,hb]
def gN{st:St}{o:Obj}{f:Nat->PV}{fL:St->PV->St->Prop}(hs:∀t:St,t.next=st.next->fL t (f st.next) (t.new o)):Loc fL st (f st.next) (st.new o) [] []:=by
 refine⟨by simp[BE],λb hb=>by simp at hb,λb _ hb=>?_,λt ht _=>⟨t.new o,hs t ht,by simp[BE,ht],λb hb=>?_,λb _ hb=>?_⟩⟩
 .have:b≠st.next:=by rintro rfl;exact hb ⟨Bg _,by simp[BE]⟩
  simp[BE,JT,this]
 .rcases hb with hb|hb
  .simp at hb
  .have:b=st.next:=by unfold Mf at hb;simp[BE]at hb;omega
   subst this;simp[BE,JT,ht]
 .have:b≠st.next:=by rintro rfl;exact hb ⟨Bg _,by simp[BE]⟩
  simp[BE,JT,ht,this]
def yn{q:JJ}{st:St}{v:PV}{He:St}(h:q.run st=some (v,He)):Loc (λt v t'=>q.run t=some (v,t')) st v He q.rd q.wr:=by
 cases q with
 |val x=>
  simp[A2]at h;obtain⟨rfl,rfl⟩:=h;exact bV (rd:=[]) (λb hb=>by simp at hb) λt _ _=>rfl
 |load b f=>
  simp only[A2]at h;split at h
  .rename_i cs JK;exact AeF
  .rename_i e cs JK;exact AeF
  .cases h
 |store b f=>
  simp only[A2]at h;split at h
  .rename_i cs JK;exact Aeu
  .rename_i e cs JK;exact Aeu
  .cases h
 |box cs f=>
  exact AeJ
 |push b n e k x=>
  simp only[A2]at h;split at h
  .rename_i n' e' JK;cases hc:Br n n'&&(Br n 0||Br e e')with
   |false=>simp[hc]at h
   |true=>
    simp only[hc,cond_true,Bh,Ch]at h;obtain⟨rfl,rfl⟩:=h;exact YC AbM λt _ SS=>by simp only[A2,SS,JK,hc,cond_true]
  .cases h
 |HE n e f=>
  exact AeJ
 |K7 e cs f=>
  exact AeJ
 |map l f=>
  exact AeJ
 |ADv b f=>
  simp only[A2]at h;split at h
  .rename_i l hl;split at h
   .rename_i x hx;simp at h;obtain⟨rfl,rfl⟩:=h;exact bV (rd:=[b]) (λb' hb=>by simp at hb;subst hb;rw[hl];simp) λt _ SS=>by simp only[A2,SS b AD,hl,hx]
   .cases h
  .cases h
 |Pm b f=>
  simp only[A2]at h;split at h
  .rename_i l hl;split at h
   .rename_i l' hl';simp at h;obtain⟨rfl,rfl⟩:=h;exact YC (by rw[hl];simp) λt _ SS=>by simp only[A2,SS,hl,hl']
   .cases h
  .cases h
 |JD b e f k=>
  simp only[A2]at h;split at h
  .rename_i e' cs JK;cases hc:Br e e' with
   |false=>simp[hc]at h
   |true=>
    simp only[hc,cond_true]at h;split at h
    .rename_i Oc SV;simp only[Bh,Ch]at h;obtain⟨rfl,rfl⟩:=h;have ADQ:∀{x:Nat},Mf st ((st.set b .KV).new (.K7 e Oc)) x<->x=st.next:=λ{x}=>by unfold Mf;simp[BN,BE];omega
     refine⟨by simp[BE,BN],λb' hb=>?_,λb' hb L0=>?_,λt ht SS=>⟨(t.set b .KV).new (.K7 e Oc),?_,by simp[BE,BN,ht],λb' hb=>?_,λb' hb L0=>?_⟩⟩
     .simp[JJ.rd,JJ.wr]at hb;subst hb;rw[JK];simp
     .rw[ADQ]at L0;simp[JJ.wr]at hb;simp[BE,BN,JT,hb,L0]
     .simp only[A2,SS b (.inr (by simp[JJ.wr])),JK,hc,cond_true,SV,ht]
     .rw[ADQ]at hb;simp only[JJ.wr,By]at hb;simp only[BE,BN,JT,ht];rcases hb with rfl|rfl
      .simp
      .simp
     .rw[ADQ]at L0;simp[JJ.wr]at hb;simp[BE,BN,JT,hb,L0,ht]
    .cases h
  .cases h
def Wo{s t:St}:∀{bs:LN},(∀b,b∈bs->t.heap b=s.heap b)->Gv t bs=Gv s bs
 |[],_=>rfl
 |b::bs,h=>by
  simp only[Gv,h b AD,Wo λb hb=>h b (Bq _ hb)]
def ek{s:St}:∀{bs:LN} {l:LLP},Gv s bs=some l->∀b,b∈bs->s.heap b≠none
 |[],_,_,b,hb=>by simp at hb
 |b0::bs,l,h,b,hb=>by
  simp only[Gv]at h;split at h
  .rename_i cs JK;split at h
   .split at h
    .rename_i l' hl;rcases Bm.1 hb with rfl|hb
     .rw[JK];simp
     .exact ek hl b hb
    .cases h
   .cases h
  .cases h
def XP{bs:LN}{VX:LLP}{st:St}(hn:bs.Nodup)(hl:VX.length=bs.length){b:Nat}(hb:b∉bs):(Hc st bs VX).heap b=st.heap b:=by rw[KG hn hl,Db.2 hb]
def fD{bs:LN}{VX:LLP}{s t:St}(hn:bs.Nodup)(hl:VX.length=bs.length){b:Nat}(hb:b∈bs):(Hc s bs VX).heap b=(Hc t bs VX).heap b:=by
 rw[KG hn hl,KG hn hl];cases hi:bs.idxOf? b with
 |none=>exact Zq hb (Db.1 hi)
 |some i=>rfl
def ACD{f:B9}{vs:LP}{st:St}{v:PV}{He:St}{bs:LN}(h:gV P f vs st v He bs):Loc (λt v t'=>gV P f vs t v t' bs) st v He [] bs:=by
 obtain⟨args,HV,r,G9,h1,h2,h3,h4,h5,h6⟩:=h.ex;have KO:=R6 h2
 have key:∀(t:St),t.next=st.next->(∀b,b∈bs->t.heap b=st.heap b)->∀v2 t',(v2,t')=JF r (Hc t bs G9)->v2=v/\t'.next=He.next/\
   (∀b,b∈bs\/Mf st He b->t'.heap b=He.heap b)/\(∀b,b∉bs->¬Mf st He b->t'.heap b=t.heap b):=by
  intro t ht SS v2 t' VP;have fT:(Hc t bs G9).next=(Hc st bs G9).next:=by rw[LY,LY,ht]
  unfold JF at h6 VP;split at h6
  .rename_i e GK;simp only[Ch]at h6 VP;obtain⟨rfl,rfl⟩:=h6;obtain⟨rfl,rfl⟩:=VP;refine⟨by rw[fT],by simp[BE,fT],λb hb=>?_,λb hb L0=>?_⟩
   .simp only[BE,JT,fT];by_cases c:b=(Hc st bs G9).next
    .rw[Ps c,Ps c]
    .rw[Ng c,Ng c];rcases hb with hb|hb
     .exact fD KO h4 hb
     .exfalso;unfold Mf at hb;simp[BE,LY]at hb c;omega
   .have c:b≠(Hc st bs G9).next:=by
     rintro rfl;exact L0 ⟨by rw[LY];exact Bg _,by simp[BE]⟩
    simp only[BE,JT,fT,Ng c];exact XP KO h4 hb
  .rename_i Pt;split at VP
   .rename_i e GK;exact(Pt e GK rfl).elim
   .simp only[Ch]at h6 VP;obtain⟨rfl,rfl⟩:=h6;obtain⟨rfl,rfl⟩:=VP;refine⟨rfl,fT,λb hb=>?_,λb hb _=>XP KO h4 hb⟩;rcases hb with hb|hb
    .exact fD KO h4 hb
    .exfalso;unfold Mf at hb;rw[LY]at hb;omega
 have Kk:st.next<=He.next:=by
  have:=vw h6;rwa [LY]at this
 refine⟨Kk,λb hb=>?_,λb hb L0=>?_,λt ht SS=>?_⟩
 .rcases hb with hb|hb
  .simp at hb
  .exact ek h3 b hb
 .exact(key st rfl (λ_ _=>rfl) v He h6).2.2.2 b hb L0
 .have ACy:∀b,b∈bs->t.heap b=st.heap b:=λb hb=>SS b (.inr hb);obtain⟨k1,k2,k3,k4⟩:=key t ht ACy (JF r (Hc t bs G9)).1 (JF r (Hc t bs G9)).2 rfl;refine⟨(JF r (Hc t bs G9)).2,⟨args,HV,r,G9,h1,h2,by rw[Wo ACy];exact h3,h4,h5,?_⟩,k2,k3,k4⟩;rw[<- k1]
def kZ{st t:St}{fp:LN}(hn:t.next=st.next)(h:∀b,b∈fp->t.heap b=st.heap b):Hn t fp=Hn st fp:=by
 unfold Hn;rw[hn];congr 1;funext b;unfold pq;by_cases c:b∈fp
 .simp[c,h b c]
 .simp[c]
def za{f:B9}{vs:LP}{st:St}{v:PV}{He:St}{fp:LN}(h:mB X.KW P f vs st v He fp):Loc (λt v t'=>mB X.KW P f vs t v t' fp) st v He [] fp:=by
 obtain⟨args,s0,h0,h1,h2,h3,h4,rfl⟩:=h.ex;have pJ:st.next<=s0.next:=h3.Iw.next;refine⟨pJ,λb hb=>?_,λb hb L0=>L9 hb L0,λt ht SS=>?_⟩
 .obtain⟨_,o,ho,_⟩:=h4 b (hb.resolve_left AD);rw[ho];simp
 .have ACy:∀b,b∈fp->t.heap b=st.heap b:=λb hb=>SS b (.inr hb);refine⟨Nf t fp s0,⟨args,s0,h0,h1,h2,by rw[kZ ht ACy];exact h3,λb hb=>?_,rfl⟩,rfl,λb hb=>?_,λb hb L0=>?_⟩
  .obtain⟨k1,o,k2,k3⟩:=h4 b hb;exact⟨by rw[ht];exact k1,o,by rw[ACy b hb];exact k2,k3⟩
  .rw[QD (st:=st) (s0:=s0) hb,QD (st:=t) (s0:=s0) (by rcases hb with hb|hb;exact .inl hb;exact .inr (by rw[ht];exact hb))]
  .exact L9 hb (by rw[ht];exact L0)
def AID{op:Op}{vs:LP}{st:St}{v:PV}{He:St}{rd wr:LN}(h:OpR P md X op vs st v He rd wr):Loc (λt v t'=>OpR P md X op vs t v t' rd wr) st v He rd wr:=by
 cases h with
 |req _ _ _ q _ _ h1 h2=>
  have L:=yn h2;refine⟨L.next,L.ex,L.OD,λt ht SS=>?_⟩;obtain⟨t',e1,e2,e3,e4⟩:=L.gh t ht SS;exact⟨t',.req _ _ _ q _ _ h1 e1,e2,e3,e4⟩
 |call f args IK _ _ _ _ _ he h1=>
  have L:=ACD h1;refine⟨L.next,L.ex,L.OD,λt ht SS=>?_⟩;obtain⟨t',e1,e2,e3,e4⟩:=L.gh t ht SS;exact⟨t',.call f args IK _ _ _ _ _ he e1,e2,e3,e4⟩
 |xS f args IK _ _ _ _ _ he h1=>
  have L:=za h1;refine⟨L.next,L.ex,L.OD,λt ht SS=>?_⟩;obtain⟨t',e1,e2,e3,e4⟩:=L.gh t ht SS;exact⟨t',.xS f args IK _ _ _ _ _ he e1,e2,e3,e4⟩
def eS{ops:List CW}{fr:Fr}{o:CW}{st:St}{v:PV}{He:St}{rd wr:LN}(h:Sd P md X ops fr o st v He rd wr):Loc (λt v t'=>Sd P md X ops fr o t v t' rd wr) st v He rd wr:=by
 cases h with
 |skip hw=>
  refine⟨Bg _,λb hb=>by simp at hb,λ_ _ _=>rfl,λt ht _=>⟨t,.skip hw,ht,λb hb=>?_,λ_ _ _=>rfl⟩⟩;rcases hb with hb|hb
  .simp at hb
  .unfold Mf at hb;omega
 |run vs _ _ _ _ hw he mq=>
  have L:=AID mq;refine⟨L.next,L.ex,L.OD,λt ht SS=>?_⟩;obtain⟨t',e1,e2,e3,e4⟩:=L.gh t ht SS;exact⟨t',.run vs _ _ _ _ hw he e1,e2,e3,e4⟩
end
structure FR (m:J) (nt:Nat) (fr:Fr) (tmps:Array Bk):Prop where
 size:tmps.size=nt
 get:∀t,VR m (fr t) (tmps.getD t undef)
section
variable{P:Program} {md:Bool} {X:Mode} {m:J} {w:World}
def FR.mono{m':J}(h:m.le m'){nt:Nat}{fr:Fr}{tmps:AV0}(hf:FR m nt fr tmps):FR m' nt fr tmps:=⟨hf.size,λt=>(hf.get t).mono h⟩
def FR.set{nt:Nat}{fr:Fr}{tmps:AV0}(h:FR m nt fr tmps){d:Nat}(hd:d<nt){a:PV}{v:Bk}(hv:VR m a v):FR m nt (fr.set d a) (tmps.setIfInBounds d v):=by
 refine⟨by simp[h.size],λt=>?_⟩;rw[Go.Ab.ACu tmps d v (by rw[h.size];exact hd)];simp only[Fr.set,JT];by_cases e:t=d
 .rw[Ps e,Ps e];exact hv
 .rw[Ng e,Ng e];exact h.get t
def FR.put{nt:Nat}{fr:Fr}{a:Act}(h:FR m nt fr a.tmps){d:Option Tmp}(hd:M1 nt d=true){x:PV}{v:Bk}(hv:VR m x v):FR m nt (fr.put d x) (a.put d v).tmps:=by
 cases d with
 |none=>exact h
 |some d=>exact h.set (cX hd) hv
def dO{nt:Nat}{fr:Fr}{a:Act}(h:FR m nt fr a.tmps){o:Cy}{x:PV}(he:Sw fr o=some x):VR m x (a.eval o):=by
 cases o with
 |tmp t=>simp only[Sw,Bh]at he;subst he;exact h.get t
 |const v=>exact oU he
 |global g=>cases he
 |func f=>cases he
def ZA{nt:Nat}{fr:Fr}{a:Act}(h:FR m nt fr a.tmps):∀{l:List Cy} {vs:LP},Ol fr l=some vs->LC m vs (l.map a.eval)
 |[],vs,he=>by simp only[Ol,Bh]at he;subst he;exact .nil
 |o::r,vs,he=>by
  simp only[Ol]at he;split at he
  .rename_i x hx;split at he
   .rename_i l hl;simp only[Bh]at he;subst he;exact .cons _ _ _ _ (dO h hx) (ZA h hl)
   .cases he
  .cases he
def VG{nt:Nat}{fr:Fr}{tmps:AV0}(h:FR m nt fr tmps)(ops:Array CW)(o:CW){b:Bool}(hw:Km ops.toList fr o=some b):Region.wanted o (yielded ops tmps)=b:=by
 unfold Km at hw;unfold Region.wanted yielded;cases hg:o.guard with
 |none=>simp only[hg]at hw⊢;cases hw;rfl
 |some p=>
  obtain⟨j,Po⟩:=p;simp only[hg,Cz]at hw⊢;cases hj:ops[j]? with
  |none=>simp only[hj]at hw⊢;cases hw;rfl
  |some o'=>
   simp only[hj,Option.bind_some]at hw⊢;cases hd:o'.dst with
   |none=>simp only[hd]at hw⊢;cases hw;rfl
   |some d=>
    simp only[hd,Option.bind_some]at hw⊢;have hg:=h.get d;rw[Cg]at hg;split at hw
    .rename_i bb hb;rw[hb]at hg;cases ht:tmps[d]? with
     |none=>
      rw[ht]at hg;simp only[Option.getD_none,undef]at hg;cases hg with|data _ _ hd=>cases hd
     |some v=>
      rw[ht]at hg;simp only[Option.getD_some]at hg;cases hg with|data _ _ hd=>cases hd;cases bb<;>cases Po<;>cases b<;>first|rfl|(cases hw)
    .rename_i hb;rw[hb]at hg;cases hw;cases ht:tmps[d]? with
     |none=>rfl
     |some v=>
      rw[ht]at hg;simp only[Option.getD_some]at hg;cases hg with
      |data _ _ hd=>cases hd
      |tuple _ l' hl=>cases hl;rfl
    .cases hw
def tH{st:St}{nt:Nat}{fr:Fr}{a:Act}(MT:FR m nt fr a.tmps){ops:Array CW}{i:Nat}{o:CW}(ho:ops[i]?=some o)(Nd:M1 nt o.dst=true)(hw:Km ops.toList fr o=some true){v:PV}{He:St}(ro:ON)(K:Act->World->Prop)(Q:QX)
  (ADV:o.semAt (Fw ro).round a.eval=Cr a.eval o)(fin:Vl P ro m w He.heap v ((Cr a.eval o).run P w))
  (hK:∀m' a' w',Lx m w m' w'->It m' He.heap w'->FR m' nt (fr.put o.dst v) a'.tmps->a'.defers=a.defers->K a' w'):
  EW (Fw ro) 0 P ops Q i K a w:=by
 unfold EW;rw[ho];simp only;rw[VG MT ops o hw,Ps rfl];refine⟨λ_ _=>trivial,?_⟩;rw[ADV];exact fin o a K Q λm' v' w' h1 h2 h3=>hK m' _ w' h1 h2 ((MT.mono h1.le).put Nd h3) (Go.Ab.Uz _ _ _)
def cC{o:CW}{c:Call}(ho:o.op=.call c)(r:ON)(ρ:Cy->Bk):o.semAt r ρ=Cr ρ o:=by apply Oper.semAt_eq;intro cc hc;rw[ho]at hc;cases hc
def Ui{o:CW}{f:Cy}{args:Array Cy}{IK:Array Bz}(ho:o.op=.call ⟨.value f,args,IK⟩)(ρ:Cy->Bk):
  Cr ρ o=(do let d<-Cl (ρ f) (args.toList.map ρ).toArray;EB d.target d.args):=by
 obtain⟨dst,op,ty,pos,after,guard⟩:=o;simp only at ho;subst ho;simp only[Cr,resolve,Go.Ab.JH]
def sT{st:St}(hE:Ov X.KW m)(hr:It m st.heap w){nt:Nat}{fr:Fr}{a:Act}(MT:FR m nt fr a.tmps){o:CW}{vs:LP}(he:Ol fr (Pz o.op)=some vs){v:PV}{He:St}{rd wr:LN}(mq:OpR P md X o.op vs st v He rd wr)
  (hf:∀b,st.next<=b->b<He.next->st.heap b=none)(ro:ON):o.semAt (Fw ro).round a.eval=Cr a.eval o/\Vl P ro m w He.heap v ((Cr a.eval o).run P w):=by
 have hrel:=ZA MT he
 have ADV:o.semAt (Fw ro).round a.eval=Cr a.eval o:=by
  apply Oper.semAt_eq;intro c hc;rw[hc]at mq;cases mq with
  |req _ _ _ q _ _ h1 _=>simp[opQ]at h1
 refine⟨ADV,?_⟩;generalize fU:o.op=op at mq hrel;cases mq with
 |req _ _ _ q _ _ h1 h2=>
  have OU:Pz op=op.operands.toList:=by
   unfold Pz;split
   .simp[opQ]at h1
   .rfl
  rw[OU]at hrel;subst fU;exact ANi hr h1 h2 hf hrel ro
 |call f args IK _ _ _ _ _ lC hc=>
  unfold Ms at lC;split at lC
  .rename_i fn PR;obtain⟨e1,e2⟩:=Go.Ab.and_true lC;rw[Ui fU a.eval]
   have HW:(do let d<-Cl (a.eval (.func f)) (args.toList.map a.eval).toArray;EB d.target d.args:Sem FV).run P w=(DL f (args.toList.map a.eval).toArray).run P w:=by
    exact Adf
   rw[HW];exact ACE hr PR e1 AaY hc hf hrel ro
  .cases lC
 |xS f args IK _ _ _ _ fp lC hc=>
  obtain⟨as,s0,h0,h1,h2,h3,h4,rfl⟩:=hc.ex;unfold Ms at lC;split at lC
  .rename_i fn PR;obtain⟨e1,e2⟩:=Go.Ab.and_true lC;rw[Ui fU a.eval]
   have HW:(do let d<-Cl (a.eval (.func f)) (args.toList.map a.eval).toArray;EB d.target d.args:Sem FV).run P w=(DL f (args.toList.map a.eval).toArray).run P w:=by
    exact Adf
   rw[HW];exact ANu hE hr PR e1 AaY ((h3.jQ h0 h2 h4 hf).Hw h1) hrel ro
  .cases lC
def Gm.step{ops:List CW}{fr:Fr}{o:CW}{st:St}{v:PV}{He:St}{rd wr:LN}(hf:Gm st)(h:Sd P md X ops fr o st v He rd wr):Gm He:=by have L:=eS h;intro b hb;have hn:=L.next;exact Aet
def HT.step{ops:List CW}{fr:Fr}{o:CW}{st:St}{v:PV}{He:St}{rd wr:LN}(h:Sd P md X ops fr o st v He rd wr):HT st He:=by
 have L:=eS h;refine⟨L.next,λb hb hn=>?_⟩;by_cases c:b∈wr
 .exact Zq hn (L.ex b (.inr c))
 .rw[L.OD b c (λhh=>by unfold Mf at hh;omega)];exact hn
def ANy{st:St}(hE:Ov X.KW m)(hr:It m st.heap w)(PS:Gm st){nt:Nat}{fr:Fr}{a:Act}(MT:FR m nt fr a.tmps){ops:Array CW}{i:Nat}{o:CW}(ho:ops[i]?=some o)
  (Nd:M1 nt o.dst=true){k:KL}(h:gP P md X true ops.toList o fr st k)(ro:ON)(K:Act->World->Prop)(Q:QX)
  (hK:∀m' a' w' v He rd wr,Lx m w m' w'->It m' He.heap w'->Gm He->HT st He->FR m' nt (fr.put o.dst v) a'.tmps->a'.defers=a.defers->k v He rd wr->K a' w'):
  EW (Fw ro) 0 P ops Q i K a w:=by
 have skip:Km ops.toList fr o=some false->k .undef st [] []->EW (Fw ro) 0 P ops Q i K a w:=by
  intro hw hk;unfold EW;rw[ho];simp only;rw[VG MT ops o hw,Ng AD];exact⟨λ_ _=>trivial,hK m (a.put o.dst undef) w .undef st [] [] (Lx.refl m w) hr PS (HT.refl _) (MT.put Nd (.tuple [] [] .nil)) (Go.Ab.Uz _ _ _) hk⟩
 have y7:Km ops.toList fr o=some true->∀(Q0:PV->St->Prop),o.semAt (Fw ro).round a.eval=Cr a.eval o->qd P ro m w st Q0 ((Cr a.eval o).run P w)->(∀v He,HT st He->Gm He->Q0 v He->k v He [] [])->EW (Fw ro) 0 P ops Q i K a w:=by
  intro hw Q0 ADV fin hk;unfold EW;rw[ho];simp only;rw[VG MT ops o hw,Ps rfl];refine⟨λ_ _=>trivial,?_⟩;rw[ADV];exact fin o a K Q λm' v' w' y He h1 h2 h3 h4 h5 h6=>hK m' _ w' y He [] [] h1 h2 h5 h4 ((MT.mono h1.le).put Nd h3) (Go.Ab.Uz _ _ _) (hk y He h4 h5 h6)
 have one:Km ops.toList fr o=some true->AAj P md X true o.op fr st k->EW (Fw ro) 0 P ops Q i K a w:=by
  intro hw h;obtain⟨vs,he,h⟩:=Kw h;have hrel:=ZA MT he
  have byR:∀{v He rd wr},OpR P md X o.op vs st v He rd wr->k v He rd wr->EW (Fw ro) 0 P ops Q i K a w:=by
   intro v He rd wr mq hk;obtain⟨h1,h2⟩:=sT hE hr MT he mq (λb hb _=>PS b hb) ro;have hs:Sd P md X ops.toList fr o st v He rd wr:=.run vs _ _ _ _ hw he mq;exact tH (st:=st) MT ho Nd hw ro K Q h1 h2 λm' a' w' e1 e2 e3 e4=>hK m' a' w' v He rd wr e1 e2 (PS.step hs) (HT.step hs) e3 e4 hk
  generalize fU:o.op=op at h hrel byR;unfold opP at h;split at h
  .rename_i f args IK;cases lC:Ms P f with
   |false=>simp only[lC,cond_false]at h
   |true=>
    have AUz:=lC;simp only[lC,cond_true]at h;replace h:=(Mb P X).1 h
    unfold Ms at lC;split at lC
    .rename_i fn PR;obtain⟨e1,e2⟩:=Go.Ab.and_true lC
     have HW:(Cr a.eval o).run P w=(DL f (args.toList.map a.eval).toArray).run P w:=by
      rw[Ui fU a.eval];exact Adf
     rcases h with⟨v,He,bs,h1,h2⟩|h
     .exact byR (.call f args IK vs st v He bs AUz h1) h2
     .replace h:xT P X f vs st λv He=>k v He [] []:=h
      unfold xT at h;split at h
      .exact h.elim
      .obtain⟨v,He,hc,hk⟩:=h;exact y7 hw (λy s=>y=v/\s=He) (cC fU _ _) Aj (by rintro y s _ _ ⟨rfl,rfl⟩;exact hk)
      .obtain⟨Q0,hc,hk⟩:=h;exact y7 hw Q0 (cC fU _ _) Aj hk
    .cases lC
  .rename_i f args IK Pt
   have h:∃E,X=.Hw E/\∃Q,AFj E P vs st Q/\∀v He,HT st He->Gm He->Q v He->k v He [] []:=by
    cases X with
    |old=>exact h.elim
    |jG E=>exact h.elim
    |Hw E=>exact⟨E,rfl,h⟩
   obtain⟨E,rfl,Q0,hc,hk⟩:=h;refine y7 hw Q0 (cC fU _ _) ?_ hk;rw[Ui fU a.eval]
   have OU:Pz (.call ⟨.value f,args,IK⟩)=(Op.call ⟨.value f,args,IK⟩).operands.toList:=by
    unfold Pz;split
    .rename_i f' _ _ heq;cases heq;exact Zq rfl (Pt f')
    .rfl
   rw[OU]at hrel;exact AGu hE hr hc (by simpa[DP,Dj]using hrel) ro
  .rename_i r0 name args IK
   have h:∃E,X=.Hw E/\∃Q,AKR E P name vs st Q/\∀v He,HT st He->Gm He->Q v He->k v He [] []:=by
    cases X with
    |old=>exact h.elim
    |jG E=>exact h.elim
    |Hw E=>exact⟨E,rfl,h⟩
   obtain⟨E,rfl,Q0,hc,hk⟩:=h;refine y7 hw Q0 (cC fU _ _) ?_ hk
   have hex:Cr a.eval o=FK (a.eval r0) name (args.toList.map a.eval).toArray:=by
    obtain⟨dst,op,ty,pos,after,guard⟩:=o;simp only at fU;subst fU;simp only[Cr,resolve,Go.Ab.JH,pure_bind,invoke];simp;rw[Cc (by rw[Bb,Cp];exact Bg _)]
   rw[hex];exact AHi hE hr hc (by simpa[Pz,DP,Dj]using hrel) ro
  .obtain⟨q,h1,h2⟩:=Kw h;obtain⟨⟨v,He⟩,h3,h4⟩:=Kw h2;exact byR (.req _ vs st q v He h1 h3) h4
 unfold gP at h;cases hg:o.guard with
 |none=>
  rw[hg]at h;exact one (by simp[Km,hg]) h
 |some p=>
  obtain⟨j,Po⟩:=p;rw[hg]at h;simp only at h;cases hj:ops.toList[j]? with
  |none=>
   rw[hj]at h;exact skip (by simp only[Km,hg,hj]) h
  |some o'=>
   rw[hj]at h;simp only at h;cases hd:o'.dst with
   |none=>
    rw[hd]at h;exact skip (by simp only[Km,hg,hj,hd]) h
   |some d=>
    rw[hd]at h;simp only at h;have hw:Km ops.toList fr o=dg (fr d) Po:=by simp only[Km,hg,hj,hd];rfl
    unfold Ic at h;split at h
    .rename_i he;exact one AbF h
    .rename_i he;exact skip AbF h
    .exact h.elim
def AE3{st:St}(hE:Ov X.KW m)(hr:It m st.heap w){nt:Nat}{fr:Fr}{a:Act}(MT:FR m nt fr a.tmps){ops:Array CW}{i:Nat}{o:CW}(ho:ops[i]?=some o)
  (Nd:M1 nt o.dst=true){v:PV}{He:St}{rd wr:LN}(h:Sd P md X ops.toList fr o st v He rd wr)(hf:∀b,st.next<=b->b<He.next->st.heap b=none)(ro:ON)(K:Act->World->Prop)(Q:QX)
  (hK:∀m' a' w',Lx m w m' w'->It m' He.heap w'->FR m' nt (fr.put o.dst v) a'.tmps->a'.defers=a.defers->K a' w'):
  EW (Fw ro) 0 P ops Q i K a w:=by
 cases h with
 |skip hw=>
  unfold EW;rw[ho];simp only;rw[VG MT ops o hw,Ng AD];exact⟨λ_ _=>trivial,hK m (a.put o.dst undef) w (Lx.refl m w) hr (MT.put Nd (.tuple [] [] .nil)) (Go.Ab.Uz _ _ _)⟩
 |run vs _ _ _ _ hw he mq=>
  obtain⟨h1,h2⟩:=sT hE hr MT he mq hf ro;exact tH (st:=st) MT ho Nd hw ro K Q h1 h2 hK
def yf(ro:ON){nt:Nat}{ops:Array CW}(Q:QX){K:Ks}:∀(Ju:List CW) (i:Nat),Ju=ops.toList.drop i->
  ∀{m:J} {w:World} {st:St} {fr:Fr} {a:Act},Ov X.KW m->It m st.heap w->Gm st->FR m nt fr a.tmps->oP P md X nt ops.toList Ju K fr st->
  (∀m' a' w' oi He,Lx m w m' w'->It m' He.heap w'->Gm He->HT st He->FR m' nt oi a'.tmps->a'.defers=a.defers->K oi He->Q .normal a' w')->
  wpOpsIn (Fw ro) 0 P ops Q (List.range' i Ju.length) a w
 |[],i,Lu,m,w,st,fr,a,hE,hr,hf,MT,h,hQ=>hQ m a w fr st (Lx.refl m w) hr hf (HT.refl _) MT rfl h
 |o::Ju,i,Lu,m,w,st,fr,a,hE,hr,hf,MT,h,hQ=>by
  have ho:ops[i]?=some o:=by
   have:(ops.toList.drop i)[0]?=some o:=by rw[<- Lu];rfl
   rw[Cu]at this;exact Aea
  have vL:Ju=ops.toList.drop (i+1):=by
   have:(ops.toList.drop i).drop 1=Ju:=by rw[<- Lu];rfl
   rw[Dp]at this;exact this.symm
  simp only[oP]at h;cases Nd:M1 nt o.dst with
  |false=>simp only[Nd,cond_false]at h
  |true=>
   simp only[Nd,cond_true]at h;rw[CE,List.range'_succ,wpOpsIn_cons]
   exact ANy hE hr hf MT ho Nd h ro _ Q λm1 a1 w1 v fE rd wr e1 r1 f2 w2 mY d1 h2=>
    yf ro Q Ju (i+1) vL (hE.le e1) r1 f2 mY h2 λm2 a2 w2' fr2 st2 e2 r2 f3 w3 g2 d2 k2=>hQ m2 a2 w2' fr2 st2 (e1.trans e2) r2 f3 (w2.trans w3) g2 (d2.trans d1) k2
def wI(ro:ON){nt:Nat}{ops:Array CW}{id:Nat}(Q:QX){K:Ks}{st:St}{fr:Fr}{a:Act}
  (hE:Ov X.KW m)(hr:It m st.heap w)(hf:Gm st)(MT:FR m nt fr a.tmps)(h:oP P md X nt ops.toList ops.toList K fr st)
  (hQ:∀m' a' w' oi He,Lx m w m' w'->It m' He.heap w'->Gm He->HT st He->FR m' nt oi a'.tmps->a'.defers=a.defers->K oi He->Q .normal a' w'):(Code.region id ops false).wpIn (Fw ro) 0 P Q a w:=by
 apply wpIn_region;have:=yf ro Q ops.toList 0 AD hE hr hf MT h hQ;rw[List.range_eq_range'];exact Aea
end
end
section
open Go.Ab (Fw M1 Kz bs AB5 Ug TO VD Re Nk left mz sA ep Rb XT fa and_true)
def H2(a b:Nat):LN:=List.range' a (b-a)
def gQ{a b x:Nat}:x∈H2 a b<->a<=x/\x<b:=by unfold H2;rw[List.mem_range'_1];omega
abbrev Vd:=LN×LN
def Iy(a b:Vd):Bool:=a.2.any (λx=>b.1.contains x||b.2.contains x)||a.1.any λx=>b.2.contains x
def RX{a b:Vd}(h:Iy a b=false)(x:Nat):¬(x∈a.2/\(x∈b.1\/x∈b.2))/\¬(x∈a.1/\x∈b.2):=by
 unfold Iy at h;rw[C6]at h;obtain⟨h1,h2⟩:=h;constructor
 .rintro⟨h3,h4⟩;have:=Fc.1 h1 x h3;simp at this;rcases h4 with h|h
  .exact this.1 h
  .exact this.2 h
 .rintro⟨h3,h4⟩;have:=Fc.1 h2 x h3;simp at this;exact this h4
def IA(m:Nat)(l:Vd):List Vd->Nat->Bool
 |[],_=>false
 |a::r,i=>(!(EX m i)&&Iy a l)||IA m l r (i+1)
def Hl(done:List Vd):List Vd->LN->Bool
 |[],_=>false
 |_::_,[]=>true
 |l::r,m::ms=>IA m l done 0||Hl (done++[l]) r ms
def Wg{m:Nat}{l:Vd}:∀{done:List Vd} {i:Nat},IA m l done i=false->∀j a,done[j]?=some a->fa m (i+j)\/Iy a l=false
 |[],i,_,j,a,h=>by simp at h
 |x::r,i,h,j,a,hj=>by
  simp only[IA,C6,DS,Bool.not_eq_false']at h;cases j with
  |zero=>simp at hj;subst hj;exact h.1
  |succ j=>
   simp at hj;have:=Wg h.2 j a hj;rwa [show i+1+j=i+(j+1) by omega]at this
def Wh:∀{Ju done:List Vd} {ms:LN},Hl done Ju ms=false->∀i j l a,i<done.length+j->Ju[j]?=some l->(done++Ju)[i]?=some a->fa (ms.getD j 0) i\/Iy a l=false
 |[],done,ms,_,i,j,l,a,_,h,_=>by simp at h
 |x::r,done,[],h,i,j,l,a,_,_,_=>by simp[Hl]at h
 |x::r,done,m::ms,h,i,j,l,a,hij,hl,ha=>by
  simp only[Hl,C6]at h;cases j with
  |zero=>
   simp at hl;subst hl;rw[CL AA]at ha;have:=Wg h.1 i a ha;rw[CZ]at this;exact Aea
  |succ j=>
   simp at hl;have:=Wh h.2 i j l a AB hl Aa5;exact Aea
section
variable(P:Program) (md:Bool) (X:Mode) (nt:Nat)
def oDP(ops:List CW):List CW->(Fr->List Vd->St->Prop)->Ks
 |[],K=>λfr st=>K fr [] st
 |o::r,K=>λfr st=>bif M1 nt o.dst then gP P md X false ops o fr st (λv He rd wr=>oDP ops r (λfr l s=>K fr ((rd,wr++H2 st.next He.next)::l) s) (fr.put o.dst v) He)else False
def sk(ops:List CW)(d:Bool)(K:Ks):Ks:=match d with
 |false=>oP P md X nt ops ops K
 |true=>λfr st=>bif Nk ops&&P.follows .mixedOrders then oDP P md X nt ops ops (λfr l st=>Hl [] l (Kz ops [])=false/\K fr st) fr st else False
end
section
variable{P:Program} {md:Bool} {X:Mode}
structure Run (P:Cf) (md:Bool) (X:Mode) (ops:List CW) (S:Nat->St) (F:Nat->Fr) (V:Nat->PV) (L:Nat->Vd) (i:Nat) (o:CW):Prop where
 ex:∃wr,L i=((L i).1,wr++H2 (S i).next (S (i+1)).next)/\Sd P md X ops (F i) o (S i) (V i) (S (i+1)) (L i).1 wr
 fr:F (i+1)=(F i).put o.dst (V i)
def kQ{nt:Nat}{ops:List CW}:∀(Ju:List CW) (k:Nat),Ju=ops.drop k->∀{st:St} {fr:Fr} {K:Fr->List Vd->St->Prop},oDP P md X nt ops Ju K fr st->
  ∃(S:Nat->St) (F:Nat->Fr) (V:Nat->PV) (l:List Vd),S k=st/\F k=fr/\K (F (k+Ju.length)) l (S (k+Ju.length))/\l.length=Ju.length/\
   ∀i o,k<=i->ops[i]?=some o->M1 nt o.dst=true/\Run P md X ops S F V (λi=>l.getD (i-k) ([],[])) i o
 |[],k,Lu,st,fr,K,h=>by
  refine⟨λ_=>st,λ_=>fr,λ_=> .undef,[],rfl,rfl,h,rfl,λi o hi ho=>?_⟩;have:(ops.drop k)[i-k]?=some o:=by rw[Cu,show k+(i-k)=i by omega];exact ho
  rw[<- Lu]at this;simp at this
 |o::Ju,k,Lu,st,fr,K,h=>by
  have ho:ops[k]?=some o:=by
   have:(ops.drop k)[0]?=some o:=by rw[<- Lu];rfl
   rw[Cu]at this;simpa using this
  have vL:Ju=ops.drop (k+1):=by
   have:(ops.drop k).drop 1=Ju:=by rw[<- Lu];rfl
   rw[Dp]at this;exact this.symm
  simp only[oDP]at h;cases Nd:M1 nt o.dst with
  |false=>simp only[Nd,cond_false]at h
  |true=>
   simp only[Nd,cond_true]at h;obtain⟨v,fE,rd,wr,h1,h2⟩:=ACt P md X h;obtain⟨S,F,V,l,g1,g2,g3,g4,g5⟩:=kQ Ju (k+1) vL h2;refine⟨λi=>if i=k then st else S i,λi=>if i=k then fr else F i,λi=>if i=k then v else V i,(rd,wr++H2 st.next fE.next)::l,AD,AD,?_,by simp[g4],λi o' hi mj=>?_⟩
   .simp only[CE];rw[Ng AA,Ng AA,show k+(Ju.length+1)=k+1+Ju.length by omega];exact g3
   .by_cases dj:i=k
    .subst dj;rw[ho]at mj;cases mj;refine⟨Nd,⟨wr,?_,?_⟩,?_⟩
     .simp[g1]
     .simp only[if_true,Nat.sub_self,List.getD_cons_zero];rw[Ng AA,g1];exact h1
     .simp only[if_true];rw[Ng AA,g2]
    .obtain⟨k1,⟨wr',k2,k3⟩,k4⟩:=g5 i o' AA mj
     have hgd:((rd,wr++H2 st.next fE.next)::l).getD (i-k) ([],[])=l.getD (i-(k+1)) ([],[]):=by
      rw[show i-k=(i-(k+1))+1 by omega];simp
     refine⟨k1,⟨wr',?_,?_⟩,?_⟩
     .simp only[Ng dj,hgd];rw[Ng AA];exact k2
     .simp only[Ng dj,hgd];rw[Ng AA];exact k3
     .simp only[Ng dj];rw[Ng AA];exact k4
def ki{ops:List CW}{S:Nat->St}{F:Nat->Fr}{V:Nat->PV}{L:Nat->Vd}{i:Nat}{o:CW}(h:Run P md X ops S F V L i o):
  (S i).next<=(S (i+1)).next/\(∀b,Mf (S i) (S (i+1)) b->b∈(L i).2)/\(∀b,b∉(L i).2->(S (i+1)).heap b=(S i).heap b)/\(Gm (S i)->Gm (S (i+1)))/\
  ∀t:St,t.next=(S i).next->(∀b,b∈(L i).1\/b∈(L i).2->t.heap b=(S i).heap b)->
   ∃t' rd wr,Sd P md X ops (F i) o t (V i) t' rd wr/\t'.next=(S (i+1)).next/\(∀b,b∈(L i).2->t'.heap b=(S (i+1)).heap b)/\(∀b,b∉(L i).2->t'.heap b=t.heap b):=by
 obtain⟨wr,h1,h2⟩:=h.ex;have X:=eS h2
 have Jr:∀b,b∈(L i).2<->b∈wr\/Mf (S i) (S (i+1)) b:=by
  intro b;rw[h1];simp only[Bf,gQ];rfl
 refine⟨X.next,λb hb=>(Jr b).2 (.inr hb),λb hb=>?_,λhf=>hf.step h2,λt ht SS=>?_⟩
 .rw[Jr,not_or]at hb;exact X.OD b hb.1 hb.2
 .obtain⟨t',e1,e2,e3,e4⟩:=X.gh t ht λb hb=>SS b (hb.imp id λh=>(Jr b).2 (.inl h));refine⟨t',_,_,e1,e2,λb hb=>e3 b ((Jr b).1 hb),λb hb=>?_⟩;rw[Jr,not_or]at hb;exact e4 b hb.1 hb.2
def yj(fr:Fr)(d:Option Tmp)(v:PV)(x:Nat):(fr.put d v) x=if d=some x then v else fr x:=by
 cases d with
 |none=>simp[Fr.put]
 |some d=>
  simp only[Fr.put,Fr.set,JT,Bh];by_cases e:x=d
  .rw[Ps e,Ps e.symm]
  .rw[Ng e,Ng (Ne.symm e)]
def HD(S:Nat->St)(L:Nat->Vd)(D:Nat->Bool):Nat->HO
 |0,b=>(S 0).heap b
 |k+1,b=>if D k=true/\b∈(L k).2 then(S (k+1)).heap b else HD S L D k b
def FD(ops:List CW)(F:Nat->Fr)(V:Nat->PV)(D:Nat->Bool):Nat->Nat->PV
 |0,x=>F 0 x
 |k+1,x=>if D k=true/\(ops[k]?).bind (·.dst)=some x then V k else FD ops F V D k x
def ABl{S:Nat->St}{L:Nat->Vd}{D:Nat->Bool}{N i b:Nat}(hi:i<N)(hD:D i=false)
  (di:∀k,k<N->b∉(L k).2->(S (k+1)).heap b=(S k).heap b)
  (AMX:∀k,k<i->b∈(L k).2->D k=true)(jn:∀k,i<k->k<N->b∈(L k).2->D k=false):
  HD S L D N b=(S i).heap b:=by
 have h1:∀k,k<=i->HD S L D k b=(S k).heap b:=by
  intro k
  induction k with
  |zero=>intro _;rfl
  |succ k ih=>
   intro hk;simp only[HD];by_cases hw:b∈(L k).2
   .rw[Ps ⟨AMX k AA hw,hw⟩]
   .rw[Ng AQ,ih AA,di k AA hw]
 have h2:∀k,i<=k->k<=N->HD S L D k b=(S i).heap b:=by
  intro k
  induction k with
  |zero=>
     intro h _;have:i=0:=AA;subst this;rfl
  |succ k ih=>
   intro hk hN;by_cases e:i=k+1
   .rw[<- e];exact h1 i (Bg _)
   .simp only[HD];exact Aez
 exact h2 N AA (Bg _)
def AKP{S:Nat->St}{L:Nat->Vd}{D D':Nat->Bool}{N i b:Nat}(hi:i<N)(hD':∀k,D' k=(D k||k==i))
  (jn:∀k,i<k->k<N->b∈(L i).2->b∈(L k).2->D k=false):
  HD S L D' N b=if b∈(L i).2 then(S (i+1)).heap b else HD S L D N b:=by
 by_cases hw:b∈(L i).2
 .rw[Ps hw]
  have:∀k,i+1<=k->k<=N->HD S L D' k b=(S (i+1)).heap b:=by
   intro k
   induction k with
   |zero=>intro h _;omega
   |succ k ih=>
    intro hk hN;simp only[HD];exact Aed
  exact this N AA (Bg _)
 .rw[Ng hw]
  have:∀k,HD S L D' k b=HD S L D k b:=by
   intro k
   induction k with
   |zero=>rfl
   |succ k ih=>
    simp only[HD,ih];exact Afc
  exact this N
def AKQ{S:Nat->St}{L:Nat->Vd}{D:Nat->Bool}{N b:Nat}(hD:∀k,k<N->D k=true)(di:∀k,k<N->b∉(L k).2->(S (k+1)).heap b=(S k).heap b):
  HD S L D N b=(S N).heap b:=by
 have:∀k,k<=N->HD S L D k b=(S k).heap b:=by
  intro k
  induction k with
  |zero=>intro _;rfl
  |succ k ih=>
   intro hk;simp only[HD];by_cases hw:b∈(L k).2
   .rw[Ps ⟨hD k AA,hw⟩]
   .rw[Ng AQ,ih AA,di k AA hw]
 exact this N (Bg _)
def wz{ops:List CW}{F:Nat->Fr}{V:Nat->PV}{N x:Nat}(hN:N<=ops.length)(Ye:∀k o,ops[k]?=some o->F (k+1)=(F k).put o.dst (V k)){k:Nat}(hk:k<N):
  F (k+1) x=if(ops[k]?).bind (·.dst)=some x then V k else F k x:=by
 obtain⟨o,ho⟩:∃o,ops[k]?=some o:=⟨ops[k]' AA,by rw[Bc]⟩
 rw[Ye k o ho,ho];simp only[Option.bind_some];exact yj _ _ _ _
def ABi{ops:List CW}{F:Nat->Fr}{V:Nat->PV}{D:Nat->Bool}{N i x:Nat}(hi:i<N)(hD:D i=false)(hN:N<=ops.length)
  (Ye:∀k o,ops[k]?=some o->F (k+1)=(F k).put o.dst (V k))
  (AMX:∀k,k<i->(ops[k]?).bind (·.dst)=some x->D k=true)(jn:∀k,i<k->k<N->(ops[k]?).bind (·.dst)=some x->D k=false):
  FD ops F V D N x=F i x:=by
 have h1:∀k,k<=i->FD ops F V D k x=F k x:=by
  intro k
  induction k with
  |zero=>intro _;rfl
  |succ k ih=>
   intro hk;simp only[FD];rw[wz hN Ye (k:=k) AA];by_cases hw:(ops[k]?).bind (·.dst)=some x
   .rw[Ps ⟨AMX k AA hw,hw⟩,Ps hw]
   .rw[Ng AQ,Ng hw,ih AA]
 have h2:∀k,i<=k->k<=N->FD ops F V D k x=F i x:=by
  intro k
  induction k with
  |zero=>
     intro h _;have:i=0:=AA;subst this;rfl
  |succ k ih=>
   intro hk hN';by_cases e:i=k+1
   .rw[<- e];exact h1 i (Bg _)
   .simp only[FD];exact Aez
 exact h2 N AA (Bg _)
def AKN{ops:List CW}{F:Nat->Fr}{V:Nat->PV}{D D':Nat->Bool}{N i x:Nat}(hi:i<N)(hD':∀k,D' k=(D k||k==i))
  (jn:∀k,i<k->k<N->(ops[i]?).bind (·.dst)=some x->(ops[k]?).bind (·.dst)=some x->D k=false):
  FD ops F V D' N x=if(ops[i]?).bind (·.dst)=some x then V i else FD ops F V D N x:=by
 by_cases hw:(ops[i]?).bind (·.dst)=some x
 .rw[Ps hw]
  have:∀k,i+1<=k->k<=N->FD ops F V D' k x=V i:=by
   intro k
   induction k with
   |zero=>intro h _;omega
   |succ k ih=>
    intro hk hN;simp only[FD];exact Aed
  exact this N AA (Bg _)
 .rw[Ng hw]
  have:∀k,FD ops F V D' k x=FD ops F V D k x:=by
   intro k
   induction k with
   |zero=>rfl
   |succ k ih=>
    simp only[FD,ih];exact Afc
  exact this N
def AKO{ops:List CW}{F:Nat->Fr}{V:Nat->PV}{D:Nat->Bool}{N x:Nat}(hD:∀k,k<N->D k=true)(hN:N<=ops.length)
  (Ye:∀k o,ops[k]?=some o->F (k+1)=(F k).put o.dst (V k)):FD ops F V D N x=F N x:=by
 have:∀k,k<=N->FD ops F V D k x=F k x:=by
  intro k
  induction k with
  |zero=>intro _;rfl
  |succ k ih=>
   intro hk;rw[wz hN Ye (k:=k) AA];simp only[FD,ih AA];by_cases e:(ops[k]?).bind (·.dst)=some x
   .rw[Ps ⟨hD k AA,e⟩,Ps e]
   .rw[Ng (by rintro⟨_,h⟩;exact e h),Ng e]
 exact this N (Bg _)
def al{f g:Fr}:∀{l:List Cy},(∀x∈XT l,f x=g x)->Ol f l=Ol g l
 |[],_=>rfl
 |o::r,h=>by
  have ho:Sw f o=Sw g o:=by
   cases o with
   |tmp t=>simp only[Sw,h t (by simp[XT])]
   |_=>rfl
  have hr:Ol f r=Ol g r:=al λx hx=>h x (by
   unfold XT at hx⊢;cases o<;>simp_all)
  simp only[Ol,ho,hr]
def AA9(op:Op):∀x∈XT (Pz op),x∈XT op.operands.toList:=by
 intro x hx;unfold Pz at hx;split at hx
 .simp only[DP,Dj];unfold XT at hx⊢;simp at hx⊢;exact hx
 .exact hx
def tG{ops:List CW}{o:CW}{f g:Fr}(h:∀x∈Rb ops o,f x=g x){st:St}{v:PV}{He:St}{rd wr:LN}(hs:Sd P md X ops f o st v He rd wr):Sd P md X ops g o st v He rd wr:=by
 have h1:Km ops f o=Km ops g o:=by
  unfold Km;cases hg:o.guard with
  |none=>rfl
  |some p=>
   obtain⟨j,Po⟩:=p;simp only;cases ho:ops[j]? with
   |none=>rfl
   |some o'=>
    simp only;cases hd:o'.dst with
    |none=>rfl
    |some d=>
     simp only;rw[h d (by simp[Rb,hg,ho,hd])]
 have h2:Ol f (Pz o.op)=Ol g (Pz o.op):=al λx hx=>h x (by unfold Rb;exact List.mem_append_left _ (AA9 _ x hx));cases hs with
 |skip hw=>exact .skip (h1▸hw)
 |run vs _ _ _ _ hw he mq=>exact .run vs _ _ _ _ (h1▸hw) (h2▸he) mq
structure mC (P:Cf) (md:Bool) (X:Mode) (nt:Nat) (ops:Array CW) (S:Nat->St) (F:Nat->Fr) (V:Nat->PV) (L:Nat->Vd):Prop where
 step:∀i o,ops[i]?=some o->M1 nt o.dst=true/\Run P md X ops.toList S F V L i o
 oZ:∀i o,ops[i]?=some o->∀e∈o.after.toList,DB .any e=true->e.on<i
 mem:∀i j,i<j->j<ops.size->fa (bs ops.toList j) i\/Iy (L i) (L j)=false
 ANx:∀i j a b,i<j->ops[i]?=some a->ops[j]?=some b->fa (bs ops.toList j) i\/VD ops.toList a b=true
 Iv:Gm (S 0)
def mC.AJH{nt:Nat}{ops:Array CW}{S:Nat->St}{F:Nat->Fr}{V:Nat->PV}{L:Nat->Vd}(K:mC P md X nt ops S F V L):∀i,i<=ops.size->Gm (S i):=by
 intro i
 induction i with
 |zero=>intro _;exact K.Iv
 |succ i ih=>
  intro hi;have ho:ops[i]?=some ops[i]:=CQ AA;exact(ki (K.step i _ ho).2).2.2.2.1 (ih AA)
def mC.Iw{nt:Nat}{ops:Array CW}{S:Nat->St}{F:Nat->Fr}{V:Nat->PV}{L:Nat->Vd}(K:mC P md X nt ops S F V L):∀i,i<=ops.size->HT (S 0) (S i):=by
 intro i
 induction i with
 |zero=>intro _;exact HT.refl _
 |succ i ih=>
  intro hi;have ho:ops[i]?=some ops[i]:=CQ AA;obtain⟨wr,_,h2⟩:=(K.step i _ ho).2.ex;exact(ih AA).trans (HT.step h2)
def AFq(ro:ON){nt:Nat}{ops:Array CW}{S:Nat->St}{F:Nat->Fr}{V:Nat->PV}{L:Nat->Vd}(K:mC P md X nt ops S F V L)
  (Q:QX){m0:J}{w0:World}{df:List FM}(hE:Ov X.KW m0)
  (hQ:∀m' a' w',Lx m0 w0 m' w'->It m' (S ops.size).heap w'->FR m' nt (F ops.size) a'.tmps->a'.defers=df->Q .normal a' w'):
  ∀(ACp:Nat) (Ir:Array Bool) (a:Act) (w:World) (m:J) (t:St) (f:Fr),Ir.size=ops.size->left ops.size Ir=ACp->
   (∀k,k<ops.size->Ir.getD k false=true->∀j,fa (bs ops.toList k) j->Ir.getD j false=true)->
   Lx m0 w0 m w->(∀b,t.heap b=HD S L (λk=>Ir.getD k false) ops.size b)->(∀x,f x=FD ops.toList F V (λk=>Ir.getD k false) ops.size x)->
   It m t.heap w->FR m nt f a.tmps->a.defers=df->wpAnyIn (Fw ro) 0 P .any ops Q ACp Ir a w:=by
 have di:∀b k,k<ops.size->b∉(L k).2->(S (k+1)).heap b=(S k).heap b:=by
  intro b k hk;have ho:ops[k]?=some ops[k]:=CQ hk;exact(ki (K.step k _ ho).2).2.2.1 b
 have Ye:∀k o,ops.toList[k]?=some o->F (k+1)=(F k).put o.dst (V k):=λk o ho=>(K.step k o Aa6).2.fr;have HM:ops.size<=ops.toList.length:=AD
 have AJW:∀(Ir:Array Bool) (a:Act) (w:World) (m:J) (t:St) (f:Fr),(∀k,k<ops.size->Ir.getD k false=true)->
   Lx m0 w0 m w->(∀b,t.heap b=HD S L (λk=>Ir.getD k false) ops.size b)->(∀x,f x=FD ops.toList F V (λk=>Ir.getD k false) ops.size x)->
   It m t.heap w->FR m nt f a.tmps->a.defers=df->Q .normal a w:=by
  intro Ir a w m t f JO he ht jm hr MT hd;refine hQ m a w he ?_ ?_ hd
  .exact hr.congr λb=>by rw[ht,AKQ JO (di b)]
  .refine⟨MT.size,λx=>?_⟩;have:=MT.get x;rw[jm,AKO JO HM Ye]at this;exact this
 intro ACp
 induction ACp with
 |zero=>
  intro Ir a w m t f hs hl x5 he ht jm hr MT hd;have JO:=mz hl;refine⟨?_,AJW Ir a w m t f JO he ht jm hr MT hd⟩;unfold Ex;rw[List.filter_eq_nil_iff];intro i hi;have qU:=Da.1 hi;have:=JO i qU
  have h2:Ir.getD i true=true:=by
   exact Ahv
  simp[h2]
 |succ ACp ih=>
  intro Ir a w m t f hs hl x5 he ht jm hr MT hd
  have ADU:∀i,i∈Ex .any ops Ir<->∃o,ops[i]?=some o/\Ir.getD i false=false/\∀e∈o.after.toList,DB .any e=true->Ir.getD e.on false=true:=by
   intro i;unfold Ex;rw[List.mem_filter,Da];constructor
   .rintro⟨hi,h⟩;have ho:ops[i]?=some ops[i]:=CQ hi;rw[ho]at h;simp only[Option.map_some,Option.getD_some,Bo,Dl]at h;refine⟨_,ho,?_,?_⟩
    .have:=h.1;exact Ahv
    .intro e he hb;have:=h.2;rw[EI]at this;have:=this e (by simpa using he);rw[hb]at this;simpa using this
   .rintro⟨o,ho,h1,h2⟩;have hi:i<ops.size:=(CU.1 ho).1;refine⟨hi,?_⟩;rw[ho];simp only[Option.map_some,Option.getD_some,Bo,Dl];refine⟨?_,?_⟩
    .simp only[Cg]at h1⊢;rw[CQ AA]at h1⊢;simpa using h1
    .rw[EI];intro e he;cases hb:DB .any e with
     |false=>rfl
     |true=>have:=h2 e (by simpa using he) hb;simpa using this
  refine⟨λAVZ=>?_,λi hi=>?_⟩
  .refine AJW Ir a w m t f ?_ he ht jm hr MT hd
   have JO:∀n,n<ops.size->∀k,k<=n->Ir.getD k false=true:=by
    intro n
    induction n using Nat.strongRecOn with
    |_ n ihn=>
     intro hn k hk;by_cases hkn:k<n
     .exact ihn k hkn AA k (Bg _)
     .have:k=n:=AA;subst this;cases hc:Ir.getD k false with
      |true=>rfl
      |false=>
       have ho:ops[k]?=some ops[k]:=CQ hn
       have:k∈Ex .any ops Ir:=(ADU k).2 ⟨_,ho,hc,λe he hb=>by
        have:=K.oZ k _ ho e he hb;exact ihn e.on this AA e.on (Bg _)⟩
       rw[AVZ]at this;cases this
   exactλk hk=>JO k hk k (Bg _)
  .obtain⟨o,ho,hD,AMK⟩:=(ADU i).1 hi;have qU:i<ops.size:=(CU.1 ho).1;have yA:ops.toList[i]?=some o:=by simpa using ho
   obtain⟨Nd,HW⟩:=K.step i o ho;obtain⟨n1,n3,n4,n5,n6⟩:=ki HW
   have pB:∀j,fa (bs ops.toList i) j->Ir.getD j false=true:=by
    intro j hj;obtain⟨e,he,hb,hj⟩:=AB5 yA (λe he hb=>K.oZ i o ho e he hb) hj;have Tp:=AMK e he hb;rcases hj with rfl|hj
    .exact Tp
    .exact x5 e.on (by have:=K.oZ i o ho e he hb;omega) Tp j hj
   have dh:∀k,i<k->k<ops.size->fa (bs ops.toList k) i->Ir.getD k false=false:=by
    intro k dj hk hb;cases hc:Ir.getD k false with
    |false=>rfl
    |true=>have:=x5 k hk hc i hb;rw[hD]at this;cases this
   have ACz:∀b,(b∈(L i).1\/b∈(L i).2)->t.heap b=(S i).heap b:=by
    intro b hb;rw[ht];refine ABl qU hD (di b) (λk hk hw=>?_) λk hk hkN hw=>?_
    .rcases K.mem k i hk qU with h|h
     .exact pB k h
     .exact Zq ⟨hw,hb⟩ (RX h b).1
    .rcases K.mem i k hk hkN with h|h
     .exact dh k hk hkN h
     .rcases hb with hb|hb
      .exact Zq ⟨hb,hw⟩ (RX h b).2
      .exact Zq ⟨hb,.inr hw⟩ (RX h b).1
   have Ww:∀x∈Rb ops.toList o,F i x=f x:=by
    intro x hx;symm;rw[jm];refine ABi qU hD HM Ye (λk hk hw=>?_) λk hk hkN hw=>?_
    .have Jk:ops[k]?=some ops[k]:=CQ AA;rcases K.ANx k i _ o hk Jk ho with h|h
     .exact pB k h
     .rw[show ops.toList[k]?=some ops[k] by simp]at hw;exact Zq hx ((Re h).1 x hw).1
    .have Jk:ops[k]?=some ops[k]:=CQ hkN;rcases K.ANx i k o _ hk ho Jk with h|h
     .exact dh k hk hkN h
     .rw[show ops.toList[k]?=some ops[k] by simp]at hw;exact Zq hx ((Re h).2 x hw)
   obtain⟨t',rd,wr,r1,r2,r3,r4⟩:=n6 {t with next:=(S i).next} rfl λb hb=>ACz b hb
   have AMM:∀b,({t with next:=(S i).next}:St).next<=b->b<t'.next->({t with next:=(S i).next}:St).heap b=none:=by
    intro b h1 h2;simp only at h1;rw[r2]at h2;have hw:=n3 b ⟨h1,h2⟩;show t.heap b=none;rw[ACz b (.inr hw)];exact K.AJH i AA b h1
   have r1:=tG Ww r1;refine AE3 (st:={t with next:=(S i).next}) (hE.le he) hr MT ho Nd r1 AMM ro _ Q λm1 a1 w1 e1 q1 mY d1=>?_;have hgd:=ep (Ir:=Ir) (i:=i) AA;refine ih (Ir.setIfInBounds i true) a1 w1 m1 t' (f.put o.dst (V i)) (by simp[hs]) (by have:=sA hs qU hD;omega) ?_ (he.trans e1) ?_ ?_ q1 mY (d1.trans hd)
   .intro k hk Jm j hj;rw[hgd]at Jm⊢;rw[D6]at Jm⊢;rcases Jm with h|h
    .exact .inl (x5 k hk h j hj)
    .have:k=i:=by simpa using h
     subst this;exact .inl (pB j hj)
   .intro b
    rw[AKP (D:=λk=>Ir.getD k false) qU hgd (λk hk hkN h1 h2=>by
     rcases K.mem i k hk hkN with h|h
     .exact dh k hk hkN h
     .exact Zq ⟨h1,.inr h2⟩ (RX h b).1)]
    by_cases hw:b∈(L i).2
    .rw[Ps hw];exact r3 b hw
    .rw[Ng hw,r4 b hw];exact ht b
   .intro x
    rw[AKN (D:=λk=>Ir.getD k false) qU hgd (λk hk hkN h1 h2=>by
     have Jk:ops[k]?=some ops[k]:=CQ hkN;rcases K.ANx i k o _ hk ho Jk with h|h
     .exact dh k hk hkN h
     .rw[yA]at h1;rw[show ops.toList[k]?=some ops[k] by simp]at h2;exact Zq h2 ((Re h).1 x h1).2),yj,yA]
    simp only[Option.bind_some];rw[jm]
def ACQ(ro:ON){nt:Nat}{ops:Array CW}{id:Nat}(Q:QX){K:Ks}{m:J}{w:World}{st:St}{fr:Fr}{a:Act}
  (hE:Ov X.KW m)(hr:It m st.heap w)(hf:Gm st)(MT:FR m nt fr a.tmps)(h:sk P md X nt ops.toList true K fr st)
  (hQ:∀m' a' w' oi He,Lx m w m' w'->It m' He.heap w'->Gm He->HT st He->FR m' nt oi a'.tmps->a'.defers=a.defers->K oi He->Q .normal a' w'):(Code.region id ops true).wpIn (Fw ro) 0 P Q a w:=by
 simp only[sk]at h;cases I0:Nk ops.toList&&P.follows .mixedOrders with
 |false=>simp only[I0,cond_false]at h
 |true=>
  simp only[I0,cond_true]at h;obtain⟨AMw,AVR⟩:=and_true I0;obtain⟨S,F,V,l,g1,g2,⟨Pq,hK0⟩,g4,g5⟩:=kQ ops.toList 0 AD h;simp only[CZ,Cp]at hK0 g4;simp only[Nk,Bo]at AMw
  have hK:mC P md X nt ops S F V (λi=>l.getD i ([],[])):=by
   refine⟨λi o ho=>?_,λi o ho e he hb=>?_,λi j hij hj=>?_,λi j a b hij ha hb=>?_,by rw[g1];exact hf⟩
   .have:=g5 i o (DO _) Aa6;exact Aea
   .have:=Ug AMw.1 i o Aa6 e he hb;omega
   .have hlj:l[j]?=some (l.getD j ([],[])):=by
     simp only[FL];rw[Bc AA];rfl
    have hli:([]++l)[i]?=some (l.getD i ([],[])):=by
     simp only[FL,CC];rw[Bc AA];rfl
    exact Wh Pq i j _ _ (by simpa using hij) hlj hli
   .exact TO AMw.2 i j b a (by simpa using hij) AY Aa5
  apply wpIn_region_draw;intro tp;rw[AVR];show wpOpsIn (Fw ro) 0 P ops Q (Fk .any ops tp) a _;unfold Fk;apply wpAnyIn_sound
  have pO:∀k,(Dh ops.size false).getD k false=false:=by
   intro k;simp only[Cg,En];split<;>rfl
  have hHD:∀N b,HD S (λi=>l.getD i ([],[])) (λk=>(Dh ops.size false).getD k false) N b=(S 0).heap b:=by
   intro N b
   induction N with
   |zero=>rfl
   |succ N ih=>simp only[HD,pO];rw[Ng AD,<- ih];simp only[pO]
  have hFD:∀N x,FD ops.toList F V (λk=>(Dh ops.size false).getD k false) N x=F 0 x:=by
   intro N x
   induction N with
   |zero=>rfl
   |succ N ih=>simp only[FD,pO];rw[Ng AD,<- ih];simp only[pO]
  refine AFq ro hK Q (m0:=m) (w0:=w) (df:=a.defers) hE (λm' a' w' e1 e2 e3 e4=>hQ m' a' w' (F ops.size) (S ops.size) e1 e2 (hK.AJH _ (Bg _)) (by have:=hK.Iw _ (Bg _);rw[g1]at this;exact this) e3 e4 hK0) ops.size _ a _ m st fr AD ?_ ?_ (Lx.drew m w) ?_ ?_ hr.drew MT rfl
  .unfold left;rw[List.countP_eq_length.2 (λk _=>by rw[pO];rfl),Fe]
  .intro k _ hk;rw[pO]at hk;cases hk
  .intro b;rw[hHD,g1]
  .intro x;rw[hFD,g2]
end
end
section
open Go.Ab (Fw OL ZB and_true kz Yk XW Vm)
def eM(B:Ks)(K:Kx):Kx:=λx=>match x with
 | .normal=>B
 | .exit id=>K (.exit id)
 | .ret=>K .ret
def Yo(id:Nat)(K:Kx):Kx:=λx=>match x with
 | .normal=>K .normal
 | .exit jz=>bif Br jz id then K .normal else K (.exit jz)
 | .ret=>K .ret
def Yg(body:Ks->Ks):Nat->Ks
 |0=>λ_ _=>False
 |n+1=>body (Yg body n)
def Gs(x:PV)(A B:Prop):Prop:=match x with
 | .bool b=>(b=true->A)/\(b=false->B)
 |_=>False
def qu(fr:Fr):LN->LP->Fr
 |p::ps,a::as=>qu (fr.set p a) ps as
 |_,_=>fr
def XK(P:Cf)(X:Mode)(nt:Nat)(g:Cy)(ps:LN)(A B:Kx->Ks)(K:Kx):Ks:=λfr st=>match X with
 | .Hw E=>(∀m,E.holds m)/\∃gf VW,∃(I:LLP->St->Prop) (R:St->St->Prop) (xs:LLP),Sw fr g=some (.fn gf VW)/\Ms P gf=true/\(∀p,p∈ps->p<nt)/\(∀x,x∈xs->x.length=ps.length)/\
  (∀pre x post s,xs=pre++x::post->I pre s->Gm s->A (λex f1 s1=>ex=.normal/\B (λex2 _ s2=>ex2=.normal/\I (pre++[x]) s2/\R s s2) f1 s1) (qu fr ps x) s)/\
  (∀(E':VJ) (L:Nat),(∀pre x post s,xs=pre++x::post->I pre s->Gm s->YW E' P L x s λr s'=>r=.bool true/\I (pre++[x]) s'/\R s s')->SW E' P gf (.yield L::VW) st λ_ s'=>I xs s')/\
  (∀s,I xs s->Gm s->HT st s->K .normal fr s)
 |_=>False
section
variable(P:Program) (md:Bool) (X:Mode) (nt:Nat)
def Ko:C5->Bool->Kx->Ks
 | .skip,_,K=>K .normal
 | .label _,_,K=>K .normal
 | .region _ ops d,_,K=>sk P md X nt ops.toList d (K .normal)
 | .seq a b,rg,K=>Ko a rg (eM (Ko b rg K) K)
 | .cond c a b,rg,K=>λfr st=>HA (Sw fr c) λx=>Gs x (Ko a rg K fr st) (Ko b rg K fr st)
 | .block id c,rg,K=>Ko c rg (Yo id K)
 | .loop c,rg,K=>λfr st=>∃n,Yg (λW=>Ko c rg (eM W K)) n fr st
 | .scope c,rg,K=>Ko c rg K
 | .exit id,_,K=>K (.exit id)
 | .ret,_,K=>K .ret
 | .rangeFunc g ps a c,rg,K=>match rg with
  |true=>XK P X nt g ps.toList (Ko a false) (Ko c false) K
  |false=>λ_ _=>False
 |_,_,_=>λ_ _=>False
end
def qM(IW:Nat)(m:J)(w:World):List FM->Prop
 |[]=>True
 |d::ds=>(∃r,d={target:=.collected r,args:=#[]}/\IW<=r/\w.heap[r]?=some (.deferred (some []))/\¬m.my r/\m.KW r=none/\∀d'∈ds,d'≠d)/\qM IW m w ds
def qM.ext{IW:Nat}{m m':J}{w w':World}(h:Lx m w m' w'):∀{ds:List FM},qM IW m w ds->qM IW m' w' ds
 |[],_=>trivial
 |d::ds,⟨⟨r,h1,h2,h3,h4,h0,h5⟩,h6⟩=>by
  have G7:r<w.heap.size:=(CU.1 h3).1;refine⟨⟨r,h1,h2,by rw[h.LU r G7 h4];exact h3,λhi=>?_,by rw[h.KW];exact h0,h5⟩,qM.ext h h6⟩;rcases h.my hi with h'|h'
  .exact h4 h'
  .omega
def It.YF{m:J}{h:HO}{w:World}(hr:It m h w){e:Nat->Option EE}(he:∀B o,e B=some o->w.heap[B]?=some o/\dF o=false/\(∀l c,o≠ .map l c)):It {m with KW:=e} h w:=by
 have hle:m.le {m with KW:=e}:=⟨λ_ _ h=>h,Yn.refl _,λb B n e t h=>⟨B,n,t,h,Bg _,λ_=>⟨rfl,rfl⟩⟩,λ_ _ _=>rfl⟩
 exact⟨λb o hb=>(hr.bl b o hb).Hi hle λ_ _ _=>rfl,he,hr.HE,hr.Xp,hr.P6,hr.Qq,hr.LJ,hr.Mi,hr.bK,hr.blt⟩
def It.put{m:J}{h:HO}{w:World}(hr:It m h w){B:Nat}{o o':EE}(hB:w.heap[B]?=some o)(ho:dF o=false)(hm:∀l c,o≠ .map l c)(mj:dF o'=false)(he:m.KW B=none):It m h (BO w B o'):=by
 have hc:∀{o:EE},dF o=false->∀c t fr,o≠ .cells c t fr:=λh c t fr e=>by rw[e]at h;cases h
 obtain⟨g1,g2,g3,g4⟩:=Go.Ab.Mx w B o o' hB (hc ho) (hc mj)
 have Kk:∀{k:Nat} {vs:AV0} {ty:Bz} {fz:Nat×Nat},w.heap[k]?=some (.cells vs ty fz)->k≠B:=by
  rintro k vs ty fz h1 rfl;rw[hB]at h1;cases h1;cases ho
 refine⟨λb o1 hb=>?_,λk o1 hk=>?_,λb n e hb=>?_,λk ks hk=>?_,hr.P6,hr.Qq,hr.LJ,hr.Mi,hr.bK,λb k hb=>by rw[g3];exact hr.blt b k hb⟩
 .have:=hr.bl b o1 hb;cases o1 with
  |box cs=>
   obtain⟨k,vs,ty,h1,h2,h3⟩:=this;exact⟨k,vs,ty,h1,(g2 k (Kk h2)).trans h2,h3⟩
  |K7 e cs=>
   obtain⟨k,vs,ty,h1,h0,h2,h3⟩:=this;exact⟨k,vs,ty,h1,h0,(g2 k (Kk h2)).trans h2,h3⟩
  |map l=>
   obtain⟨k,es,c,h1,h2,h3⟩:=this;exact⟨k,es,c,h1,(g2 k (by rintro rfl;rw[hB]at h2;cases h2;exact hm _ _ rfl)).trans h2,h3⟩
  |HE _ _=>trivial
  |KV=>trivial
 .obtain⟨h1,h2⟩:=hr.KW k o1 hk;exact⟨(g2 k (by rintro rfl;rw[he]at hk;cases hk)).trans h1,h2⟩
 .rcases hr.HE b n e hb with h1|⟨h0,k,t,h1,ks,h2,h3,vs,ty,h4,h5⟩
  .exact AgC
  .exact .inr ⟨h0,k,t,h1,ks,h2,h3,vs,ty,(g2 k (Kk h4)).trans h4,h5⟩
 .obtain⟨vs,ty,h1,h2⟩:=hr.Xp k ks hk;exact⟨vs,ty,(g2 k (Kk h1)).trans h1,h2⟩
section
variable{P:Program} {md:Bool} {X:Mode}
def nf(P:Cf)(md:Bool)(X:Mode)(ro:ON)(IW nt:Nat)(c:C5):Prop:=
 ∀⦃K:Kx⦄⦃m:J⦄⦃w:World⦄⦃st:St⦄⦃fr:Fr⦄⦃a:Act⦄,Ko P md X nt c ro.isNone K fr st->Ov X.KW m->It m st.heap w->Gm st->FR m nt fr a.tmps->qM IW m w a.defers->IW<=w.heap.size->
  ∀Q:QX,(∀m' a' w' x oi He,Lx m w m' w'->It m' He.heap w'->Gm He->HT st He->FR m' nt oi a'.tmps->qM IW m' w' a'.defers->K x oi He->Q (ZB x) a' w')->c.wpIn (Fw ro) 0 P Q a w
def ACP{ro:ON}{IW nt:Nat}{x y:C5}(hx:nf P md X ro IW nt x)(hy:nf P md X ro IW nt y):nf P md X ro IW nt (.seq x y):=by
 intro K m w st fr a h hE hr hf MT hd Nc Q hQ;apply wpIn_seq;refine hx h hE hr hf MT hd Nc _ λm1 a1 w1 ex mY fE e1 r1 f1 w2 g1 d1 k1=>?_;cases ex with
 |normal=>exact hy k1 (hE.le e1) r1 f1 g1 d1 (CN Nc e1.size) Q λm2 a2 w2' ex2 fr2 st2 e2 r2 f2 w3 g2 d2 k2=>hQ m2 a2 w2' ex2 fr2 st2 (e1.trans e2) r2 f2 (w2.trans w3) g2 d2 k2
 |exit id=>exact hQ m1 a1 w1 _ mY fE e1 r1 f1 w2 g1 d1 k1
 |ret=>exact hQ m1 a1 w1 _ mY fE e1 r1 f1 w2 g1 d1 k1
def zu{ro:ON}{IW nt:Nat}{c:C5}(hx:nf P md X ro IW nt c):nf P md X ro IW nt (.loop c):=by
 intro K m w st fr a h hE hr hf MT hd Nc Q hQ;obtain⟨n,h⟩:=h
 have key:∀(n:Nat) {m:J} {w:World} {st:St} {fr:Fr} {a:Act},Yg (λW=>Ko P md X nt c ro.isNone (eM W K)) n fr st->Ov X.KW m->It m st.heap w->Gm st->FR m nt fr a.tmps->qM IW m w a.defers->IW<=w.heap.size->
   ∀Q:QX,(∀m' a' w' x oi He,Lx m w m' w'->It m' He.heap w'->Gm He->HT st He->FR m' nt oi a'.tmps->qM IW m' w' a'.defers->K x oi He->Q (ZB x) a' w')->Vm (Fw ro) 0 P c Q a w:=by
  intro n
  induction n with
  |zero=>intro m w st fr a h;exact h.elim
  |succ n ih=>
   intro m w st fr a h hE hr hf MT hd Nc Q hQ;apply Yk;refine hx h hE hr hf MT hd Nc _ λm1 a1 w1 ex mY fE e1 r1 f1 w2 g1 d1 k1=>?_;cases ex with
   |normal=>exact ih k1 (hE.le e1) r1 f1 g1 d1 (CN Nc e1.size) Q λm2 a2 w2' ex2 fr2 st2 e2 r2 f2 w3 g2 d2 k2=>hQ m2 a2 w2' ex2 fr2 st2 (e1.trans e2) r2 f2 (w2.trans w3) g2 d2 k2
   |exit id=>exact hQ m1 a1 w1 _ mY fE e1 r1 f1 w2 g1 d1 k1
   |ret=>exact hQ m1 a1 w1 _ mY fE e1 r1 f1 w2 g1 d1 k1
 exact XW (key n h hE hr hf MT hd Nc Q hQ)
def xF{m:J}{nt:Nat}:∀(ps:LN) {args:LP} {HP:LV} {fr:Fr} {tmps:AV0},(∀p,p∈ps->p<nt)->args.length=ps.length->LC m args HP->FR m nt fr tmps->
  HP.length=ps.length/\FR m nt (qu fr ps args) ((ps.zip HP).foldl (λtmps (t,a)=>tmps.setIfInBounds t a) tmps)
 |[],args,HP,fr,tmps,_,hl,ha,hf=>by
  cases ha with
  |nil=>exact⟨rfl,hf⟩
  |cons _ _ _ _ _ _=>simp at hl
 |p::ps,args,HP,fr,tmps,hp,hl,ha,hf=>by
  cases ha with
  |nil=>simp at hl
  |cons a v l l' h1 h2=>
   obtain⟨k1,k2⟩:=xF ps (fr:=fr.set p a) (tmps:=tmps.setIfInBounds p v) (λq hq=>hp q (by simp[hq])) AaW h2 (hf.set (hp p AD) h1);exact⟨by simp[k1],k2⟩
def uf{IW nt:Nat}{g:Cy}{ps:Array Tmp}{as bd:C5}(ha:∀L b,nf P md X (some L) b nt as)(hb:∀L b,nf P md X (some L) b nt bd):nf P md X none IW nt (.rangeFunc g ps as bd):=by
 intro K m w st fr a h hE hr hf MT hd Nc Q hQ;have h:XK P X nt g ps.toList (Ko P md X nt as false) (Ko P md X nt bd false) K fr st:=h;unfold XK at h;split at h
 case h_2=>exact h.elim
 rename_i E;obtain⟨ADZ,gf,VW,I,R,xs,hg,lC,hps,hxs,ji,AQ5,dh⟩:=h;unfold Ms at lC;split at lC
 case h_2=>cases lC
 rename_i fn PR;obtain⟨Lz,fT⟩:=Go.Ab.and_true lC;obtain⟨cc,er⟩:=DH.1 Lz;have hfv:=dO MT hg;generalize hgv:a.eval g=fv at hfv;cases hfv with
 |data _ _ hd=>cases hd
 |fn _ _ cs JK=>
 apply wpIn_rangeFunc;intro AUE _;obtain⟨e1,r1⟩:=hr.fw (.deferred (some [])) (Go.Ab.L6 w _ AbV);obtain⟨SI,bL⟩:∃r:Loop,r={state:=.ready,pending:=none,fn:=AUE,tmps:=a.tmps,params:=ps,assign:=as,body:=bd,defers:=w.heap.size}:=⟨_,rfl⟩
 obtain⟨e2,r2⟩:=r1.fw (.loop SI) (Go.Ab.L6 _ _ AbV);have e12:=e1.trans e2;obtain⟨w1,SY⟩:∃w1,w1=(w.alloc (.deferred (some []))).alloc (.loop SI):=⟨_,rfl⟩
 rw[<- SY]at e2 r2 e12;have Of:(w.alloc (.deferred (some []))).heap.size=w.heap.size+1:=AD;have hsz1:w1.heap.size=w.heap.size+2:=by rw[SY];simp
 have hL:w1.heap[w.heap.size+1]?=some (.loop SI):=by
  rw[SY];have:=EG (w.alloc (.deferred (some []))) (.loop SI);rwa [Of]at this
 have hD:w1.heap[w.heap.size]?=some (.deferred (some [])):=by
  rw[SY];have:=Go.heap_alloc_old (w.alloc (.deferred (some []))) (.loop SI) (w.heap.size) AD;rw[this];exact EG w _
 obtain⟨L,hLd⟩:∃L,L=w.heap.size+1:=⟨_,rfl⟩
 rw[<- hLd]at hL
 have hmL:m.KW L=none:=by
  cases hh:m.KW L with
  |none=>rfl
  |some o=>have:=(CU.1 (hr.KW L o hh).1).1;omega
 let m1:J:={m with KW:=λB=>if B=L then some (.loop SI)else m.KW B}
 have AMV:m.le m1:=⟨λ_ _ h=>h,Yn.refl _,λb B n e t h=>⟨B,n,t,h,Bg _,λ_=>⟨rfl,rfl⟩⟩,λ_ _ _=>rfl⟩
 have rm1:It m1 st.heap w1:=r2.YF λB o ho=>by
  have ho:(if B=L then some (.loop SI)else m.KW B)=some o:=ho;by_cases c:B=L
  .rw[Ps c]at ho;cases ho;rw[c];exact⟨hL,rfl,λl c e=>by cases e⟩
  .rw[Ng c]at ho;exact r2.KW B o ho
 let E':VJ:=⟨λm'=>m1.le m'/\m'.KW L=some (.loop SI),λ⟨h1,h2⟩ he=>⟨h1.trans he.le,by rw[he.KW];exact h2⟩⟩
 have AMs:∀pre x post s,xs=pre++x::post->I pre s->Gm s->YW E' P L x s λr s'=>r=.bool true/\I (pre++[x]) s'/\R s s':=by
  intro pre x post s hx hI hfs mm ww HP hE' hrr hv;obtain⟨AVL,ADC⟩:m1.le mm/\mm.KW L=some (.loop SI):=hE';have hwL:=(hrr.KW L _ ADC).1;obtain⟨b1,b2⟩:=xF ps.toList hps (hxs x Aau) hv (MT.mono (AMV.trans AVL));refine⟨SI,hwL,by rw[bL];simpa using b1,?_⟩
  have hz:(SI.params.zip HP.toArray).foldl (λtmps (t,a)=>tmps.setIfInBounds t a) SI.tmps=(ps.toList.zip HP).foldl (λtmps (t,a)=>tmps.setIfInBounds t a) a.tmps:=by
   rw[bL,<- Eh];simp
  rw[hz];have hra:SI.assign=as:=by rw[bL]
  have hrb:SI.body=bd:=by rw[bL]
  rw[hra,hrb];refine roundIn_of_wpIn trivial ?_;refine ha L 0 (a:={tmps:=_,defers:=[]}) (ji pre x post s hx hI hfs) (ADZ mm) hrr hfs b2 trivial (DO _) _ λm2 a2 w2 ex f1 s1 qP r2' f2' g2' AUF d2' k2'=>?_;obtain⟨rfl,k2'⟩:=k2';have AQv:m2.KW L=some (.loop SI):=by rw[qP.KW];exact ADC
  have ADc:=(r2'.KW L _ AQv).1;obtain⟨busy,AJQ⟩:∃r:Loop,r={SI with state:=.busy}:=⟨_,rfl⟩
  obtain⟨p1,p2,p3,p4⟩:=Go.Ab.Mx w2 L _ (.loop busy) ADc AbV AbV
  refine⟨BO w2 L (.loop busy),by
   simp only[Instr.beginRound,B6,Go.Ab.XL ADc,Result.andThen_ok,Go.Ab.XN ADc];rw[AJQ,bL];rfl,?_⟩
  have r3a:It {m2 with KW:=λB=>if B=L then none else m2.KW B} s1.heap w2:=r2'.YF λB o ho=>by
   by_cases c:B=L
   .simp only[c,if_true]at ho;cases ho
   .simp only[Ng c]at ho;exact r2'.KW B o ho
  have r3b:=r3a.put ADc rfl Acb (o':=.loop busy) rfl AD
  have r3:It {m2 with KW:=λB=>if B=L then some (.loop busy)else m2.KW B} s1.heap (BO w2 L (.loop busy)):=by
   have:=r3b.YF (e:=λB=>if B=L then some (.loop busy)else m2.KW B) λB o ho=>by
    by_cases c:B=L
    .simp only[c,if_true,Bh]at ho;subst ho;rw[c];exact⟨p1,rfl,λl c e=>by cases e⟩
    .simp only[Ng c]at ho;obtain⟨q1,q2⟩:=r2'.KW B o ho;exact⟨(p2 B c).trans q1,q2⟩
   exact this
  have AHP:m2.le {m2 with KW:=λB=>if B=L then some (.loop busy)else m2.KW B}:=⟨λ_ _ h=>h,Yn.refl _,λb B n e t h=>⟨B,n,t,h,Bg _,λ_=>⟨rfl,rfl⟩⟩,λ_ _ _=>rfl⟩
  refine hb L 0 (a:=a2) k2' (ADZ _) r3 f2' (AUF.mono AHP) (by
   have:∀ds,qM 0 m2 w2 ds->qM 0 {m2 with KW:=λB=>if B=L then some (.loop busy)else m2.KW B} (BO w2 L (.loop busy)) ds:=by
    intro ds
    induction ds with
    |nil=>intro _;trivial
    |cons d0 ds ih=>
     rintro⟨⟨r,k1,k2,k3,k4,k0,k5⟩,k6⟩;have Kk:r≠L:=by rintro rfl;rw[ADc]at k3;cases k3
     exact⟨⟨r,k1,k2,(p2 r Kk).trans k3,k4,by simp only[Ng Kk];exact k0,k5⟩,ih k6⟩
   exact this _ d2') (DO _) _ λm4 a4 w4 ex2 f4 s4 e4 r4 f4' g4 fr4 d4 k4=>?_
  obtain⟨rfl,k4⟩:=k4;have AJY:m4.KW=λB=>if B=L then some (.loop busy)else m2.KW B:=e4.KW
  have AHd:w4.heap[L]?=some (.loop busy):=(r4.KW L _ (by rw[AJY];simp)).1;obtain⟨q1,q2,q3,q4⟩:=Go.Ab.Mx w4 L _ (.loop SI) AHd AbV AbV
  have ZL:(Instr.endRound L none).run P w4=.ok (.bool true) (BO w4 L (.loop SI)):=by
   simp only[Instr.endRound,B6,Go.Ab.XL AHd,Result.andThen_ok,Go.Ab.XN AHd];rw[AJQ,bL];rfl
  refine⟨.bool true,_,ZL,?_⟩
  have r5a:It {m4 with KW:=λB=>if B=L then none else m2.KW B} s4.heap w4:=r4.YF λB o ho=>by
   by_cases c:B=L
   .simp only[c,if_true]at ho;cases ho
   .simp only[Ng c]at ho;exact r4.KW B o (by rw[AJY];simp only[Ng c];exact ho)
  have r5b:=r5a.put AHd rfl Acb (o':=.loop SI) rfl AD;have AVT:m2.KW=mm.KW:=qP.KW
  have r5:It {m4 with KW:=mm.KW} s4.heap (BO w4 L (.loop SI)):=by
   have:=r5b.YF (e:=mm.KW) λB o ho=>by
    by_cases c:B=L
    .rw[c,ADC]at ho;cases ho;rw[c];exact⟨q1,rfl,λl c e=>by cases e⟩
    .obtain⟨z1,z2⟩:=r5a.KW B o (by simp only[Ng c];rw[AVT];exact ho);exact⟨(q2 B c).trans z1,z2⟩
   exact this
  have AVM:m4.le {m4 with KW:=mm.KW}:=⟨λ_ _ h=>h,Yn.refl _,λb B n e t h=>⟨B,n,t,h,Bg _,λ_=>⟨rfl,rfl⟩⟩,λ_ _ _=>rfl⟩
  have hszL:L<ww.heap.size:=(CU.1 hwL).1;have AQ4:∀B,m2.my B->B<ww.heap.size->mm.my B:=λB hi G7=>(qP.my hi).resolve_right AA;refine⟨{m4 with KW:=mm.KW},.bool true,.bool true,s4,rfl,⟨(qP.le.trans AHP).trans (e4.le.trans AVM),?_,λb B hb=>?_,λb B n e t hb=>?_,λB ks hk=>?_,λB G7 hn=>?_,?_,?_,λad had=>?_,rfl⟩,r5,.data _ _ (.bool _),g2'.trans g4,f4',rfl,k4⟩
  .rw[q3];exact CN qP.size (CN (by rw[p3];exact Bg _) e4.size)
  .have s3:(BO w2 L (.loop busy)).heap.size=w2.heap.size:=p3;rcases e4.cW b B hb with⟨b0,h0⟩|h0
   .exact qP.cW b0 B h0
   .right;have:=qP.size;omega
  .have s3:(BO w2 L (.loop busy)).heap.size=w2.heap.size:=p3;rcases e4.YP b B n e t hb with⟨b0,n0,e0,t0,h0⟩|h0
   .exact qP.YP b0 B n0 e0 t0 h0
   .right;have:=qP.size;omega
  .have s3:(BO w2 L (.loop busy)).heap.size=w2.heap.size:=p3;rcases e4.bU B ks hk with⟨b0,n0,e0,t0,h0⟩|h0|h0
   .rcases qP.YP b0 B n0 e0 t0 h0 with h1|h1
    .exact AgC
    .exact .inr (.inr h1)
   .exact qP.bU B ks h0
   .exact .inr (.inr (by have:=qP.size;omega))
  .by_cases c:B=L
   .rw[c,q1,hwL]
   .have VN:¬m2.my B:=λhi=>hn (AQ4 B hi G7);rw[q2 B c,e4.LU B (by rw[p3];exact Cv G7 qP.size) VN,p2 B c,qP.LU B G7 hn]
  .exact(e4.os.trans rfl).trans qP.os
  .exact(e4.output.trans rfl).trans qP.output
  .rw[q4,e4.NZ ad (by rw[p3];exact Cv had qP.size),p4,qP.NZ ad had]
 have Tk:=AQ5 E' L AMs m1 w1 (Ey (.yield L) #[] #[]::cs) ⟨J.le.refl m1,by show(if _ then _ else _)=_;rw[Ps rfl]⟩ rm1 (.cons _ _ _ _ (.yield L) (JK.mono AMV));refine⟨L,[{target:=.collected w.heap.size,args:=#[]}],w1,{target:=.fn (.func gf) cs.toArray,args:=#[]++#[Ey (.yield L) #[] #[]]},w1,gf,(Ey (.yield L) #[] #[]::cs).toArray,w1,?_,?_,λ_ _=>trivial,?_,λh=>by simp[Fw,DF]at h,?_⟩
 .simp only[Instr.enterLoop,Fw,B6];have Pt:∀(w:World) (o:EE),(Go.newObj o).run P w=.ok w.heap.size (w.alloc o):=λw o=>rfl;simp only[Pt,Result.andThen_ok,Sem.run_pure,Of];rw[SY,hLd,bL]
 .show Ek P (Cl (a.eval g) _) _=_;rw[hgv];have OU:Array.map a.eval (rangeCall g L).args=#[Ey (.yield L) #[] #[]]:=by simp[Act.eval]
  rw[OU];rfl
 .simp only[invoke,DL,B6,run_program,Result.andThen_ok,PR,(by simpa using fT:(fn.name== "runtime.NumGoroutine")=false),Cw,if_false,er,Option.isNone_some];simp
 .have ZJ:Er (Fw none) (0-1) P gf (Ey (.yield L) #[] #[]::cs).toArray w1 (ti m1 w1 st λ_ s'=>I xs s'):=Tk;refine ZJ.mono ?_;rintro en w3 ⟨m3,v3,r3,s3,rfl,e3,rr3,hv3,g3,f3,k3⟩;have AJX:m3.KW=m1.KW:=e3.KW;have AHc:w3.heap[L]?=some (.loop SI):=(rr3.KW L _ (by rw[AJX];show(if _ then _ else _)=_;rw[Ps rfl])).1;obtain⟨ACe,AQu⟩:∃r:Loop,r={SI with state:=.exhausted}:=⟨_,rfl⟩
  obtain⟨q1,q2,q3,q4⟩:=Go.Ab.Mx w3 L _ (.loop ACe) AHc AbV AbV
  have ZL:(Instr.endLoop L).run P w3=.ok none (BO w3 L (.loop ACe)):=by
   have hbq:(SI.state==LoopState.busy)=false:=by rw[bL];rfl
   simp only[Instr.endLoop,B6,Go.Ab.XL AHc,Result.andThen_ok,hbq,Cw,if_false,Go.Ab.XN AHc];rw[AQu,bL];rfl
  have r4a:It {m3 with KW:=m.KW} s3.heap w3:=rr3.YF λB o ho=>by
   have c:B≠L:=by rintro rfl;rw[hmL]at ho;cases ho
   exact rr3.KW B o (by rw[AJX];show(if _ then _ else _)=_;rw[Ng c];exact ho)
  have r4:=r4a.put AHc rfl Acb (o':=.loop ACe) rfl hmL;have AHP:m3.le {m3 with KW:=m.KW}:=⟨λ_ _ h=>h,Yn.refl _,λb B n e t h=>⟨B,n,t,h,Bg _,λ_=>⟨rfl,rfl⟩⟩,λ_ _ _=>rfl⟩
  have ADL:∀B,m1.my B->B<w.heap.size:=λB hi=>hr.ADw (B:=B) hi
  have ADD:Lx m w {m3 with KW:=m.KW} (BO w3 L (.loop ACe)):=by
   refine⟨(AMV.trans e3.le).trans AHP,?_,λb B hb=>?_,λb B n e t hb=>?_,λB ks hk=>?_,λB G7 hn=>?_,?_,?_,λad had=>?_,rfl⟩
   .rw[q3];exact CN e12.size e3.size
   .rcases e3.cW b B hb with h0|h0
    .exact .inl h0
    .exact AgD
   .rcases e3.YP b B n e t hb with h0|h0
    .exact .inl h0
    .exact AgD
   .rcases e3.bU B ks hk with h0|h0|h0
    .exact .inl h0
    .exact .inr (.inl h0)
    .exact Ahd
   .rw[q2 B AA,e3.LU B AA hn,e12.LU B G7 hn]
   .exact(show w3.os=w.os from e3.os.trans e12.os)
   .exact(show w3.output=w.output from e3.output.trans e12.output)
   .rw[q4,e3.NZ ad AA,e12.NZ ad had]
  have mb:qM IW {m3 with KW:=m.KW} (BO w3 L (.loop ACe)) ([{target:=.collected w.heap.size,args:=#[]}]++a.defers):=by
   refine⟨⟨w.heap.size,rfl,Nc,?_,λhi=>?_,?_,λd' hd' hde=>?_⟩,hd.ext ADD⟩
   .rw[q2 _ AA,e3.LU _ AA (λhi=>by have:=ADL _ hi;omega)];exact hD
   .have hi:m3.my w.heap.size:=hi;rcases e3.my hi with h0|h0
    .have:=ADL _ h0;omega
    .omega
   .show m.KW w.heap.size=none;cases hh:m.KW w.heap.size with
    |none=>rfl
    |some o=>have:=(CU.1 (hr.KW _ o hh).1).1;omega
   .subst hde
    have AMP:∀ds,qM IW m w ds->∀d∈ds,∃r,d.target=.collected r/\r<w.heap.size:=by
     intro ds
     induction ds with
     |nil=>intro _ d hd;cases hd
     |cons d0 ds ih=>
      rintro⟨⟨r,rfl,_,h3,_,_⟩,Lu⟩ d hd;rcases Bm.1 hd with rfl|hd
      .exact⟨r,rfl,(CU.1 h3).1⟩
      .exact ih Lu d hd
    obtain⟨r,VO,ju⟩:=AMP _ hd _ hd';simp only[Target.collected.injEq]at VO;omega
  refine⟨none,_,ZL,?_⟩;exact hQ _ {a with defers:=[{target:=.collected w.heap.size,args:=#[]}]++a.defers} _ .normal fr s3 ADD r4 f3 g3 (MT.mono ADD.le) mb (dh s3 k3 f3 g3)
def iz(nt:Nat)(c:C5):∀(ro:ON) (IW:Nat),nf P md X ro IW nt c:=by
 induction c with
 |skip=>intro ro IW K m w st fr a h hE hr hf MT hd Nc Q hQ;exact wpIn_skip (hQ _ _ _ .normal fr st (Lx.refl _ _) hr hf (HT.refl _) MT hd h)
 |label _=>intro ro IW K m w st fr a h hE hr hf MT hd Nc Q hQ;exact wpIn_label (hQ _ _ _ .normal fr st (Lx.refl _ _) hr hf (HT.refl _) MT hd h)
 |exit id=>intro ro IW K m w st fr a h hE hr hf MT hd Nc Q hQ;exact wpIn_exit (hQ _ _ _ (.exit id) fr st (Lx.refl _ _) hr hf (HT.refl _) MT hd h)
 |ret=>intro ro IW K m w st fr a h hE hr hf MT hd Nc Q hQ;exact wpIn_ret (hQ _ _ _ .ret fr st (Lx.refl _ _) hr hf (HT.refl _) MT hd h)
 |goto _=>intro ro IW K m w st fr a h;exact h.elim
 |refuse _=>intro ro IW K m w st fr a h;exact h.elim
 |rangeFunc g ps as bd lG rm=>
  intro ro IW;cases ro with
  |some l=>intro K m w st fr a h;exact h.elim
  |none=>exact uf (λL b=>lG (some L) b) (λL b=>rm (some L) b)
 |region id ops AUA=>
  intro ro IW K m w st fr a h hE hr hf MT hd Nc Q hQ;cases AUA with
  |true=>exact ACQ ro Q hE hr hf MT h λm' a' w' oi He e1 r1 f1 w2 g1 d1 k1=>hQ m' a' w' .normal oi He e1 r1 f1 w2 g1 AbA k1
  |false=>exact wI ro Q hE hr hf MT h λm' a' w' oi He e1 r1 f1 w2 g1 d1 k1=>hQ m' a' w' .normal oi He e1 r1 f1 w2 g1 AbA k1
 |seq x y ihx ihy=>intro ro IW;exact ACP (ihx ro IW) (ihy ro IW)
 |cond c x y ihx ihy=>
  intro ro IW K m w st fr a h hE hr hf MT hd Nc Q hQ;obtain⟨v,hv,hc⟩:=Kw h;have hrel:=dO MT hv;unfold Gs at hc;split at hc
  .rename_i b;generalize hcv:a.eval c=cv at hrel;cases hrel with|data _ _ hd'=>
   cases hd';cases b with
   |true=>exact wpIn_cond_true hcv (ihx ro IW (hc.1 rfl) hE hr hf MT hd Nc Q hQ)
   |false=>exact wpIn_cond_false hcv (ihy ro IW (hc.2 rfl) hE hr hf MT hd Nc Q hQ)
  .exact hc.elim
 |block id c ih=>
  intro ro IW K m w st fr a h hE hr hf MT hd Nc Q hQ;apply wpIn_block;refine ih ro IW h hE hr hf MT hd Nc _ λm1 a1 w1 ex mY fE e1 r1 f1 w2 g1 d1 k1=>?_;cases ex with
  |normal=>exact hQ m1 a1 w1 .normal mY fE e1 r1 f1 w2 g1 d1 k1
  |exit jz=>
   simp only[Yo]at k1;simp only[ZB,Exit.inBlock];by_cases hid:jz=id
   .subst hid;rw[Go.Ab.AB1]at k1;rw[Ps rfl];exact hQ m1 a1 w1 .normal mY fE e1 r1 f1 w2 g1 d1 k1
   .rw[Go.Ab.tz hid]at k1;rw[Ng hid];exact hQ m1 a1 w1 (.exit jz) mY fE e1 r1 f1 w2 g1 d1 k1
  |ret=>exact hQ m1 a1 w1 .ret mY fE e1 r1 f1 w2 g1 d1 k1
 |loop c ih=>intro ro IW;exact zu (ih ro IW)
 |scope c ih=>
  intro ro IW K m w st fr a h hE hr hf MT hd Nc Q hQ;apply kz;refine ih ro IW h hE hr hf MT hd Nc _ λm1 a1 w1 ex mY fE e1 r1 f1 w2 g1 d1 k1=>⟨?_,hQ m1 a1 w1 ex mY fE e1 r1 f1 w2 g1 d1 k1⟩
  intro l;cases ex<;>simp[ZB]
def T4{α β:Type}{x:Option α}{k:α->Prop}(h:HA x k){T:β->Prop}{k':α->β->Prop}(hk:∀a,k a->∃b,T b/\k' a b):∃b,T b/\HA x (k' · b):=by
 cases x with
 |none=>exact h.elim
 |some a=>obtain⟨b,h1,h2⟩:=hk a h;exact⟨b,h1,h2⟩
def sS{β:Type}(hX:∀E,X≠ .Hw E){u:Bool}{op:Op}{vs:LP}{st:St}{k:KL}(h:opP P md X u op vs st k){T:β->Prop}{k':PV->St->LN->LN->β->Prop}
  (hk:∀v s r w,k v s r w->∃b,T b/\k' v s r w b):∃b,T b/\opP P md X u op vs st (k' · · · · b):=by
 unfold opP at h⊢;split at h
 .rename_i f args IK;cases he:Ms P f with
  |false=>simp only[he,cond_false]at h
  |true=>
   simp only[he,cond_true]at h⊢;rw[Mb]at h;simp only[Mb];rcases h with⟨v,He,bs,h1,h2⟩|h
   .obtain⟨b,g1,g2⟩:=hk _ _ _ _ h2;exact⟨b,g1,.inl ⟨v,He,bs,h1,g2⟩⟩
   .cases u with
    |true=>
     cases X with
     |old=>exact h.elim
     |jG E=>
      obtain⟨v,He,h1,h2⟩:=h;obtain⟨b,g1,g2⟩:=hk _ _ _ _ h2;exact⟨b,g1,.inr ⟨v,He,h1,g2⟩⟩
     |Hw E=>exact Zq rfl (hX E)
    |false=>
     cases X with
     |old=>exact h.elim
     |jG E=>
      obtain⟨v,He,fp,h1,h2⟩:=h;obtain⟨b,g1,g2⟩:=hk _ _ _ _ h2;exact⟨b,g1,.inr ⟨v,He,fp,h1,g2⟩⟩
     |Hw E=>exact Zq rfl (hX E)
 .cases u with
  |true=>
   cases X with
   |old=>exact h.elim
   |jG E=>exact h.elim
   |Hw E=>exact Zq rfl (hX E)
  |false=>exact h.elim
 .cases u with
  |true=>
   cases X with
   |old=>exact h.elim
   |jG E=>exact h.elim
   |Hw E=>exact Zq rfl (hX E)
  |false=>exact h.elim
 .exact T4 h λq hq=>T4 hq λp hp=>hk _ _ _ _ hp
def xl{β:Type}(hX:∀E,X≠ .Hw E){u:Bool}{ops:List CW}{o:CW}{fr:Fr}{st:St}{k:KL}(h:gP P md X u ops o fr st k){T:β->Prop}{k':PV->St->LN->LN->β->Prop}
  (hk:∀v s r w,k v s r w->∃b,T b/\k' v s r w b):∃b,T b/\gP P md X u ops o fr st (k' · · · · b):=by
 unfold gP at h⊢;cases hg:o.guard with
 |none=>
  rw[hg]at h;exact T4 h λvs Mt=>sS hX Mt hk
 |some p=>
  obtain⟨j,Po⟩:=p;rw[hg]at h;simp only at h⊢;cases hj:ops[j]? with
  |none=>rw[hj]at h;exact hk _ _ _ _ h
  |some o'=>
   rw[hj]at h;simp only at h⊢;cases hd:o'.dst with
   |none=>rw[hd]at h;exact hk _ _ _ _ h
   |some d=>
    rw[hd]at h;simp only at h⊢;unfold Ic at h⊢;split at h
    .exact T4 h λvs Mt=>sS hX Mt hk
    .exact hk _ _ _ _ h
    .exact h.elim
def yX{β:Type}(hX:∀E,X≠ .Hw E){nt:Nat}{ops:List CW}:∀{r:List CW} {K:Ks} {fr:Fr} {st:St},oP P md X nt ops r K fr st->∀{T:β->Prop} {K':Fr->St->β->Prop},(∀f s,K f s->∃b,T b/\K' f s b)->∃b,T b/\oP P md X nt ops r (K' · · b) fr st
 |[],K,fr,st,h,T,K',hk=>hk _ _ h
 |o::r,K,fr,st,h,T,K',hk=>by
  simp only[oP]at h⊢;cases Nd:Go.Ab.M1 nt o.dst with
  |false=>simp only[Nd,cond_false]at h
  |true=>
   simp only[Nd,cond_true]at h⊢;exact xl hX h λv s _ _ hv=>yX hX hv hk
def sN{β:Type}(hX:∀E,X≠ .Hw E){nt:Nat}{ops:List CW}:∀{r:List CW} {K:Fr->List Vd->St->Prop} {fr:Fr} {st:St},oDP P md X nt ops r K fr st->∀{T:β->Prop} {K':Fr->List Vd->St->β->Prop},(∀f l s,K f l s->∃b,T b/\K' f l s b)->
  ∃b,T b/\oDP P md X nt ops r (K' · · · b) fr st
 |[],K,fr,st,h,T,K',hk=>hk _ _ _ h
 |o::r,K,fr,st,h,T,K',hk=>by
  simp only[oDP]at h⊢;cases Nd:Go.Ab.M1 nt o.dst with
  |false=>simp only[Nd,cond_false]at h
  |true=>
   simp only[Nd,cond_true]at h⊢;exact xl hX h λv s rd wr hv=>sN hX (K':=λf l s' b=>K' f ((rd,wr++H2 st.next s.next)::l) s' b) hv λf l s' hh=>hk f _ s' hh
def iw{β:Type}(hX:∀E,X≠ .Hw E){nt:Nat}(c:C5):∀{rg:Bool} {K:Kx} {fr:Fr} {st:St},Ko P md X nt c rg K fr st->∀{T:β->Prop} {K':OL->Fr->St->β->Prop},(∀x f s,K x f s->∃b,T b/\K' x f s b)->∃b,T b/\Ko P md X nt c rg (K' · · · b) fr st:=by
 induction c with
 |skip=>intro rg K fr st h T K' hk;exact hk _ _ _ h
 |label _=>intro rg K fr st h T K' hk;exact hk _ _ _ h
 |exit id=>intro rg K fr st h T K' hk;exact hk _ _ _ h
 |ret=>intro rg K fr st h T K' hk;exact hk _ _ _ h
 |goto _=>intro rg K fr st h;exact h.elim
 |refuse _=>intro rg K fr st h;exact h.elim
 |rangeFunc _ _ _ _ _ _=>
  intro rg K fr st h;cases rg with
  |false=>exact h.elim
  |true=>
   cases X with
   |old=>exact h.elim
   |jG E=>exact h.elim
   |Hw E=>exact Zq rfl (hX E)
 |region id ops d=>
  intro rg K fr st h T K' hk;cases d with
  |false=>exact yX hX h λf s hh=>hk _ f s hh
  |true=>
   simp only[Ko,sk]at h⊢;cases I0:Go.Ab.Nk ops.toList&&P.follows .mixedOrders with
   |false=>simp only[I0,cond_false]at h
   |true=>
    simp only[I0,cond_true]at h⊢
    exact sN hX (K':=λf l s b=>Hl [] l (Go.Ab.Kz ops.toList [])=false/\K' .normal f s b) h λf l s hh=>by
     obtain⟨b,h1,h2⟩:=hk _ f s hh.2;exact⟨b,h1,hh.1,h2⟩
 |seq a b lG rm=>
  intro rg K fr st h T K' hk
  have:=lG (K':=λx f s b'=>eM (Ko P md X nt b rg (K' · · · b')) (K' · · · b') x f s) h (T:=T) λx f s hh=>by
   cases x with
   |normal=>exact rm hh hk
   |exit id=>exact hk _ _ _ hh
   |ret=>exact hk _ _ _ hh
  exact this
 |cond c a b lG rm=>
  intro rg K fr st h T K' hk;refine T4 h λx hx=>?_;unfold Gs at hx⊢;split at hx
  .rename_i bb;cases bb with
   |true=>
    obtain⟨b',h1,h2⟩:=lG (hx.1 rfl) hk;exact⟨b',h1,(λ_=>h2),AcB⟩
   |false=>
    obtain⟨b',h1,h2⟩:=rm (hx.2 rfl) hk;exact⟨b',h1,AcB,λ_=>h2⟩
  .exact hx.elim
 |block id c ih=>
  intro rg K fr st h T K' hk
  have:=ih (K':=λx f s b'=>Yo id (K' · · · b') x f s) h (T:=T) λx f s hh=>by
   cases x with
   |normal=>exact hk _ _ _ hh
   |exit jz=>
    simp only[Yo]at hh⊢;cases hb:Br jz id with
    |true=>rw[hb]at hh;exact hk _ _ _ hh
    |false=>rw[hb]at hh;exact hk _ _ _ hh
   |ret=>exact hk _ _ _ hh
  exact this
 |loop c ih=>
  intro rg K fr st h T K' hk;obtain⟨n,h⟩:=h
  have key:∀(n:Nat) {fr:Fr} {st:St},Yg (λW=>Ko P md X nt c rg (eM W K)) n fr st->∃b,T b/\Yg (λW=>Ko P md X nt c rg (eM W (K' · · · b))) n fr st:=by
   intro n
   induction n with
   |zero=>intro fr st h;exact h.elim
   |succ n ihn=>
    intro fr st h
    exact ih (K':=λx f s b'=>eM (Yg (λW=>Ko P md X nt c rg (eM W (K' · · · b'))) n) (K' · · · b') x f s) h λx f s hh=>by
     cases x with
     |normal=>exact ihn hh
     |exit id=>exact hk _ _ _ hh
     |ret=>exact hk _ _ _ hh
  obtain⟨b,h1,h2⟩:=key n h;exact⟨b,h1,n,h2⟩
 |scope c ih=>intro rg K fr st h T K' hk;exact ih h hk
end
section
variable(P:Program)
def AIQ(fr:Fr)(st:St):D8->Option PV
 | .tmp t=>some (fr t)
 | .cell a t=>match m6 P t (fr a)with
  |some q=>match q.run st with
   |some p=>some p.1
   |none=>none
  |none=>none
def TN(fr:Fr)(st:St):List D8->Option (LP)
 |[]=>some []
 |r::rs=>match AIQ P fr st r with
  |some v=>match TN fr st rs with
   |some l=>some (v::l)
   |none=>none
  |none=>none
def Lg:LP->PV
 |[v]=>v
 |l=> .tuple l
def YU:PV->Option PV
 | .agg l=>match JC l with
  |some k=>some (.agg k)
  |none=>none
 |v=>v.data
def eW:LP->Option (LP)
 |[]=>some []
 |v::r=>match YU v with
  |some x=>match eW r with
   |some l=>some (x::l)
   |none=>none
  |none=>none
def TV(e:Nat)(st:St):PV->Option PV
 | .tuple l=>match eW l with
  |some k=>some (.tuple k)
  |none=>none
 | .nil=>some (.HL e [])
 | .HL _ []=>some (.HL e [])
 | .HL b GK=>match st.heap b with
  |some (.HE n e')=>bif Br n GK.length&&Br e' e&&GK.all (λr=>Br r.length e)&&DZ 0 e then some (.HL e GK)else none
  |_=>none
 |v=>YU v
def OB(a:PV):Option PV:=match a with
 | .tuple l=>(match eW l with
  |some k=>some (PV.tuple k)
  |none=>none)
 |v=>YU v
def ll(e k:Nat)(rs:List D8)(Q:PV->LLP->Prop):Kx:=λx fr st=>match x with
 | .exit _=>False
 |_=>HA (TN P fr st rs) λl=>HA (bif Br e 0 then OB (Lg l)else TV e st (Lg l)) λr=>HA (Gv st (CS k)) λG9=>Q r G9
def KZ(args:LP):Fr:=λt=>(args[t]?).getD .undef
def MJ(HV:LLP):St:={heap:=λb=>(HV[b]?).map BI,next:=HV.length}
end
end
section
open Go.Ab (Fw OL ZB and_true AAr VB Vo)
section
variable{P:Program} {m:J} {w:World}
def AEh{nt:Nat}{fr:Fr}{tmps:AV0}(MT:FR m nt fr tmps){st:St}(hr:It m st.heap w){r:D8}{x:PV}(h:AIQ P fr st r=some x):
  ∃v,(AAr tmps r).run P w=.ok v w/\VR m x v:=by
 cases r with
 |tmp t=>
  simp only[AIQ,Bh]at h;subst h;exact⟨_,rfl,MT.get t⟩
 |cell a t=>
  simp only[AIQ]at h;split at h
  .rename_i q hq;split at h
   .rename_i p hp;simp at h;subst h;obtain⟨_,v,g1,g2⟩:=pT (P:=P) hr (MT.get a) hq rfl (y:=p.1) (He:=p.2) (by rw[hp]);exact⟨v,Vo g1,g2⟩
   .cases h
  .cases h
def VA{nt:Nat}{fr:Fr}{tmps:AV0}(MT:FR m nt fr tmps){st:St}(hr:It m st.heap w):∀{rs:List D8} {l:LP},TN P fr st rs=some l->
  ∃l',(rs.mapM (AAr tmps)).run P w=.ok l' w/\LC m l l'
 |[],l,h=>by simp[TN]at h;subst h;exact⟨[],AD,.nil⟩
 |r::rs,l,h=>by
  simp only[TN]at h;split at h
  .rename_i v hv;split at h
   .rename_i l' hl;simp at h;subst h;obtain⟨u,g1,g2⟩:=AEh MT hr hv;obtain⟨us,g3,g4⟩:=VA MT hr hl;refine⟨u::us,?_,.cons _ _ _ _ g2 g4⟩;rw[List.mapM_cons,B6,g1];simp only[B6,g3,Result.andThen_ok,Sem.run_pure]
   .cases h
  .cases h
def ku{l:LP}{l':LV}(h:LC m l l'):VR m (Lg l) (if h:l'.toArray.size=1 then l'.toArray[0]else .tuple l'.toArray):=by
 cases h with
 |nil=>exact .tuple _ _ .nil
 |cons a v l l' h1 h2=>
  cases h2 with
  |nil=>exact h1
  |cons b u k k' h3 h4=>
   rw[dif_neg AD];exact .tuple _ _ (.cons _ _ _ _ h1 (.cons _ _ _ _ h3 h4))
def cU{a x:PV}{v:Bk}(hv:VR m a v)(h:YU a=some x):R1 m.K x v:=by unfold YU at h;exact Ad3
def cV:∀{l k:LP} {l':LV},LC m l l'->eW l=some k->R1s m.K k l'
 |[],k,l',hv,h=>by simp[eW]at h;subst h;cases hv;exact .nil
 |a::l,k,l',hv,h=>by
  cases hv with
  |cons _ v _ l' h1 h2=>
   simp only[eW]at h;split at h
   .rename_i x hx;split at h
    .rename_i k' hk;simp at h;subst h;exact .cons _ _ _ _ (cU h1 hx) (cV h2 hk)
    .cases h
   .cases h
def mF{a x:PV}{v:Bk}(hv:VR m a v)(h:OB a=some x)(IW:Nat):RR m.K w IW x v:=by
 unfold OB at h;split at h
 .exact AeW
 .exact .one _ _ (cU hv h)
def zQ{st:St}(hr:It m st.heap w){e:Nat}{a x:PV}{v:Bk}(hv:VR m a v)(h:TV e st a=some x){IW:Nat}(hb:∀b B n e t,m.HE b=some (B,n,e,t)->IW<=B):RR m.K w IW x v:=by
 unfold TV at h;split at h
 .exact AeW
 .simp at h;subst h;cases hv with
  |data _ _ hd=>cases hd;exact .ph e
  |nil=>exact .ph e
 .simp at h;subst h;cases hv with
  |data _ _ hd=>cases hd
  |VV=>exact .ph e
  |HL _ _ _ _ _ _ _ _ _ h0=>simp at h0
 .rename_i b GK Kk;split at h
  .rename_i n e' KT;cases hc:Br n GK.length&&Br e' e&&GK.all (λr=>Br r.length e)&&DZ 0 e with
   |false=>simp[hc]at h
   |true=>
    simp only[hc,cond_true,Bh]at h;subst h;obtain⟨AQe,hc4⟩:=and_true hc;obtain⟨AUi,hc3⟩:=and_true AQe;obtain⟨ZI,Tj⟩:=and_true AUi;have hn:=B5 ZI;have he:=B5 Tj;subst hn he;have JO:∀GG∈GK,GG.length=e':=λGG hm=>B5 (CY.1 hc3 GG hm);rcases yh hr KT (.inr rfl) JO hv with⟨rfl,rfl⟩|⟨h0,B,c,t,ks,vs,ty,rfl,AME,hct,ho,hk,hR,hw,hs,hp⟩
    .exact .ph e'
    .exact .HE GK B e' c ks vs ty (hb _ _ _ _ _ ho) hk hR h0 AME hw (by rw[hs];exact hct)
  .cases h
 .exact .one _ _ (cU hv h)
def O4.box{K:KK}:∀{Bs:LN} {VX:LLP},O4 K w Bs VX->∀(i:Nat) (cs:LP),VX[i]?=some cs->∃B vs ty,Bs[i]?=some B/\K B=none/\w.heap[B]?=some (.cells vs ty (0,0))/\Pk K cs vs.toList
 |_,_,.nil,i,cs,h=>by simp at h
 |_,_,.cons B Oc Bs VX vs ty hK hw hd hr,i,cs,h=>by
  cases i with
  |zero=>simp at h;subst h;exact⟨B,vs,ty,rfl,hK,hw,hd⟩
  |succ i=>simp at h;obtain⟨B',nY,ly,h1,h2⟩:=hr.box i cs h;exact⟨B',nY,ly,by simpa using h1,h2⟩
def rp{K:KK}(hK:ABk K w){Bs:LN}{HV:LLP}(hc:O4 K w Bs HV)(KO:Bs.Nodup):It {box:=λb=>Bs[b]?,HE:=λ_=>none,K:=K} (MJ HV).heap w:=by
 have lN:∀b B,Bs[b]?=some B->∃cs,HV[b]?=some cs:=λb B hb=>by
  have G7:=(Bp.1 hb).1;rw[hc.length]at G7;exact⟨HV[b]'G7,Bc G7⟩
 refine⟨λb o hb=>?_,(λB o ho=>by cases ho),λb n e hb=>?_,hK,λb B hb=>?_,(λb x hb=>by cases hb),λb b' B h1 h2 _ _=>?_,(λ_ _ _ _ _ _ _ _ _ h=>by cases h),λb B hb _=>?_,λb B hb=>?_⟩
 .simp only[MJ,EH]at hb;obtain⟨Oc,h1,rfl⟩:=hb;obtain⟨B,vs,ty,g1,g2,g3,g4⟩:=hc.box b Oc h1;exact⟨B,vs,ty,g1,g3,Pk.vrs (m:={box:=λb=>Bs[b]?,HE:=λ_=>none,K:=K}) g4⟩
 .simp only[MJ,EH]at hb;obtain⟨Oc,_,h2⟩:=hb;cases h2
 .obtain⟨cs,h1⟩:=lN b B hb;exact⟨.box cs,by simp only[MJ];rw[h1];rfl,rfl⟩
 .obtain⟨l1,e1⟩:=Bp.1 h1;obtain⟨l2,e2⟩:=Bp.1 h2;rcases Nat.lt_trichotomy b b' with G7|heq|G7
  .exact Zq (e1.trans e2.symm) (DT.1 KO b b' l1 l2 G7)
  .exact heq
  .exact Zq (e2.trans e1.symm) (DT.1 KO b' b l2 l1 G7)
 .obtain⟨cs,JK⟩:=lN b B hb;obtain⟨B',vs,ty,g1,g2,_⟩:=hc.box b cs JK;have OK:Bs[b]?=some B:=hb;rw[OK]at g1;cases g1;exact g2
 .obtain⟨cs,JK⟩:=lN b B hb;obtain⟨B',vs,ty,g1,_,g3,_⟩:=hc.box b cs JK;have OK:Bs[b]?=some B:=hb;rw[OK]at g1;cases g1;exact(CU.1 g3).1
def AO0{K:KK}{Bs:LN}{a:PV}{v:Bk}(h:AR K Bs a v):VR {box:=λb=>Bs[b]?,HE:=λ_=>none,K:=K} a v:=by
 cases h with
 |data _ _ hd=>exact .data _ _ hd
 |agg l l' hl=>exact .agg _ _ (Pk.vrs (m:={box:=λb=>Bs[b]?,HE:=λ_=>none,K:=K}) hl)
 |GN i B hi=>exact .GN i 0 B hi
def nq{K:KK}{Bs:LN}:∀{l:LP} {l':LV},ARs K Bs l l'->LC {box:=λb=>Bs[b]?,HE:=λ_=>none,K:=K} l l'
 |[],_,.nil=> .nil
 |_::_,_,.cons _ _ _ _ h1 h2=> .cons _ _ _ _ (AO0 h1) (nq h2)
def jJ{args:LP}{HP:LV}(h:LC m args HP)(n:Nat):
  FR m (max args.length n) (KZ args) (HP.toArray++Dh (n-HP.toArray.size) undef):=by
 have hl:=h.length;refine⟨by simp;omega,λt=>?_⟩;unfold KZ;by_cases ht:t<args.length
 .obtain⟨v,g1,g2⟩:=h.get (Bc ht)
  have:(HP.toArray++Dh (n-HP.toArray.size) undef).getD t undef=v:=by
   rw[Cg,Array.getElem?_append_left AB];simp[g1]
  rw[this,Bc ht];exact g2
 .have:(HP.toArray++Dh (n-HP.toArray.size) undef).getD t undef=undef:=by
   rw[Cg,Array.getElem?_append_right AB];simp only[En];split<;>rfl
  rw[this,Ck AA];exact .tuple _ _ .nil
def bE{st:St}:∀{bs:LN} {l:LLP},Gv st bs=some l->l.length=bs.length/\∀(i b:Nat),bs[i]?=some b->∃cs k:LP,st.heap b=some (.box cs)/\JC cs=some k/\l[i]?=some k
 |[],l,h=>by simp[Gv]at h;subst h;exact⟨rfl,λi b hb=>by simp at hb⟩
 |b::bs,l,h=>by
  simp only[Gv]at h;split at h
  .rename_i cs JK;split at h
   .rename_i k hk;split at h
    .rename_i l' hl;simp at h;subst h;obtain⟨h1,h2⟩:=bE hl;refine⟨by simp[h1],λi b' hb=>?_⟩;cases i with
     |zero=>simp at hb;subst hb;exact⟨cs,k,JK,hk,rfl⟩
     |succ i=>simp at hb;obtain⟨Oc,k',g1,g2,g3⟩:=h2 i b' hb;exact⟨Oc,k',g1,g2,by simpa using g3⟩
    .cases h
   .cases h
  .cases h
def O4.AER{K:KK}:∀{Bs:LN} {VX:LLP},Bs.length=VX.length->(∀(i B:Nat) (cs:LP),Bs[i]?=some B->VX[i]?=some cs->K B=none/\∃vs ty,w.heap[B]?=some (.cells vs ty (0,0))/\Pk K cs vs.toList)->O4 K w Bs VX
 |[],[],_,_=> .nil
 |[],_::_,h,_=>by simp at h
 |_::_,[],h,_=>by simp at h
 |B::Bs,cs::VX,hl,h=>by
  obtain⟨h1,vs,ty,h2,h3⟩:=h 0 B cs rfl rfl;exact .cons B cs Bs VX vs ty h1 h2 h3 (O4.AER AaW λi B' Oc hB hc=>h (i+1) B' Oc (by simpa using hB) AZy)
def S6{fn:Dm}{tmps:AV0}{R:Ending->World->Prop}{m m1:J}{w:World}{h:HO}:
  ∀(ds:List FM) {w1:World},Lx m w m1 w1->It m1 h w1->qM w.heap.size m1 w1 ds->(∀w2,Lx m w m1 w2->It m1 h w2->LeavesIn DF 0 P fn tmps R [] .returning w2)->
   LeavesInM DF 0 P fn tmps R ds .returning w1
 |[],w1,he,hr,_,hk=>hk w1 he hr
 |d::ds,w1,he,hr,⟨⟨r,h1,h2,h3,h4,h0,h5⟩,h6⟩,hk=>by
  subst h1;refine⟨(by intro h;cases h),.inl ⟨r,BO w1 r (.deferred none),rfl,?_,?_⟩⟩
  .have Iz:(getObj r).run P w1=.ok (.deferred (some [])) w1:=by simp[getObj,Ek,h3]
   have rf:(setObj r (.deferred none)).run P w1=.ok () (BO w1 r (.deferred none)):=by simp only[setObj,Ek,h3];rfl
   simp only[Instr.takeDeferred,B6,Iz,Result.andThen_ok,rf,Sem.run_pure]
  .obtain⟨g1,g2,g3,g4⟩:=Go.Ab.Mx w1 r _ (.deferred none) h3 AbV AbV;refine S6 ds (m1:=m1) ⟨he.le,by rw[g3];exact he.size,he.cW,he.YP,he.bU,λB hB hn=>?_,he.os,he.output,λa ha=>(g4 a).trans (he.NZ a ha),he.KW⟩ (hr.put h3 rfl Acb rfl h0) ?_ hk
   .rw[g2 B AA];exact he.LU B hB hn
   .have key:∀ds,qM w.heap.size m1 w1 ds->(∀d'∈ds,d'≠({target:=.collected r,args:=#[]}:FM))->qM w.heap.size m1 (BO w1 r (.deferred none)) ds:=by
     intro ds
     induction ds with
     |nil=>intro _ _;trivial
     |cons d0 ds ih=>
      rintro⟨⟨q,k1,k2,k3,k4,k0,k5⟩,k6⟩ Kk;refine⟨⟨q,k1,k2,?_,k4,k0,k5⟩,ih k6 λd' hd'=>Kk d' (Bq _ hd')⟩;rw[g2 q (by rintro rfl;exact Kk d0 Bw k1)];exact k3
    exact key ds h6 h5
def vt{f:B9}{fn:Dm}{c:C5}(PR:P.funcs[f]?=some fn)(hb:fn.body=some c){args:LP}{HV:LLP}{r:PV}{G9:LLP}(e:Nat)
  {md:Bool}(h:Ko P md .old (max args.length fn.ntmps) c true (ll P e HV.length fn.results.toList λr' c'=>r'=r/\c'=G9) (KZ args) (MJ HV)):PC P f args HV r G9:=by
 intro K w Bs HP hK hC KO OU;have hr:=rp hK hC KO;have Mt:=nq OU;have HM:args.length=HP.length:=Mt.length;refine callsIn_of_wp_marks PR hb trivial ?_
 have PS:Gm (MJ HV):=λb hb=>by
  exact AgZ
 refine iz (max args.length fn.ntmps) c none w.heap.size (a:={tmps:=_,defers:=[]}) h trivial hr PS (jJ Mt fn.ntmps) trivial (Bg _) _ λm1 a1 w1 x mY fE e1 r1 f1 _ g1 d1 k1=>?_
 have fin:(HA (TN P mY fE fn.results.toList) λl=>HA (bif Br e 0 then OB (Lg l)else TV e fE (Lg l)) λr'=>HA (Gv fE (CS HV.length)) λc'=>r'=r/\c'=G9)->
   LeavesInM DF 0 P fn a1.tmps (λen w'=>∃K' v,en=.returned v/\tg K w Bs r G9 K' v w') a1.defers .returning w1:=by
  intro hk;obtain⟨l,hl,hk⟩:=Kw hk;obtain⟨r',PU,hk⟩:=Kw hk;obtain⟨c',pD,rfl,rfl⟩:=Kw hk;refine S6 a1.defers e1 r1 d1 λw2 e2 r2=>?_;obtain⟨l',q1,q2⟩:=VA g1 r2 hl;have hv:=ku q2;refine⟨if h:l'.toArray.size=1 then l'.toArray[0]else .tuple l'.toArray,?_,m1.K,_,rfl,?_⟩
  .rw[VB,B6];exact Aes
  .have KT:∀b B n e t,m1.HE b=some (B,n,e,t)->w.heap.size<=B:=by
    intro b B n e t ho;rcases e2.YP b B n e t ho with⟨_,_,_,_,h1⟩|h1
    .cases h1
    .exact h1
   obtain⟨c1,c2⟩:=bE pD;refine⟨e2.le.K,r2.Xp,λB ks Jm G7=>?_,?_,e2.size,λB G7 hn=>e2.LU B G7 ?_,e2.os,e2.output,e2.NZ,?_⟩
   .exact Af3
   .refine O4.AER (by rw[c1,Fe];exact hC.length) λi B cs hB JK=>?_;have hi:i<HV.length:=by rw[<- hC.length];exact(Bp.1 hB).1
    obtain⟨cs0,k,g2,g3,g4⟩:=c2 i i (by rw[List.getElem?_range hi]);rw[JK]at g4;cases g4;obtain⟨B',vs,ty,g5,g6,g7⟩:=r2.box i cs0 g2;have:=e2.le.box i B hB;rw[this]at g5;cases g5;exact⟨r2.bK i B this (by rw[g2];exact MA rfl),vs,ty,g6,g7.Q7 g3⟩
   .rintro(⟨b,hb⟩|⟨b,n,e,t,hb⟩)
    .exact hn (Bn hb)
    .cases hb
   .cases he:Br e 0 with
    |true=>simp only[he,cond_true]at PU;exact mF hv PU _
    |false=>simp only[he,cond_false]at PU;exact zQ r2 hv PU KT
 cases x with
 |normal=>exact fin k1
 |exit id=>exact k1.elim
 |ret=>exact fin k1
def PQ(P:Cf)(f:B9)(args:LP)(HV:LLP)(Q:PV->LLP->Prop):Prop:=∃r G9,PC P f args HV r G9/\Q r G9
def v9{f:B9}{fn:Dm}{c:C5}(PR:P.funcs[f]?=some fn)(hb:fn.body=some c){args:LP}{HV:LLP}{Q:PV->LLP->Prop}(e:Nat)
  {md:Bool}(h:Ko P md .old (max args.length fn.ntmps) c true (ll P e HV.length fn.results.toList Q) (KZ args) (MJ HV)):PQ P f args HV Q:=by
 obtain⟨⟨r,G9⟩,hQ,h'⟩:=iw (β:=PV×LLP) (λE h=>by cases h) c h (T:=λb=>Q b.1 b.2) (K':=λx f s b=>ll P e HV.length fn.results.toList (λr' c'=>r'=b.1/\c'=b.2) x f s) λx f s hx=>by
  have:∀{A:Option (LP)} {B:LP->Option PV} {C:Option (LLP)},(HA A λl=>HA (B l) λr=>HA C λc'=>Q r c')->∃b:PV×LLP,Q b.1 b.2/\HA A λl=>HA (B l) λr=>HA C λc'=>r=b.1/\c'=b.2:=by
   intro A B C h0;obtain⟨l,g1,h1⟩:=Kw h0;obtain⟨r,g2,h2⟩:=Kw h1;obtain⟨c',g3,h3⟩:=Kw h2;exact⟨(r,c'),h3,by simp only[HA,g1,g2,g3,and_self]⟩
  cases x with
  |normal=>exact this hx
  |exit id=>exact hx.elim
  |ret=>exact this hx
 exact⟨r,G9,vt PR hb e h',hQ⟩
def ka(P:Cf)(rs:List D8)(Q:PV->St->Prop):Kx:=λx fr st=>match x with
 | .exit _=>False
 |_=>HA (TN P fr st rs) λl=>Q (Lg l) st
def kq{X:Mode}{f:B9}{fn:Dm}{c:C5}(PR:P.funcs[f]?=some fn)(hb:fn.body=some c){args:LP}{st:St}{Q:PV->St->Prop}{md:Bool}(hf:Gm st)
  (h:Ko P md X (max args.length fn.ntmps) c true (ka P fn.results.toList Q) (KZ args) st):SW X.KW P f args st Q:=by
 intro m w HP hE hr Mt;have HM:args.length=HP.length:=Mt.length;refine callsIn_of_wp_marks PR hb trivial ?_;refine iz (max args.length fn.ntmps) c none w.heap.size (a:={tmps:=_,defers:=[]}) h hE hr hf (jJ Mt fn.ntmps) trivial (Bg _) _ λm1 a1 w1 x mY fE e1 r1 f1 w1' g1 d1 k1=>?_
 have fin:(HA (TN P mY fE fn.results.toList) λl=>Q (Lg l) fE)->LeavesInM DF 0 P fn a1.tmps (ti m w st Q) a1.defers .returning w1:=by
  intro hk;obtain⟨l,hl,hk⟩:=Kw hk;refine S6 a1.defers e1 r1 d1 λw2 e2 r2=>?_;obtain⟨l',q1,q2⟩:=VA g1 r2 hl;refine⟨if h:l'.toArray.size=1 then l'.toArray[0]else .tuple l'.toArray,?_,m1,_,Lg l,fE,rfl,e2,r2,ku q2,w1',f1,hk⟩;rw[VB,B6];exact Aes
 cases x with
 |normal=>exact fin k1
 |exit id=>exact k1.elim
 |ret=>exact fin k1
def nE{A:Option (LP)}{Q:PV->St->Prop}{s:St}(h:HA A λl=>Q (Lg l) s):∃b:PV×St,Q b.1 b.2/\HA A λl=>Lg l=b.1/\s=b.2:=by obtain⟨l,g1,h1⟩:=Kw h;exact⟨(Lg l,s),h1,by simp only[HA,g1,and_self]⟩
def wS{E:VJ}{f:B9}{fn:Dm}{c:C5}(PR:P.funcs[f]?=some fn)(hb:fn.body=some c){args:LP}{st:St}{Q:PV->St->Prop}{md:Bool}(hf:Gm st)(hQ:∀r s,Q r s->HT st s/\Gm s)
  (h:Ko P md (.jG E) (max args.length fn.ntmps) c true (ka P fn.results.toList Q) (KZ args) st):∃r He,SC E P f args st r He/\Q r He:=by
 obtain⟨⟨r,He⟩,hq,h'⟩:=iw (β:=PV×St) (λE h=>by cases h) c h (T:=λb=>Q b.1 b.2) (K':=λx f s b=>ka P fn.results.toList (λr' s'=>r'=b.1/\s'=b.2) x f s) λx f s hx=>by
  cases x with
  |normal=>exact nE hx
  |exit id=>exact hx.elim
  |ret=>exact nE hx
 obtain⟨h1,h2⟩:=hQ r He hq;exact⟨r,He,.AKD (kq (X:=.jG E) PR hb hf h') h1 h2,hq⟩
end
end
section
open Go.Ab (OL)
def pQ(x:Option JJ)(s:St)(k:PV->St->Prop):Prop:=HA x λq=>HA (q.run s) λp=>k p.1 p.2
def I2(x:Option JJ)(s:St)(k:KL):Prop:=HA x λq=>HA (q.run s) λp=>k p.1 p.2 q.rd q.wr
def pC(P:Cf)(X:Mode)(f:B9)(vs:LP)(s:St)(k:PV->St->Prop):Prop:=ig P X true f vs s λv s' _ _=>k v s'
def Nm(P:Cf)(X:Mode)(f:B9)(vs:LP)(s:St)(k:KL):Prop:=ig P X false f vs s k
def Gn(P:Cf)(f:B9)(vs:LP)(s:St)(k:PV->St->Prop):Prop:=pC P .old f vs s k
def Gb(P:Cf)(f:B9)(vs:LP)(s:St)(k:KL):Prop:=Nm P .old f vs s k
def Jz(P:Cf)(X:Mode)(vs:LP)(s:St)(k:PV->St->Prop):Prop:=AP3 P X vs s k
def OJ(P:Cf)(X:Mode)(f:B9)(vs:LP)(s:St)(k:KL):Prop:=ig P X true f vs s k
def H0(x:Option PV):Option JJ:=match x with
 |some v=>some (.val v)
 |none=>none
def HR(x:PV):Option JJ:=match x with
 | .nil=>some (.HE 0 0 λb=> .HL b [])
 |x=>some (.val x)
def Gp(c a b:PV):Option JJ:=match c with
 | .bool c=>some (.val (bif c then a else b))
 |_=>none
def Ht(x:PV):Option JJ:=bif x.cells.all PV.IT then some (.box x.cells λb=> .GN b 0)else none
def xh(cells:LP):List (Option (Nat×Nat)×PV)->Option (LP)
 |[]=>some cells
 |(p,v)::Ju=>match p with
  |none=>none
  |some (off,size)=>bif Br v.cells.length size then(match MU cells off v.cells with
   |some cs=>xh cs Ju
   |none=>none)else none
def Gf(z:LP)(JL:List (Option (Nat×Nat)×PV)):Option JJ:=bif (JL.map Bx).all PV.tE then(match(match xh z JL with
 |some l=>some (PV.agg l)
 |none=>none)with
 |some v=>some (.val v)
 |none=>none)else none
def yu(size:Nat):LP->Option (LLP)
 |[]=>some []
 |v::r=>bif Br v.cells.length size then(match JC v.cells with
  |some GG=>match yu size r with
   |some l=>some (GG::l)
   |none=>none
  |none=>none)else none
def Hu(size:Nat)(l:LP):Option JJ:=match(match yu size l with
 |some GK=>some (PV.GV GK)
 |none=>none)with
 |some v=>some (.val v)
 |none=>none
def GJ(a:PV):Option JJ:=match a with
 | .GN b o=>some (.load b λcs=>cs[o]?)
 | .MP GG o=>match GG[o]? with
  |some v=>some (.val v)
  |none=>none
 |_=>none
def TF(n:Nat)(cs:LP)(o:Nat):Option PV:=if o+n<=cs.length then some (.agg ((cs.drop o).take n))else none
def GM(n:Nat)(a:PV):Option JJ:=match a with
 | .GN b o=>some (.load b λcs=>TF n cs o)
 | .MP GG o=>match TF n GG o with
  |some v=>some (.val v)
  |none=>none
 |_=>none
def Gc(n:Nat)(x a:PV):Option JJ:=match a with
 | .GN b o=>bif Br x.cells.length n&&x.cells.all PV.IT then some (.store b λcs=>MU cs o x.cells)else none
 |_=>none
def HK(x:PV):Option JJ:=match x with
 | .GN b o=>some (.val (.GN b o))
 | .MP r o=>some (.val (.MP r o))
 |_=>none
def HC(P:Cf)(op:BinOp)(t:Bz)(x y:PV):Option JJ:=match SP P op t x y with
 |some v=>some (.val v)
 |none=>none
def JI(op:UnOp)(x:PV):Option JJ:=match unP op x with
 |some v=>some (.val v)
 |none=>none
def G6(k:IntKind)(x:PV):Option JJ:=match(match x with
  | .int _ n=>some (BD k (k.wrap n))
  |_=>none)with
 |some v=>some (.val v)
 |none=>none
def Qy(b:Bool)(l:LP):Option (ON×LP):=match b with
 |false=>some (none,l)
 |true=>match l with
  |v::r=>match Lv v with
   |some n=>some (some n,r)
   |none=>none
  |[]=>none
def AKI(x:PV)(KN NL:ON):Option PV:=match x with
 | .Gh s=>if NL.getD s.size<=s.size/\KN.getD 0<=NL.getD s.size then some (.Gh (s.extract (KN.getD 0) (NL.getD s.size)))else none
 |_=>none
def AEw(size:Nat)(x:PV)(KN NL:ON):Option PV:=match x with
 | .ME b n=>if KN=none/\NL.getD n<=n then some (.ME b (NL.getD n))else none
 |x=>match x.GK with
 |some GK=>if NL.getD GK.length<=GK.length/\KN.getD 0<=NL.getD GK.length/\GK.all (λr=>Br r.length size)=true then some (.GV ((GK.drop (KN.getD 0)).take (NL.getD GK.length-KN.getD 0)))else none
 |none=>none
def Hs(lo hi:Bool)(x:PV)(r:LP):Option JJ:=match Qy lo r with
 |some (lo',r)=>match Qy hi r with
  |some (qU,_)=>(match AKI x lo' qU with
   |some v=>some (.val v)
   |none=>none)
  |none=>none
 |none=>none
def Hq(size:Nat)(lo hi:Bool)(x:PV)(r:LP):Option JJ:=match Qy lo r with
 |some (lo',r)=>match Qy hi r with
  |some (qU,_)=>(match AEw size x lo' qU with
   |some v=>some (.val v)
   |none=>none)
  |none=>none
 |none=>none
def Ho(off:Nat)(x:PV):Option JJ:=match(match x with
  | .GN b o=>some (PV.GN b (o+off))
  | .MP GG o=>some (PV.MP GG (o+off))
  |_=>none)with
 |some v=>some (.val v)
 |none=>none
def JZ(off:Nat)(x:PV):Option JJ:=match(match x with
  | .agg l=>l[off]?
  |_=>none)with
 |some v=>some (.val v)
 |none=>none
def Jd(off n:Nat)(x:PV):Option JJ:=match(match x with
  | .agg l=>TF n l off
  |_=>none)with
 |some v=>some (.val v)
 |none=>none
def Ip(size:Nat)(x i:PV):Option JJ:=match(match Lv i with
  |some i=>match x with
   | .ME b n=>if i<n then some (PV.GN b (i*size))else none
   | .GV GK=>b8 size GK i
   | .HL _ GK=>b8 size GK i
   |_=>none
  |none=>none)with
 |some v=>some (.val v)
 |none=>none
def JN(x i:PV):Option JJ:=match(match Lv i with
  |some i=>match x with
   | .Gh s=>match s[i]? with
    |some b=>some (BD .u8 b.toNat)
    |none=>none
   |_=>none
  |none=>none)with
 |some v=>some (.val v)
 |none=>none
def JW(ix:Nat)(x:PV):Option JJ:=match x with
 | .tuple l=>match l[ix]? with
  |some v=>some (.val v)
  |none=>none
 |_=>none
def G2(x:PV):Option JJ:=match(match x with
  | .Gh s=>some (BD .i64 s.size)
  |_=>none)with
 |some v=>some (.val v)
 |none=>none
def Gq(x:PV):Option JJ:=match(match x with
  | .ME _ n=>some (BD .i64 n)
  |x=>match x.GK with
  |some GK=>some (BD .i64 GK.length)
  |none=>none)with
 |some v=>some (.val v)
 |none=>none
def Hb(size bytes:Nat)(s x:PV):Option JJ:=match x.GK with
 |some xs=>bif xs.all (λr=>Br r.length size)then(match s with
  | .nil=>bif Go.Ab.Im xs.length bytes then some (.HE xs.length size λb=> .HL b xs)else none
  | .ME b n=>bif Go.Ab.Im (n+xs.length) bytes then some (.JD b size (λcs=>if n*size<=cs.length then some (cs.take (n*size)++xs.flatten)else none) λb'=> .ME b' (n+xs.length))else none
  | .HL b GK=>bif Go.Ab.Im (GK.length+xs.length) bytes&&GK.all (λr=>Br r.length size)then some (.push b GK.length size xs.length (.HL b (GK++xs)))else none
  |_=>none)else none
 |none=>none
def II(size bytes:Nat)(s x:PV):Option JJ:=match x.GK with
 |some xs=>bif xs.all (λr=>Br r.length size)then(match s with
  | .nil=>bif Go.Ab.Im xs.length bytes then(match xs with
   |[]=>some (.val .nil)
   |_::_=>some (.K7 size xs.flatten λb=> .ME b xs.length))else none
  | .ME b n=>bif Go.Ab.Im (n+xs.length) bytes then some (.JD b size (λcs=>if n*size<=cs.length then some (cs.take (n*size)++xs.flatten)else none) λb'=> .ME b' (n+xs.length))else none
  | .HL b GK=>bif Go.Ab.Im (GK.length+xs.length) bytes&&GK.all (λr=>Br r.length size)then some (.push b GK.length size xs.length (.HL b (GK++xs)))else none
  |_=>none)else none
 |none=>none
def yv(size:Nat):LP->Option (LLP)
 |[]=>some []
 |v::r=>bif Br v.cells.length size then(match TG v.cells with
  |some GG=>match yv size r with
   |some l=>some (GG::l)
   |none=>none
  |none=>none)else none
def Ia(size:Nat)(l:LP):Option JJ:=match(match yv size l with
 |some GK=>some (PV.GV GK)
 |none=>none)with
 |some v=>some (.val v)
 |none=>none
def IY(size bytes:Nat)(z:LP)(l c:PV):Option JJ:=match Lv l with
 |some l=>match Lv c with
  |some c=>bif Br l c&&Go.Ab.Im c bytes then some (.K7 size (DA l z).flatten λb=> .ME b l)else none
  |none=>none
 |none=>none
def Jq(x y:PV):Option JJ:=match AHt x y with
 |some v=>some (.val v)
 |none=>none
def Q5:List (Option PV)->Option (LP)
 |[]=>some []
 |r::rs=>match r with
  |some v=>match Q5 rs with
   |some l=>some (v::l)
   |none=>none
  |none=>none
def IJ(x:Option JJ)(s:St):Option PV:=match x with
 |some q=>match q.run s with
  |some p=>some p.1
  |none=>none
 |none=>none
def HZ(e n:Nat)(v:PV)(s:St)(Q:PV->LLP->Prop):Prop:=HA (bif Br e 0 then OB v else TV e s v) λr=>HA (Gv s (CS n)) λc=>Q r c
section
variable(P:Program) (md:Bool) (X:Mode) (nt:Nat)
noncomputable abbrev oF(ops r:List CW):Ks->Ks:=
 @List.rec CW (λ_=>Ks->Ks) (λK=>K) (λo _ ih K fr st=>match Go.Ab.M1 nt o.dst with
  |true=>gP P md X true ops o fr st (λv st _ _=>ih K (fr.put o.dst v) st)
  |false=>False) r
noncomputable abbrev oDF(ops r:List CW):(Fr->List Vd->St->Prop)->Ks:=
 @List.rec CW (λ_=>(Fr->List Vd->St->Prop)->Ks) (λK fr st=>K fr [] st) (λo _ ih K fr st=>match Go.Ab.M1 nt o.dst with
  |true=>gP P md X false ops o fr st (λv He rd wr=>ih (λfr l s=>K fr ((rd,wr++H2 st.next He.next)::l) s) (fr.put o.dst v) He)
  |false=>False) r
noncomputable abbrev ASP(ops:List CW)(d:Bool)(K:Ks):Ks:=match d with
 |false=>oF P md X nt ops ops K
 |true=>λfr st=>match Go.Ab.Nk ops&&P.follows .mixedOrders with
  |true=>oDF P md X nt ops ops (λfr l st=>Hl [] l (Go.Ab.Kz ops [])=false/\K fr st) fr st
  |false=>False
noncomputable abbrev eL(B:Ks)(K:Kx):Kx:=λx=>@OL.rec (λ_=>Ks) B (λid=>K (.exit id)) (K .ret) x
noncomputable abbrev nu(id:Nat)(K:Kx):Kx:=λx=>@OL.rec (λ_=>Ks) (K .normal) (λjz=>match Br jz id with
 |true=>K .normal
 |false=>K (.exit jz)) (K .ret) x
noncomputable def j7(body:Ks->Ks)(n:Nat):Ks:=@Nat.rec (λ_=>Ks) (λ_ _=>False) (λ_ w=>body w) n
noncomputable abbrev I6(c:C5):Bool->Kx->Ks:=
 @Code.rec (λ_=>Bool->Kx->Ks) (λ_ K=>K .normal) (λ_ ops d _ K=>ASP P md X nt ops.toList d (K .normal)) (λ_ _ lG rm rg K=>lG rg (eL (rm rg K) K))
  (λc _ _ lG rm rg K f s=>HA (Sw f c) λx=>Gs x (lG rg K f s) (rm rg K f s))
  (λid _ ih rg K=>ih rg (nu id K)) (λ_ ih rg K f s=>∃n,j7 (λw=>ih rg (eL w K)) n f s)
  (λg ps _ _ lG Xy rg K=>match rg with
   |true=>XK P X nt g ps.toList (lG false) (Xy false) K
   |false=>λ_ _=>False) (λid _ K=>K (.exit id)) (λ_ ih=>ih) (λ_ _ K=>K .normal) (λ_ _ _ _ _=>False) (λ_ K=>K .ret) (λ_ _ _ _ _=>False) c
def AJ7(ops:List CW):∀(r:List CW) (K:Ks),oF P md X nt ops r K=oP P md X nt ops r K
 |[],K=>rfl
 |o::r,K=>by
  funext fr st
  show(match Go.Ab.M1 nt o.dst with
   |true=>gP P md X true ops o fr st (λv st _ _=>oF P md X nt ops r K (fr.put o.dst v) st)
   |false=>False)=_
  simp only[oP,AJ7 ops r];cases Go.Ab.M1 nt o.dst<;>rfl
def AEG(ops:List CW):∀(r:List CW) (K:Fr->List Vd->St->Prop),oDF P md X nt ops r K=oDP P md X nt ops r K
 |[],K=>rfl
 |o::r,K=>by
  funext fr st
  show(match Go.Ab.M1 nt o.dst with
   |true=>gP P md X false ops o fr st (λv He rd wr=>oDF P md X nt ops r (λfr l s=>K fr ((rd,wr++H2 st.next He.next)::l) s) (fr.put o.dst v) He)
   |false=>False)=_
  simp only[oDP,AEG ops r];cases Go.Ab.M1 nt o.dst<;>rfl
def AIP(ops:List CW)(d:Bool)(K:Ks):ASP P md X nt ops d K=sk P md X nt ops d K:=by
 cases d with
 |false=>exact AJ7 P md X nt ops ops K
 |true=>
  funext fr st
  show(match Go.Ab.Nk ops&&P.follows .mixedOrders with
   |true=>oDF P md X nt ops ops (λfr l st=>Hl [] l (Go.Ab.Kz ops [])=false/\K fr st) fr st
   |false=>False)=_
  rw[AEG];simp only[sk];cases Go.Ab.Nk ops&&P.follows .mixedOrders<;>rfl
def yy(B:Ks)(K:Kx):eL B K=eM B K:=by funext x;cases x<;>rfl
def zW(id:Nat)(K:Kx):nu id K=Yo id K:=by
 funext x;cases x with
 |exit jz=>
  show(match Br jz id with|true=>K .normal|false=>K (.exit jz))=_;simp only[Yo];cases Br jz id<;>rfl
 |_=>rfl
def sC(b:Ks->Ks):∀n,j7 b n=Yg b n
 |0=>rfl
 |n+1=>by show b (j7 b n)=b (Yg b n);rw[sC b n]
def q6(c:C5):∀rg K,I6 P md X nt c rg K=Ko P md X nt c rg K:=by
 induction c with
 |region id ops d=>intro rg K;exact AIP P md X nt ops.toList d (K .normal)
 |seq a b lG rm=>
  intro rg K;show I6 P md X nt a rg (eL (I6 P md X nt b rg K) K)=Ko P md X nt a rg (eM (Ko P md X nt b rg K) K);rw[rm,yy,lG]
 |cond c a b lG rm=>
  intro rg K;show(λf s=>HA (Sw f c) λx=>Gs x (I6 P md X nt a rg K f s) (I6 P md X nt b rg K f s))=_;rw[lG,rm];rfl
 |block id c ih=>
  intro rg K;show I6 P md X nt c rg (nu id K)=Ko P md X nt c rg (Yo id K);rw[zW,ih]
 |loop c ih=>
  intro rg K;funext f s;show(∃n,j7 (λw=>I6 P md X nt c rg (eL w K)) n f s)=(∃n,Yg (λw=>Ko P md X nt c rg (eM w K)) n f s)
  have:(λw=>I6 P md X nt c rg (eL w K))=λw=>Ko P md X nt c rg (eM w K):=by
   funext w;rw[yy,ih]
  simp only[this,sC]
 |scope c ih=>intro rg K;exact ih rg K
 |skip=>intro rg K;rfl
 |label _=>intro rg K;rfl
 |exit _=>intro rg K;rfl
 |ret=>intro rg K;rfl
 |goto _=>intro rg K;rfl
 |refuse _=>intro rg K;rfl
 |rangeFunc g ps a c lG Xy=>
  intro rg K;cases rg with
  |false=>rfl
  |true=>
   show XK P X nt g ps.toList (I6 P md X nt a false) (I6 P md X nt c false) K=XK P X nt g ps.toList (Ko P md X nt a false) (Ko P md X nt c false) K;have h1:I6 P md X nt a false=Ko P md X nt a false:=by funext K;exact lG false K
   have h2:I6 P md X nt c false=Ko P md X nt c false:=by funext K;exact Xy false K
   rw[h1,h2]
end
section
variable{P:Program} {md:Bool} {X:Mode} {nt:Nat} {rg:Bool}
def Fz{a b:C5}{K:Kx}{B T:Ks}(hb:I6 P md X nt b rg K=B)(ha:I6 P md X nt a rg (eL B K)=T):I6 P md X nt (.seq a b) rg K=T:=by subst hb;exact ha
def GU{c:C5}{id:Nat}{K:Kx}{T:Ks}(h:I6 P md X nt c rg (nu id K)=T):I6 P md X nt (.block id c) rg K=T:=h
abbrev APx(c:Cy)(A B:Ks):Ks:=λf s=>HA (Sw f c) λx=>Gs x (A f s) (B f s)
def I5{c:Cy}{a b:C5}{K:Kx}{A B:Ks}(ha:I6 P md X nt a rg K=A)(hb:I6 P md X nt b rg K=B):I6 P md X nt (.cond c a b) rg K=APx c A B:=by subst ha hb;rfl
def AOF{c:C5}{K:Kx}(L:Nat->Ks)(h0:∀f s,L 0 f s=False)(hs:∀n,I6 P md X nt c rg (eL (L n) K)=L (n+1)):I6 P md X nt (.loop c) rg K=λf s=>∃n,L n f s:=by
 have key:∀n,j7 (λW=>I6 P md X nt c rg (eL W K)) n=L n:=by
  intro n
  induction n with
  |zero=>funext f s;exact(h0 f s).symm
  |succ n ih=>
   show I6 P md X nt c rg (eL (j7 (λW=>I6 P md X nt c rg (eL W K)) n) K)=_;rw[ih,hs]
 funext f s;show(∃n,j7 (λW=>I6 P md X nt c rg (eL W K)) n f s)=_;simp only[key]
def ASt{c:C5}{K:Kx}{T:Ks}(J:Ks)(h:I6 P md X nt c rg K=T)(hJ:∀f s,T f s=J f s):I6 P md X nt c rg K=J:=by rw[h];funext f s;exact hJ f s
def Fx{c:C5}{K:Kx}:I6 P md X nt c rg K=I6 P md X nt c rg K:=rfl
def nI{n:Nat}{HV:LLP}(hn:HV.length=n){f:B9}{fn:Dm}{c:C5}(PR:P.funcs[f]?=some fn)(hb:fn.body=some c){args:LP}{Q:PV->LLP->Prop}(e:Nat){T:Ks}
  (Uq:max args.length fn.ntmps=nt)(ht:I6 P false .old nt c true (ll P e n fn.results.toList Q)=T)(h:T (KZ args) (MJ HV)):PQ P f args HV Q:=
 v9 (md:=false) PR hb e (by rw[Uq,hn,<- q6,ht];exact h)
def Cd(P:Cf)(md:Bool)(X:Mode)(f:B9)(args:LP)(Q:PV->St->Prop)(s:St):Prop:=∃fn c,P.funcs[f]?=some fn/\fn.body=some c/\Ko P md X (max args.length fn.ntmps) c true (ka P fn.results.toList Q) (KZ args) s
def mQ{f:B9}{fn:Dm}{c:C5}(PR:P.funcs[f]?=some fn)(hb:fn.body=some c){args:LP}{s:St}{Q:PV->St->Prop}{T:Ks}
  (Uq:max args.length fn.ntmps=nt)(ht:I6 P md X nt c true (ka P fn.results.toList Q)=T)(h:T (KZ args) s):Cd P md X f args Q s:=
 ⟨fn,c,PR,hb,by rw[Uq,<- q6,ht];exact h⟩
def Cd.sw{f:B9}{args:LP}{s:St}{Q:PV->St->Prop}(h:Cd P md X f args Q s)(hf:Gm s):SW X.KW P f args s Q:=by obtain⟨fn,c,h1,h2,h3⟩:=h;exact kq h1 h2 hf h3
def Cd.sc{E:VJ}{f:B9}{args:LP}{s:St}{Q:PV->St->Prop}(h:Cd P md (.jG E) f args Q s)(hf:Gm s)(hQ:∀r s',Q r s'->HT s s'/\Gm s'):∃r s',SC E P f args s r s'/\Q r s':=by obtain⟨fn,c,h1,h2,h3⟩:=h;exact wS h1 h2 hf hQ h3
def AET(B:Ks):Kx:=λx=>@OL.rec (λ_=>Ks) B (λ_ _ _=>False) (λ_ _=>False) x
def Jc(P:Cf)(X:Mode)(g:PV)(body:PV->(St->Prop)->St->Prop)(K:St->Prop)(st:St):Prop:=match X with
 | .Hw E=>(∀m,E.holds m)/\∃gf VW,∃(I:LP->St->Prop) (R:St->St->Prop) (xs:LP),g=.fn gf VW/\Ms P gf=true/\
  (∀pre x post s,xs=pre++x::post->I pre s->Gm s->body x (λs2=>I (pre++[x]) s2/\R s s2) s)/\
  (∀(E':VJ) (L:Nat),(∀pre x post s,xs=pre++x::post->I pre s->Gm s->YW E' P L [x] s λr s'=>r=.bool true/\I (pre++[x]) s'/\R s s')->SW E' P gf (.yield L::VW) st λ_ s'=>I xs s')/\
  (∀s,I xs s->Gm s->HT st s->K s)
 |_=>False
def yc(B:Ks):(λ(ex:OL) f1 s1=>ex=.normal/\B f1 s1)=AET B:=by
 funext ex f s;cases ex with
 |normal=>exact propext ⟨λh=>h.2,λh=>⟨rfl,h⟩⟩
 |exit _=>exact propext ⟨λh=>(by cases h.1),λh=>h.elim⟩
 |ret=>exact propext ⟨λh=>(by cases h.1),λh=>h.elim⟩
def AKJ{g:Cy}{p:Nat}{ps:Array Tmp}{a b:C5}{K:Kx}(hps:ps.toList=[p])(hp:DZ p nt=true)(gv:Fr->PV)(hg:∀f,Sw f g=some (gv f))(body:Fr->PV->(St->Prop)->St->Prop)
  (hB:∀f x T s,I6 P md X nt a false (AET (I6 P md X nt b false (AET λ_ s2=>T s2))) (f.set p x) s=body f x T s):
  I6 P md X nt (.rangeFunc g ps a b) true K=λf s=>Jc P X (gv f) (body f) (K .normal f) s:=by
 have hp:p<nt:=Go.Ab.cX hp;funext fr st;show XK P X nt g ps.toList (I6 P md X nt a false) (I6 P md X nt b false) K fr st=_;rw[hps]
 have OK:∀(x:PV) (Z:St->Prop) s,I6 P md X nt a false (λex f1 s1=>ex=.normal/\I6 P md X nt b false (λex2 _ s2=>ex2=.normal/\Z s2) f1 s1) (fr.set p x) s=body fr x Z s:=by
  intro x Z s;rw[yc (I6 P md X nt b false λex2 _ s2=>ex2=.normal/\Z s2),yc λ_ s2=>Z s2];exact hB fr x Z s
 unfold Jc XK;cases X with
 |old=>rfl
 |jG E=>rfl
 |Hw E=>
  have one:∀{xs:LP} {pre:LLP} {x:LP} {post:LLP},xs.map (λx=>[x])=pre++x::post->∃AAp x' nH,xs=AAp++x'::nH/\pre=AAp.map (λx=>[x])/\x=[x']/\post=nH.map (λx=>[x]):=by
   intro xs pre
   induction pre generalizing xs with
   |nil=>
    intro x post h;cases xs with
    |nil=>simp at h
    |cons a l=>simp at h;exact⟨[],a,l,rfl,rfl,h.1.symm,h.2.symm⟩
   |cons b pre ih=>
    intro x post h;cases xs with
    |nil=>simp at h
    |cons a l=>
     simp at h;obtain⟨AAp,x',nH,e1,e2,e3,e4⟩:=ih h.2;exact⟨a::AAp,x',nH,by rw[e1];rfl,by rw[e2,<- h.1];rfl,e3,e4⟩
  have lL:∀l:LP,(l.map λx=>[x]).flatten=l:=λl=>by induction l with
   |nil=>rfl
   |cons a l ih=>simp[ih]
  have AO1:∀l:LLP,(∀x,x∈l->x.length=1)->l.flatten.map (λx=>[x])=l:=λl=>by induction l with
   |nil=>intro _;rfl
   |cons a l ih=>
    intro h;obtain⟨y,rfl⟩:=Ez.1 (h a AD);simp[ih λx hx=>h x (Bq _ hx)]
  refine propext ⟨λ⟨h1,gf,VW,I,R,xs,h2,h3,_,h5,h6,h7,h8⟩=>?_,λ⟨h1,gf,VW,I,R,xs,h2,h3,h4,h5,h6⟩=>?_⟩
  .have hl:xs.flatten.map (λx=>[x])=xs:=AO1 xs h5;refine⟨h1,gf,VW,λl=>I (l.map λx=>[x]),R,xs.flatten,by rw[hg]at h2;exact FC h2,h3,λpre x post s hx hI hf=>?_,λE' L hr=>?_,λs hI=>h8 s (by rw[<- hl];exact hI)⟩
   .have Ts:xs=(pre.map λx=>[x])++[x]::(post.map λx=>[x]):=by rw[<- hl,hx];simp
    have:=h6 _ [x] _ s Ts hI hf;simp only[qu]at this;rw[OK]at this;have hc:(pre++[x]).map (λx=>[x])=pre.map (λx=>[x])++[[x]]:=AD;simp only[hc];exact this
   .refine(h7 E' L λpre x post s hx hI hf=>?_).mono λr s h=>by show I (xs.flatten.map λx=>[x]) s;rw[hl];exact h
    have AHV:pre.flatten.map (λx=>[x])=pre:=AO1 pre λy hy=>h5 y (by rw[hx];simp[hy]);obtain⟨y,rfl⟩:=Ez.1 (h5 x Aau);have:=hr pre.flatten y post.flatten s Aau (by show I (pre.flatten.map λx=>[x]) s;rw[AHV];exact hI) hf;have hc:(pre.flatten++[y]).map (λx=>[x])=pre++[[y]]:=by rw[Bu,AHV];rfl
    simpa only[hc]using this
  .refine⟨h1,gf,VW,λl=>I l.flatten,R,xs.map λx=>[x],by rw[hg,h2],h3,by simpa using hp,λx hx=>?_,λpre x post s hx hI hf=>?_,λE' L hr=>?_,λs hI=>h6 s (by simp only[lL]at hI;exact hI)⟩
   .simp at hx;obtain⟨a,_,rfl⟩:=hx;rfl
   .obtain⟨AAp,x',nH,e1,rfl,rfl,rfl⟩:=one hx;simp only[lL]at hI;simp only[qu];rw[OK];simp only[FP,lL,DU,List.flatten_nil,CG];exact h4 AAp x' nH s e1 hI hf
   .simp only[lL];refine h5 E' L λpre x post s hx hI hf=>?_;have:=hr (pre.map λx=>[x]) [x] (post.map λx=>[x]) s Aau (by simp only[lL];exact hI) hf;simpa only[FP,lL,DU,List.flatten_nil,CG]using this
end
section
variable{P:Program} {s s':St} {k:PV->St->Prop} {kl:KL} {x:Option JJ} {q:JJ} {v:PV}
def AWg(h:x=some q)(h2:q.run s=some (v,s'))(hk:k v s'):pQ x s k:=by unfold pQ;rw[h];show HA (q.run s) _;rw[h2];exact hk
def ASK(h:x=some q)(h2:q.run s=some (v,s'))(hk:kl v s' q.rd q.wr):I2 x s kl:=by unfold I2;rw[h];show HA (q.run s) _;rw[h2];exact hk
def GI{f:B9}{vs args:LP}{HV G9:LLP}{r:PV}{bs:LN}(h:PC P f args HV r G9)(h1:JA vs 0=some (args,bs))(h2:Lp bs=true)(h3:Gv s bs=some HV)(h4:G9.length=bs.length)
  (hk:k (JF r (Hc s bs G9)).1 (JF r (Hc s bs G9)).2):Gn P f vs s k:=
 ⟨_,_,bs,⟨args,HV,r,G9,h1,h2,h3,h4,h,rfl⟩,hk⟩
def Gy{f:B9}{vs args:LP}{HV G9:LLP}{r:PV}{bs:LN}(h:PC P f args HV r G9)(h1:JA vs 0=some (args,bs))(h2:Lp bs=true)(h3:Gv s bs=some HV)(h4:G9.length=bs.length)
  (hk:kl (JF r (Hc s bs G9)).1 (JF r (Hc s bs G9)).2 [] bs):Gb P f vs s kl:=
 ⟨_,_,bs,⟨args,HV,r,G9,h1,h2,h3,h4,h,rfl⟩,hk⟩
def ASJ{g:PV}{Po:Bool}{X:(KL)->Prop}(h:dg g Po=some true)(hk:X kl):Ic g Po X kl s:=by unfold Ic;rw[h];exact hk
def Yz{b:Bool}{A B:Prop}(h:b=true)(hk:A):Gs (.bool b) A B:=⟨(λ_=>hk),(λh'=>by rw[h]at h';cases h')⟩
def Yy{b:Bool}{A B:Prop}(h:b=false)(hk:B):Gs (.bool b) A B:=⟨(λh'=>by rw[h]at h';cases h'),(λ_=>hk)⟩
def ANm{e n:Nat}{r:PV}{c:LLP}{Q:PV->LLP->Prop}(h:(bif Br e 0 then OB v else TV e s v)=some r)(h2:Gv s (CS n)=some c)(hk:Q r c):HZ e n v s Q:=by unfold HZ;rw[h];show HA (Gv s (CS n)) _;rw[h2];exact hk
end
end
end Go.Vi
