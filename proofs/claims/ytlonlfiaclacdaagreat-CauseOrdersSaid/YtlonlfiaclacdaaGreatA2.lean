/- Part of the proof of CauseOrders (own work, made small). -/
import Derived.Test.YtlonlfiaclacdaaGreatA1
import Derived.RangeFuncIn
import Derived.OrdersIn
import Derived.RangeFuncLeaves
import Derived.RowKit3
set_option linter.all false
set_option maxRecDepth 100000
open Array renaming all_eq_true_iff_forall_mem->DP,getD_eq_getD_getElem?->CC,getElem?_append_left->EV,getElem?_eq_getElem->Bv,getElem?_eq_some_iff->B4,getElem?_replicate->Dx,getElem?_setIfInBounds->EJ,getElem?_toList->Cq,length_toList->CB,replicate->C9,size_append->DH,toList_map->FF
open Bool renaming and_eq_false_iff->DV,and_eq_true->Bk,false_eq_true->Ch,false_or->Dj,not_eq_true'->DO,or_eq_false_iff->Cn,or_eq_true->DU
open Go renaming Obj->EN,Addr->EW,CallsIn->E7,Code->DA,Deferred->Ed,Exit->EZ,Frame->Gp,Func->Eb,FuncId->CE,MapEntry->DT,Next->Fm,Oper->CI,Operand->Cb,Program->Cc,ResultVar->EG,TypeDesc->DB,TypeId->Bm,TypeInfo->Ex,Value->Bc,asIntOf->EL,beq_toListBytes->EC,binOp->Di,callFunc->DC,callMethod->Ea,cell_of_row->Db,eqGuard->DS,execOp->Ca,fenced_calm->GB,getObj->FM,grownCap->Cj,grownCap_ge->Fe,heap_alloc_new->EK,heap_alloc_old->DE,receiverAt->FX,run_firstCells_some->EY,run_underlying->Bb,setObj->GA,sizeOf->En,typeInfo->Dk,wpOpIn->Eo,zeroValue->EX
open Go.Ab.KF renaming split->BT
open Go.Ab.Tr renaming Lb->BR
open Go.Addr renaming add_lit->Cz
open Go.Builtin renaming append_->Ck,delete_->EI,firstCells->GV,lenOf->FK,len_->Dh,nextslicecap->FQ,zeroCells->CK
open Go.Call renaming operands->Da
open Go.Code renaming region->GH
open Go.Deferred renaming ofValue->CQ
open Go.Fence renaming wide->Cy
open Go.Instr renaming build->Er,endLoop->Fs,endRound->Fg,findKey->DD,findNow->Cm,getLoop->Fp,loadAt->DZ,makeSlice->Dp,mapUpdate->EH,sameBits->D0,sameNow->DN,sureAddr->Cu
open Go.Op renaming operands->C6
open Go.Question renaming forced->Gn
open Go.Region renaming binds->C7,linearise->FG,ready->EE,wanted->Fq
open Go.Sem renaming run->Em,run_bind->Bh
open Go.StepsIn renaming trans->Gq
open Go.Target.collected renaming injEq->Fv
open Go.Value renaming func->FL
open Go.World renaming frozen?->Du,size_alloc->Dz
open Int renaming toNat_natCast->Ce
open List renaming all_eq_true->CV,append_assoc->CN,countP_append->GW,drop_drop->D6,getD->FC,getElem?_append_left->B5,getElem?_append_right->CU,getElem?_drop->Cg,getElem?_eq_getElem->BZ,getElem?_eq_some_iff->Bn,getElem?_take->Cr,length_append->Bf,length_cons->CG,length_map->BX,length_range->ES,length_take->C1,mem_cons->Bz,mem_cons_of_mem->Co,mem_cons_self->C8,mem_range->D7,nil_append->CX,range->Bw,size_toArray->Ci,take_of_length_le->CJ
open Nat renaming add_mul->CW,add_zero->DF,beq->Bo,beq_eq->Ff,ble->Ct,ble_eq_true_of_le->EO,blt->C5,eq_of_beq_eq_true->Bu,le_refl->Bd,le_trans->CD,mul_comm->Ez,mul_le_mul_right->Cf,zero_add->CR,zero_le->ED
open Ne renaming symm->ER
open Option.some renaming injEq->Ba
open Prod.mk renaming injEq->CM
namespace Go.Ab
section
section
variable{P:Program} {m:NO} {w:World}
def World.Ji(w:World)(B:Nat)(o:EN):World:={w with heap:=w.heap.setIfInBounds B o}
def Nv(w:World)(B:Nat)(Jf:Array DT)(HH:Nat)(h:w.heap[B]?=some (.map Jf HH))(o:EN):(GA B o).run P w=.ok () (World.Ji w B o):=by simp only[GA,Em,h];rfl
def L7(w:World)(B:Nat)(o o':EN)(h:w.heap[B]?=some o)(h1:∀c t fr,o≠ .cells c t fr)(h2:∀c t fr,o'≠ .cells c t fr):
  (World.Ji w B o').heap[B]?=some o'/\(∀k,k≠B->(World.Ji w B o').heap[k]?=w.heap[k]?)/\(World.Ji w B o').heap.size=w.heap.size/\
  ∀a,(World.Ji w B o').frozen? a=w.frozen? a:=by
 have hB:B<w.heap.size:=(B4.1 h).1;have e1:(World.Ji w B o').heap[B]?=some o':=by simp[World.Ji,hB]
 have e2:∀k,k≠B->(World.Ji w B o').heap[k]?=w.heap[k]?:=λk hk=>by
  simp only[World.Ji];rw[Array.getElem?_setIfInBounds_ne (ER hk)]
 refine⟨e1,e2,by simp[World.Ji],λa=>?_⟩;by_cases e:a.block=B
 .simp only[Du,e,e1,h];cases o' with
  |cells c t fr=>exact Zq rfl (h2 c t fr)
  |_=>
   cases o with
   |cells c t fr=>exact Zq rfl (h1 c t fr)
   |_=>rfl
 .simp only[Du,e2 _ e]
def fe{h:Nat->Option Obj}(hr:IQ m h w){b B t e:Nat}{es xU:List (AV×AV)}(hb:h b=some (.map es))(hm:m b 0=some (B,t,e))
  {Jf Og:Array DT}{HH Qq:Nat}(hw:w.heap[B]?=some (.map Jf HH))(he:ae m xU Og.toList):
  Jt m w m (World.Ji w B (.map Og Qq))/\IQ m (λx=>if x=b then some (.map xU)else h x) (World.Ji w B (.map Og Qq)):=by
 obtain⟨g1,g2,g3,g4⟩:=L7 w B _ (.map Og Qq) hw AdZ AdZ;obtain⟨hnv,_⟩:=hr.PX b _ hb;refine hr.ALf (NO.le_refl m) (λ_ _ _=>rfl) ⟨0,t,e,hm⟩ (λu B' t' e' hh=>⟨u,t',e',hh⟩) g2 g3 rfl rfl g4 ?_ ⟨_,hb⟩;refine⟨hnv,λB' t' e' hh=>?_⟩;rw[hm]at hh;cases hh;exact⟨Og,Qq,g1,he⟩
def jf{d:DB}{u v:Bc}(h:DN d u v=some true)(hd:(∃k,d=.int k)\/d=.string)(n:Nat):D0 (n+1) v u=true:=by
 rcases hd with⟨k,rfl⟩|rfl
 .cases u<;>cases v<;>simp[DN]at h;obtain⟨h1,h2⟩:=h;simp[D0,h1,h2]
 .cases u<;>cases v<;>simp[DN]at h;rename_i a b;rw[EC]at h;have e:a.toList=b.toList:=by simpa using h
  simp only[D0];rw[EC,e];simp
def ae.length{es:List (AV×AV)}{l:List DT}(h:ae m es l):es.length=l.length:=by
 induction es generalizing l with
 |nil=>cases l with
  |nil=>rfl
  |cons=>exact h.elim
 |cons p es ih=>
  cases l with
  |nil=>exact h.elim
  |cons e' l=>obtain⟨_,_,h3⟩:=h;simp[ih h3]
def wi{d:DB}{k x:AV}{u v:Bc}(hk:VR m k u)(hx:VR m x v):∀{es xU:List (AV×AV)} {l:List DT} (i:Nat),ae m es l->ADs (some d) k x es=some xU->
  (∃j e,Cm d u l i=some (some (i+j,e.val))/\l[j]?=some e/\DN d u e.key=some true/\ae m xU (l.modify j λe=>{e with key:=u,val:=v}))\/
  (Cm d u l i=some none/\∀born,ae m xU (l++[{key:=u,val:=v,born:=born}]))
 |[],xU,[],i,_,h=>by
  simp only[ADs,Ba]at h;subst h;exact .inr ⟨rfl,λ_=>⟨hk,hx,trivial⟩⟩
 |(k',x')::es,xU,e::l,i,⟨h1,h2,h3⟩,h=>by
  simp only[ADs]at h;split at h
  .rename_i he;simp only[Ba]at h;subst h;have hs:=Tb he hk h1;exact .inl ⟨0,e,by simp[Cm,hs],rfl,hs,hk,hx,h3⟩
  .rename_i he;have hs:=Tb he hk h1;split at h
   .rename_i r' XB;simp only[Ba]at h;subst h;rcases wi hk hx (i+1) h3 XB with⟨j,e',g1,g2,g3,g4⟩|⟨g1,g2⟩
    .refine .inl ⟨j+1,e',?_,by simpa using g2,g3,?_⟩
     .exact Aj8
     .simp only[List.modify_succ_cons];exact⟨h1,h2,g4⟩
    .exact .inr ⟨by simp only[Cm,hs,g1],λborn=>⟨h1,h2,g2 born⟩⟩
   .cases h
  .cases h
 |[],_,_::_,_,h,_=>h.elim
 |(_,_)::_,_,[],_,h,_=>h.elim
def uy{d:DB}{k:AV}{u:Bc}(hk:VR m k u):∀{es xU:List (AV×AV)} {l:List DT} (i:Nat),ae m es l->ACs (some d) k es=some xU->
  (∃j v,Cm d u l i=some (some (i+j,v))/\j<l.length/\ae m xU (l.eraseIdx j))\/
  (Cm d u l i=some none/\ae m xU l)
 |[],xU,[],i,_,h=>by
  simp only[ACs,Ba]at h;subst h;exact .inr ⟨rfl,trivial⟩
 |(k',x')::es,xU,e::l,i,⟨h1,h2,h3⟩,h=>by
  simp only[ACs]at h;split at h
  .rename_i he;simp only[Ba]at h;subst h;have hs:=Tb he hk h1;exact .inl ⟨0,e.val,by simp[Cm,hs],AD,h3⟩
  .rename_i he;have hs:=Tb he hk h1;split at h
   .rename_i r' XB;simp only[Ba]at h;subst h;rcases uy hk (i+1) h3 XB with⟨j,v,g1,g2,g3⟩|⟨g1,g2⟩
    .refine .inl ⟨j+1,v,?_,by simp;omega,⟨h1,h2,g3⟩⟩;exact Aj8
    .exact .inr ⟨by simp only[Cm,hs,g1],⟨h1,h2,g2⟩⟩
   .cases h
  .cases h
 |[],_,_::_,_,h,_=>h.elim
 |(_,_)::_,_,[],_,h,_=>h.elim
def zR{d:DB}{x:AV}(h:Nr (some d) x=true):(∃k,d=.int k)\/d=.string:=by
 unfold Nr bU at h;split at h
 .rename_i k0 hd;cases hd;exact .inl ⟨_,rfl⟩
 .rename_i hd;cases hd;exact .inr rfl
 .cases h
def py{t:Bm}{k:AV}(h:Nr (P.underlying t) k=true):∃d,P.underlying t=some d:=by
 cases hd:P.underlying t with
 |none=>rw[hd]at h;simp[Nr,bU]at h
 |some d=>exact⟨d,rfl⟩
def og{s:St}(hr:IQ m s.heap.get w){t kt e:Bm}(ht:XH P t=some (kt,e)){r:Nat}{k x:AV}(ja:Nr (P.underlying kt) k=true)
  {s':St}(h:(n8 r (Rv (ADs (P.underlying kt) k x))).run s=.ok () s'){u v z:Bc}(hm:VR m (.map r) z)(hk:VR m k u)(hx:VR m x v):
  ∃w',(EH t z u v).run P w=.ok () w'/\Jt m w m w'/\IQ m s'.heap.get w':=by
 have hu:=XI ht;obtain⟨d,hd⟩:=py ja;rw[hd]at ja h;obtain⟨o,o',h1,h2,h3,h4⟩:=dR h;cases o with
 |Gy r'=>simp[Rv]at h2
 |loop L=>simp[Rv]at h2
 |map es=>
  simp only[Rv]at h2;split at h2
  .rename_i xU hes;simp only[Ba,CM,true_and]at h2;subst h2;cases hm with
   |map _ B t' e' y8=>
    obtain⟨_,ho⟩:=hr.PX _ _ h1;obtain⟨Jf,HH,Qy,he⟩:=ho B t' e' y8;have JU:=Nt (P:=P) w B Jf HH Qy;have iE:=Qp hd ja hk false w;rcases wi hk hx 0 he hes with⟨j,e1,g1,g2,g3,g4⟩|⟨g1,g2⟩
    .have PN:(Jf.modify j λe=>{e with key:=u,val:=v}).toList=Jf.toList.modify j λe=>{e with key:=u,val:=v}:=AD;obtain⟨k1,k2⟩:=fe (Qq:=HH) hr h1 y8 Qy (Og:=Jf.modify j λe=>{e with key:=u,val:=v}) (by rw[PN];exact g4);refine⟨_,?_,k1,k2.congr λy=>by rw[h3,BR];first|done|rfl⟩
     have APA:((Jf[j]?).map (·.key)).getD u=e1.key:=by
      have:Jf[j]?=some e1:=by simpa using g2
      rw[this];rfl
     have mj:D0 10000 e1.key u=true:=jf g3 (zR ja) 9999;rw[CR]at g1;simp only[EH,Bh,Bb hu,Result.andThen_ok,JU,iE,DD,Bb hd,g1,Sem.run_pure,APA,Instr.keyThatStays,mj,if_true,Nv w B Jf HH Qy]
    .have PN:(Jf.push {key:=u,val:=v,born:=HH}).toList=Jf.toList++[{key:=u,val:=v,born:=HH}]:=AD;obtain⟨k1,k2⟩:=fe (Qq:=HH+1) hr h1 y8 Qy (Og:=Jf.push {key:=u,val:=v,born:=HH}) (by rw[PN];exact g2 _);refine⟨_,?_,k1,k2.congr λy=>by rw[h3,BR];first|done|rfl⟩;simp only[EH,Bh,Bb hu,Result.andThen_ok,JU,iE,DD,Bb hd,g1,Sem.run_pure,Nv w B Jf HH Qy]
  .cases h2
def yP{s:St}(hr:IQ m s.heap.get w){t kt e:Bm}(ht:XH P t=some (kt,e)){r:Nat}{k:AV}(ja:Nr (P.underlying kt) k=true)
  {s':St}(h:(n8 r (Rv (ACs (P.underlying kt) k))).run s=.ok () s'){u z:Bc}(hm:VR m (.map r) z)(hk:VR m k u){KO:Array Bm}(Pp:KO[0]?=some t)(ty:Bm):
  ∃w',(EI KO ty #[z,u]).run P w=.ok (.tuple #[]) w'/\Jt m w m w'/\IQ m s'.heap.get w':=by
 have hu:=XI ht;obtain⟨d,hd⟩:=py ja;rw[hd]at ja h;obtain⟨o,o',h1,h2,h3,h4⟩:=dR h;cases o with
 |Gy r'=>simp[Rv]at h2
 |loop L=>simp[Rv]at h2
 |map es=>
  simp only[Rv]at h2;split at h2
  .rename_i xU hes;simp only[Ba,CM,true_and]at h2;subst h2;cases hm with
   |map _ B t' e' y8=>
    obtain⟨_,ho⟩:=hr.PX _ _ h1;obtain⟨Jf,HH,Qy,he⟩:=ho B t' e' y8;have JU:=Nt (P:=P) w B Jf HH Qy;have iE:=Qp hd ja hk Jf.isEmpty w;have a0:(#[Value.map (some B),u]:AV0)[0]?=some (.map (some B)):=rfl;have a1:(#[Value.map (some B),u]:AV0)[1]?=some u:=rfl;rcases uy hk 0 he hes with⟨j,v,g1,g2,g3⟩|⟨g1,g2⟩
    .have PN:(Jf.eraseIdxIfInBounds j).toList=Jf.toList.eraseIdx j:=by
      have hj:j<Jf.size:=by simpa using g2
      exact Aja
     obtain⟨k1,k2⟩:=fe (Qq:=HH) hr h1 y8 Qy (Og:=Jf.eraseIdxIfInBounds j) (by rw[PN];exact g3);refine⟨_,?_,k1,k2.congr λy=>by rw[h3,BR];first|done|rfl⟩;rw[CR]at g1;exact Ahb
    .obtain⟨k1,k2⟩:=fe (Qq:=HH) hr h1 y8 Qy (Og:=Jf) g2;refine⟨_,?_,k1,k2.congr λy=>by rw[h3,BR];first|done|rfl⟩;exact Ahb
  .cases h2
def zd{s:St}(hr:IQ m s.heap.get w){es:List (AV×AV)}{Jf:Array DT}(HH:Nat)(he:ae m es Jf.toList){b:Nat}{s':St}(h:(newObj (.map es)).run s=.ok b s')(hf:KF s s'):
  ∃m',Jt m w m' (w.alloc (.map Jf HH))/\IQ m' s'.heap.get (w.alloc (.map Jf HH))/\VR m' (.map b) (.map (some w.heap.size)):=by
 obtain⟨rfl,h2,h3⟩:=zf h;have hb:s.heap.get s.next=none:=hf _ (Bd _) AA
 obtain⟨m',h5,h6,h7⟩:=hr.new hb (.map es) (.map Jf HH) 0 0 (by
  intro m' APC Sl Ja;refine⟨λu=>by rw[Sl];split<;>simp_all,λB t e hm=>?_⟩;rw[Sl]at hm;simp only[if_true,Ba,CM]at hm;obtain⟨rfl,rfl,rfl⟩:=hm;exact⟨Jf,HH,Ja,he.mono APC⟩) (KY w _ (λc t fr e=>by cases e))
 exact⟨m',h5,h6.congr λx=>by rw[h2,BR],.map _ _ _ _ h7⟩
def sq{s:St}(hr:IQ m s.heap.get w){t:Bm}{x y:AV}{s':St}(h:(APz P t x).run s=.ok y s'){u:Bc}(hx:VR m x u){KO:Array Bm}(Pp:KO[0]?=some t)(ty:Bm):
  ∃v,(Dh KO ty #[u]).run P w=.ok v w/\VR m y v/\s'.heap=s.heap/\s'.next=s.next:=by
 have a0:(#[u]:AV0)[0]?=some u:=rfl;unfold APz at h;split at h
 .rename_i hu;split at h
  .obtain⟨rfl,rfl⟩:=IS h;cases hx with
   |HK s _ _ e1 e2=>
    refine⟨.int .i64 s.size,by simp[Dh,Pp,Bb hu,goInt],?_,rfl,rfl⟩;rw[e1];exact .int _ _
  .exact AfP
 .rename_i e hu;split at h
  .rename_i b v o n cap;obtain⟨rfl,rfl⟩:=IS h;cases hx with
   |slice _ _ _ _ _ B t' e' c hm g1 g2 g3=>exact⟨.int .i64 n,by simp[Dh,Pp,Bb hu,goInt],.int _ _,rfl,rfl⟩
  .exact Ahg
  .exact AfP
 .rename_i k e hu;split at h
  .exact Ahg
  .rename_i r;obtain⟨es,s1,h1,h2⟩:=I7 h;obtain⟨rfl,rfl⟩:=IS h2;obtain⟨o,g1,g2,g3,g4⟩:=fN h1;cases hx with
   |map _ B t' e' y8=>
    cases o with
    |Gy r'=>simp[Ur]at g2
    |loop L=>simp[Ur]at g2
    |map es0=>
     simp only[Ur,Ba]at g2;subst g2;obtain⟨_,ho⟩:=hr.PX _ _ g1;obtain⟨Jf,HH,Qy,he⟩:=ho B t' e' y8;refine⟨.int .i64 Jf.size,by simp[Dh,Pp,Bb hu,goInt,Nt w B Jf HH Qy],?_,g3,g4⟩;rw[he.length];exact .int _ _
  .exact AfP
 .exact AfP
def VD{s:St}(hr:IQ m s.heap.get w){t:Bm}{l c y:AV}{s':St}(h:(cr P t l c).run s=.ok y s')(hf:KF s s'){u v:Bc}(hl:VR m l u)(hc:VR m c v):
  ∃r w' m',(Dp t u v).run P w=.ok r w'/\Jt m w m' w'/\IQ m' s'.heap.get w'/\VR m' y r:=by
 unfold cr at h;split at h
 .rename_i e he;split at h
  .rename_i size hs;split at h
   .rename_i bytes hby;split at h
    .rename_i ln hln;split at h
     .rename_i cn hcn;cases hb:Ct ln cn&&JE cn bytes with
      |false=>simp only[hb,cond_false]at h;exact(HR h).elim
      |true=>
       simp only[hb,cond_true]at h;obtain⟨MR,MK⟩:=and_true hb;obtain⟨Xp,pV⟩:=and_true MK;have c1:=LO MR;have c3:=LO Xp;have c4:=LO pV;split at h
       .rename_i z hz;obtain⟨b,s1,h1,h2⟩:=I7 h;obtain⟨rfl,rfl⟩:=IS h2;obtain⟨zc,mq,hz2,hz3⟩:=qg (m:=m) (w:=w) hz;obtain⟨m',k1,k2,k3⟩:=XK (ty:=e) hr h1 hf (ABJ hz2 (cn*size) hz3);obtain⟨kl,rfl⟩:=ZM hln hl;obtain⟨kc,rfl⟩:=ZM hcn hc;obtain⟨inf,ma,rfl⟩:=L5 hby;refine⟨.slice (some ⟨w.heap.size,0,none⟩) ln cn,_,m',?_,k1,k2,.slice _ _ _ _ _ _ _ _ _ k3 c1 Ads Ad9⟩
        have zJ:∀n:Nat,n<=140737488355328->IntKind.i64.wrap (n:Int)=(n:Int):=by
         exact Afi
        have e1:=zJ ln AA;have e2:=zJ cn AA
        have htl:¬((inf.bytes:Int)*(cn:Int)>2^48):=by
         have:inf.bytes*cn<=140737488355328:=by rw[Ez];exact c3
         have:((inf.bytes*cn:Nat):Int)<=140737488355328:=AA;rw[Int.natCast_mul]at this;omega
        have vR:(decide ((cn:Int)<0)||decide ((inf.bytes:Int)*(cn:Int)>2^48))=false:=by
         rw[decide_eq_false (by omega:¬((cn:Int)<0)),decide_eq_false htl];rfl
        by_cases h0:cn*size=0
        .rw[Ps h0]at mq;cases mq
         simp only[Dp,Bh,Bb (JF he),Result.andThen_ok,asInt,EL,Sem.run_pure,Dk,run_program,ma,e1,e2,vR,Dj,
          Ce,pure_bind]
         rw[Ng AB];simp only[Bh,run_askRoom,Result.andThen_ok,H0 hs,Ps h0,Ll,Sem.run_pure]
        .rw[Ng h0]at mq;cases da:(EX e).run P w with
         |halt x w1=>rw[Bh,da]at mq;cases mq
         |ok zv w1=>
          rw[Bh,da]at mq;cases mq
          simp only[Dp,Bh,Bb (JF he),Result.andThen_ok,asInt,EL,Sem.run_pure,Dk,run_program,ma,e1,e2,vR,Dj,
           Ce,pure_bind]
          rw[Ng AB];simp only[Bh,run_askRoom,Result.andThen_ok,H0 hs,Ng h0,da,Ll,Sem.run_pure]
       .exact AfP
     .exact AfP
    .exact AfP
   .exact AfP
  .exact AfP
 .exact AfP
end
end
section
section
variable{P:Program} {m:NO} {w:World}
def PB(t t' ty e:Bm)(i:Ex)(d:Bm)(ht:P.underlying t=some (.slice e))(UR:P.underlying t'=some (.slice d))(hi:P.info? e=some i)
  (s:Bc)(Iw:Option EW)(UU dK:Nat)(hs:s=.slice Iw UU dK)(hc:UU<=dK)(x:Bc)(hx:x=.slice none 0 0\/∃a c,x=.slice (some a) 0 c)(w:World):
  (Ck #[t,t'] ty #[s,x]).run P w=.ok s w:=by
 subst hs;rcases hx with rfl|⟨a,c,rfl⟩
 .cases Iw<;>simp[Ck,Bb ht,Bb UR,En,Dk,hi,FK,hc,GV,storeCells]
 .cases Iw<;>simp[Ck,Bb ht,Bb UR,En,Dk,hi,FK,hc,GV,storeCells,loadCells,loadCellsFrom]
def ZW(t t' ty e d:Bm)(i:Ex)(z:Bc)(ht:P.underlying t=some (.slice e))(UR:P.underlying t'=some (.slice d))(hi:P.info? e=some i)(hz:i.zero=some z)
  (a:EW)(n c:Nat)(JX:LV)(hl:JX.length=n*i.size)(jJ:∀j v,JX[j]?=some v->w.cell? (a.add j)=some v)
  (h0:0<n)(h63:(n:Int)<=9223372036854775807)(h48:n*i.bytes<=281474976710656):
  (Ck #[t,t'] ty #[.slice none 0 0,.slice (some a) n c]).run P w=
   .ok (.slice (some ⟨w.heap.size,0,none⟩) n (Cj w n 0 e)) (w.drew.alloc (.cells (JX.toArray++CK z.cells (Cj w n 0 e-n)) e)):=by
 have hn:n≠0:=AA;have AOm:¬(9223372036854775807<(n:Int)):=AA;have AOl:¬(281474976710656<FQ n 0*i.bytes):=by rw[nextslicecap_zero h0];omega
 have hf:=EY (P:=P) w.drew i.size n a n c JX hl (by simpa using jJ);simp[Ck,Bb ht,Bb UR,En,Dk,EX,hi,hz,FK,hn,AOm,AOl,Gn,run_firstCells_none,hf,Go.newRow,Cj]
def TT(t t' ty e d:Bm)(i:Ex)(z:Bc)(ht:P.underlying t=some (.slice e))(UR:P.underlying t'=some (.slice d))(hi:P.info? e=some i)(hz:i.zero=some z)
  (b:EW)(UU dK:Nat)(AHB:LV)(oZ:AHB.length=UU*i.size)(holds:∀j v,AHB[j]?=some v->w.cell? (b.add j)=some v)
  (a:EW)(n c:Nat)(JX:LV)(hl:JX.length=n*i.size)(jJ:∀j v,JX[j]?=some v->w.cell? (a.add j)=some v)
  (hg:dK<UU+n)(h63:((UU+n:Nat):Int)<=9223372036854775807)(Mu:FQ (UU+n) dK*i.bytes<=281474976710656):
  (Ck #[t,t'] ty #[.slice (some b) UU dK,.slice (some a) n c]).run P w=
   .ok (.slice (some ⟨w.heap.size,0,none⟩) (UU+n) (Cj w (UU+n) dK e))
    (w.drew.alloc (.cells (AHB.toArray++JX.toArray++CK z.cells (Cj w (UU+n) dK e-(UU+n))) e)):=by
 have hn:¬(UU+n<=dK):=AA;have AOm:¬(9223372036854775807<((UU:Int)+(n:Int))):=AA;have AOl:¬(281474976710656<FQ (UU+n) dK*i.bytes):=AA;have hf:=EY (P:=P) w.drew i.size n a n c JX hl (by simpa using jJ);have hfo:=EY (P:=P) w.drew i.size UU b UU dK AHB oZ (by simpa using holds);simp[Ck,Bb ht,Bb UR,En,Dk,EX,hi,hz,FK,hn,AOm,AOl,Gn,hf,hfo,Go.newRow,Cj];congr 2;apply Array.ext';simp[CN]
def TU(t t' ty e d:Bm)(i:Ex)(ht:P.underlying t=some (.slice e))(UR:P.underlying t'=some (.slice d))(hi:P.info? e=some i)
  (B o UU dK:Nat)(a:EW)(n c:Nat)(JX:LV)(hl:JX.length=n*i.size)(jJ:∀j v,JX[j]?=some v->w.cell? (a.add j)=some v)
  (Vj:UU+n<=dK){w':World}(KH:(storeCells ⟨B,o+UU*i.size,none⟩ JX 0).run P w=.ok () w'):
  (Ck #[t,t'] ty #[.slice (some ⟨B,o,none⟩) UU dK,.slice (some a) n c]).run P w=.ok (.slice (some ⟨B,o,none⟩) (UU+n) dK) w':=by
 have hf:=EY (P:=P) w i.size n a n c JX hl jJ;simp[Ck,Bb ht,Bb UR,En,Dk,hi,FK,Vj,hf,Cz,KH]
def IQ.ALk{h:Nat->Option Obj}(hr:IQ m h w){b nv:Nat}{o o':Obj}(hb:h b=some o)(Sl:m b nv=none)(PX:EN)(t e:Nat)
  (ho:∀m',m.le m'->(∀u,m' b u=if u=nv then some (w.heap.size,t,e)else m b u)->ag m' (w.alloc PX) b o')
  (TL:∀a,(w.alloc PX).frozen? a=w.frozen? a):
  ∃m',Jt m w m' (w.alloc PX)/\IQ m' (λx=>if x=b then some o' else h x) (w.alloc PX)/\m' b nv=some (w.heap.size,t,e):=by
 let m':NO:=λx u=>if x=b/\u=nv then some (w.heap.size,t,e)else m x u
 have hle:m.le m':=by
  intro x u p hx;show(if x=b/\u=nv then _ else _)=_;by_cases e':x=b/\u=nv
  .obtain⟨rfl,rfl⟩:=e';rw[Sl]at hx;cases hx
  .rw[Ng e'];exact hx
 have Pp:∀u,m' b u=if u=nv then some (w.heap.size,t,e)else m b u:=λu=>by simp[m']
 have NM:∀x u,x≠b->m' x u=m x u:=λx u hx=>by simp[m',hx]
 have Mz:∀x u B t' e',m' x u=some (B,t',e')->(x=b/\B=w.heap.size)\/m x u=some (B,t',e'):=by
  intro x u B t' e' hx;by_cases e1:x=b
  .subst e1;rw[Pp]at hx;split at hx
   .cases hx;exact .inl ⟨rfl,rfl⟩
   .exact .inr hx
  .rw[NM x u e1]at hx;exact .inr hx
 refine⟨m',⟨hle,AD,?_,?_,rfl,rfl,TL⟩,⟨?_,?_,?_,?_⟩,by rw[Pp];simp⟩
 .intro x u B t' e' hx;rcases Mz x u B t' e' hx with⟨_,rfl⟩|h1
  .exact .inr (Bd _)
  .exact .inl ⟨_,_,_,_,h1⟩
 .intro B hB _;exact DE w PX B hB
 .intro x o1 hx;by_cases e1:x=b
  .subst e1;rw[Ps rfl]at hx;cases hx;exact ho m' hle Pp
  .rw[Ng e1]at hx;exact(hr.PX x o1 hx).mono hle (λu=>NM x u e1) λu B t' e' hm=>DE w PX B (hr.lt _ _ _ _ _ hm)
 .intro x u p hx;by_cases e1:x=b
  .subst e1;exact⟨o',AD⟩
  .rw[NM x u e1]at hx;obtain⟨o1,ho1⟩:=hr.dom _ _ _ hx;exact⟨o1,by simp only[Ng e1];exact ho1⟩
 .intro x u B t1 e1 x' u' t2 e2 h1 h2;rcases Mz _ _ _ _ _ h1 with⟨c1,c2⟩|c1
  .rcases Mz _ _ _ _ _ h2 with⟨c3,c4⟩|c3
   .rw[c1,c3]
   .have:=hr.lt _ _ _ _ _ c3;omega
  .rcases Mz _ _ _ _ _ h2 with⟨c3,c4⟩|c3
   .have:=hr.lt _ _ _ _ _ c1;omega
   .exact hr.QF _ _ _ _ _ _ _ _ _ c1 c3
 .intro x u B t1 e1 h1;rw[Dz];rcases Mz _ _ _ _ _ h1 with⟨c1,c2⟩|c1
  .omega
  .have:=hr.lt _ _ _ _ _ c1;omega
def qW(z:AV0)(n:Nat):(CK z n).size=n*z.size:=by simp[CK]
def pU{s:St}(hr:IQ m s.heap.get w){l:List AV}{l':LV}(hl:JT m l l'){size need c:Nat}(II:l.length=need*size)(hc:need<=c){z:AV0}(hz:z.size=size)
  {b:Nat}{s':St}(h:(newObj (mT size l)).run s=.ok b s')(hf:KF s s')(e:Bm):
  ∃m',Jt m w m' (w.drew.alloc (.cells (l'.toArray++CK z (c-need)) e))/\IQ m' s'.heap.get (w.drew.alloc (.cells (l'.toArray++CK z (c-need)) e))/\
   VR m' (.slice b 0 0 need none) (.slice (some ⟨w.heap.size,0,none⟩) need c):=by
 have XB:IQ m s.heap.get w.drew:=hr.drew;have Xs:=hl.length
 obtain⟨m',k1,k2,k3⟩:=ABm (cells:=l'.toArray++CK z (c-need)) (e:=e) (u7:=size) (l:=l) XB rfl h hf (by
  have:(l'.toArray++CK z (c-need)).toList.take l.length=l':=by
   rw[Array.toList_append,Xs];simp
  rw[this];exact hl)
 refine⟨m',(Jt.drew m w).trans k1,k2,.slice _ _ _ _ _ _ _ _ _ k3 hc AeP λ_ _=>?_⟩;rw[DH,qW,hz,Ci,<- Xs,II,<- CW];exact Cf _ AA
def cz(w:World)(need old:Nat)(e:Bm):need<=Cj w need old e:=Fe w need old e
def AIi{s:St}(hr:IQ m s.heap.get w){t t' d e:Bm}{i:Ex}{z:Bc}(ht:P.underlying t=some (.slice e))(UR:P.underlying t'=some (.slice d))(hi:P.info? e=some i)(hz:i.zero=some z)
  (vo:z.cells.size=i.size){x y:AV}{k:Nat}(hk:0<k){JX:List AV}{s':St}(h:(kT i.size i.bytes x k JX).run s=.ok y s')(hf:KF s s')
  {u:Bc}(hx:VR m x u){a:EW}{c:Nat}{M1:LV}(hn:JT m JX M1)(Pz:JX.length=k*i.size)(T6:∀j v,M1[j]?=some v->w.cell? (a.add j)=some v)(ty:Bm):
  ∃r w' m',(Ck #[t,t'] ty #[u,.slice (some a) k c]).run P w=.ok r w'/\Jt m w m' w'/\IQ m' s'.heap.get w'/\VR m' y r:=by
 have zA:M1.length=k*i.size:=by rw[<- hn.length];exact Pz
 unfold kT at h;split at h
 .cases hb:JE k i.bytes with
  |false=>simp only[hb,cond_false]at h;exact(HR h).elim
  |true=>
   simp only[hb,cond_true]at h;obtain⟨b,s1,h1,h2⟩:=I7 h;obtain⟨rfl,rfl⟩:=IS h2;obtain⟨MR,MK⟩:=and_true hb;have c1:=LO MR;have c2:=LO MK;cases hx;have H4:=ZW (w:=w) t t' ty e d i z ht UR hi hz a k c M1 zA T6 hk AA AA;obtain⟨m',k1,k2,k3⟩:=pU hr hn (size:=i.size) (need:=k) Pz (cz w k 0 e) vo h1 hf e;exact⟨_,_,m',H4,k1,k2,k3⟩
 .rename_i b v o len cap;cases hb:JE (len+k) i.bytes with
  |false=>simp only[hb,cond_false]at h;exact(HR h).elim
  |true=>
   simp only[hb,cond_true]at h;obtain⟨MR,MK⟩:=and_true hb;have c1:=LO MR;have c2:=LO MK;cases hx with
   |slice _ _ _ _ _ B tt ee cc hm g1 g2 g3=>
    cases cap with
    |some c0=>
     simp only at h;have:=g2 c0 rfl;subst this;cases hc:Ct (len+k) cc with
     |true=>
      simp only[hc,cond_true]at h;obtain⟨_,s1,h1,h2⟩:=I7 h;obtain⟨rfl,rfl⟩:=IS h2;obtain⟨w',j1,j2,j3⟩:=qd (P:=P) hr h1 hm hn;have hle:=LO hc
      exact⟨_,w',m,TU t t' ty e d i ht UR hi B o len cc a k c M1 zA T6 hle j1,j2,j3,
       .slice _ _ _ _ _ _ _ _ _ hm hle Ads Ad9⟩
     |false=>
      simp only[hc,cond_false]at h
      have y4:cc<len+k:=by
       rcases Nat.lt_or_ge cc (len+k)with h|h
       .exact h
       .rw[EO h]at hc;cases hc
      obtain⟨AHB,s1,h1,h2⟩:=I7 h;obtain⟨b',s2,h3,h4⟩:=I7 h2;obtain⟨rfl,rfl⟩:=IS h4;obtain⟨Q3,j1,j2,j3,_,j5,j6⟩:=VG (P:=P) hr h1 hm;have Mu:=growslice_fits (need:=len+k) (old:=cc) (bytes:=i.bytes) y4 c1;have H4:=TT (w:=w) t t' ty e d i z ht UR hi hz ⟨B,o,none⟩ len cc Q3 j2 j3 a k c M1 zA T6 y4 AA Mu;have VJ:IQ m s1.heap.get w:=by rw[j5];exact hr
      have Nm:KF s1 s':=hf.right h1;obtain⟨m',k1,k2,k3⟩:=pU VJ (j1.append hn) (size:=i.size) (need:=len+k) (by rw[Bf,j1.length,j2,Pz,CW]) (cz w (len+k) cc e) vo h3 Nm e;refine⟨_,_,m',H4,?_,?_,k3⟩
      .rw[show(Q3.toArray++M1.toArray:AV0)=(Q3++M1).toArray by simp];exact k1
      .rw[show(Q3.toArray++M1.toArray:AV0)=(Q3++M1).toArray by simp];exact k2
    |none=>
     simp only at h;cases ho:Bo o 0 with
     |false=>simp only[ho,cond_false]at h;exact(HR h).elim
     |true=>
      simp only[ho,cond_true]at h;have Xb:=Bu ho;subst Xb;obtain⟨v',s1,h1,h2⟩:=I7 h;obtain⟨rfl,rfl⟩:=IS h2;obtain⟨ob,ob',l1,l2,l3,l4⟩:=dR h1;cases ob with
      |map es=>simp[j8]at l2
      |loop L=>simp[j8]at l2
      |Gy r=>
       simp only[j8]at l2;cases hq:r.oT v (len*i.size)&&Bo r.u7 i.size&&JX.all AV.Iu with
       |false=>simp[hq]at l2
       |true=>
        simp only[hq,cond_true,Ba,CM]at l2;obtain⟨rfl,rfl⟩:=l2;obtain⟨AXr,hq3⟩:=and_true hq;obtain⟨hq1,UQ⟩:=and_true AXr;obtain⟨f1,f2⟩:=aA hq1;have AO4:=Bu UQ;obtain⟨p1,p2,p3⟩:=hr.PX b _ l1;obtain⟨q1,cs,ty0,q2,q3,q4⟩:=p3 v B tt ee hm
        have Vh:m b r.nv=none:=by
         cases hmn:m b r.nv with
         |none=>rfl
         |some p=>have:=(p2 r.nv).1 (by rw[hmn];rfl);omega
        have yr:∀j,j<len*i.size->∃a v,r.cells.get j=some a/\cs[j]?=some v/\VR m a v:=λj hj=>
         q4 j AA (by rcases f2 with h|h;exact .inl h;exact .inr AA)
        have AMX:∀(m':NO) (W:World),m.le m'->(∀B',B'≠B->B'<w.heap.size->W.heap[B']?=w.heap[B']?)->
          (∀B0 t0 e0 u0,m b u0=some (B0,t0,e0)->B0=B->∃Ou,W.heap[B]?=some (.cells Ou ty0 (0,0))/\Ou.size=cs.size/\∀j,j<len*i.size->Ou[j]?=cs[j]?)->
          ∀u B' t' e',m b u=some (B',t',e')->u≠r.nv->e'=r.u7/\∃NL ik,W.heap[B']?=some (.cells NL ik (0,0))/\NL.size=t'/\
           ∀j,j<len*i.size+JX.length->(u=r.nv\/j<min r.Mw (len*i.size))->∃a v,(Cs.fill JX (len*i.size) r.cells).get j=some a/\NL[j]?=some v/\VR m' a v:=by
         intro m' W hle hW hWB u B' t' e' hm' MT;obtain⟨w1,NL,ik,w2,w3,w4⟩:=p3 u B' t' e' hm';refine⟨w1,?_⟩
         have hj:∀j,(u=r.nv\/j<min r.Mw (len*i.size))->j<len*i.size/\j<r.Mw:=by
          intro j h;rcases h with h|h
          .exact Zq h MT
          .omega
         by_cases hBB:B'=B
         .subst hBB;obtain⟨Ou,x1,x2,x3⟩:=hWB _ _ _ _ hm' rfl;rw[q2]at w2;cases w2;refine⟨Ou,ty0,x1,by rw[x2];exact w3,λj _ pY=>?_⟩;obtain⟨y1,y2⟩:=hj j pY;obtain⟨a',v',z1,z2,z3⟩:=w4 j AA (.inr y2);refine⟨a',v',?_,by rw[x3 j y1];exact z2,z3.mono hle⟩;rw[Cs.Ve,Ng AA];exact z1
         .refine⟨NL,ik,by rw[hW B' hBB (hr.lt _ _ _ _ _ hm')];exact w2,w3,λj _ pY=>?_⟩;obtain⟨y1,y2⟩:=hj j pY;obtain⟨a',v',z1,z2,z3⟩:=w4 j AA (.inr y2);refine⟨a',v',?_,z2,z3.mono hle⟩;rw[Cs.Ve,Ng AA];exact z1
        by_cases Vj:len+k<=cc
        .have od:len*i.size+M1.length<=cs.toList.length:=by
          have:=g3 rfl rfl;rw[zA,<- CW,CB,q3];rw[q1,AO4]at this;exact CD (Cf _ Vj) this
         have KH:=run_storeCells_at (P:=P) B (len*i.size) ty0 M1 0 cs w q2 AdI (Tk hn hq3);simp only[DF]at KH;obtain⟨x1,x2,x3,x4⟩:=L8 w B cs (cs.toList.take (len*i.size)++M1++cs.toList.drop (len*i.size+M1.length)).toArray ty0 q2;let m':NO:=λx u=>if x=b/\u=r.nv then some (B,tt,ee)else m x u
         have hle:m.le m':=by
          intro x u p hx;show(if x=b/\u=r.nv then _ else _)=_;by_cases e':x=b/\u=r.nv
          .obtain⟨rfl,rfl⟩:=e';rw[Vh]at hx;cases hx
          .rw[Ng e'];exact hx
         have Pp:∀u,m' b u=if u=r.nv then some (B,tt,ee)else m b u:=λu=>by simp[m']
         have AGB:∀j,(cs.toList.take (len*i.size)++M1++cs.toList.drop (len*i.size+M1.length)).toArray[j]?=if len*i.size<=j/\j<len*i.size+M1.length then M1[j-len*i.size]? else cs[j]?:=by
          intro j;rw[List.getElem?_toArray,NJ _ _ _ od];simp
         have key:=hr.ALf (m':=m') (b:=b) (B:=B) (o:=.Gy {r with n:=len*i.size+JX.length,cells:=Cs.fill JX (len*i.size) r.cells,Zv:=r.nv,nv:=r.nv+1,Mw:=min r.Mw (len*i.size)})
          (w':=w.setRow B (cs.toList.take (len*i.size)++M1++cs.toList.drop (len*i.size+M1.length)).toArray)
          hle (λx u hx=>by simp[m',hx]) ⟨v,tt,ee,hm⟩ (λu B' t0 e0 hh=>by
           rw[Pp]at hh;split at hh
           .cases hh;exact⟨v,tt,ee,hm⟩
           .exact⟨u,t0,e0,hh⟩) x2 x3 rfl rfl x4 ?_ ⟨_,l1⟩
         .refine⟨_,_,m',TU t t' ty e d i ht UR hi B 0 len cc a k c M1 zA T6 Vj Acy,key.1,key.2.congr λy=>by rw[l3,BR],?_⟩;refine .slice _ _ _ _ _ B tt ee cc (by rw[Pp];simp) Vj AeP λ_ _=>g3 rfl rfl
         .refine⟨AD,λu=>?_,λu B' t0 e0 hh=>?_⟩
          .exact AiG
          .rw[Pp]at hh;split at hh
           .rename_i hu;cases hh;refine⟨q1,_,ty0,x1,?_,?_⟩
            .rw[<- q3];simp only[Ci,KP _ _ _ od,CB]
            .intro j hj _;simp only at hj;rw[AGB,Cs.Ve];by_cases T9:len*i.size<=j
             .rw[Ps ⟨T9,by have:=hn.length;omega⟩,Ps ⟨T9,by have:=hn.length;omega⟩];exact Agj
             .rw[Ng AA,Ng AA];exact AjE
           .rename_i hu;exact AMX m' _ hle (λB'' AWZ _=>x2 B'' AWZ) (λB0 t0' e0' u0 hh0 hB0=>⟨_,x1,by simp only[Ci,KP _ _ _ od,CB],λj hj=>by rw[AGB,Ng AA]⟩) u B' t0 e0 hh hu
        .have y4:cc<len+k:=AA;have Mu:=growslice_fits (need:=len+k) (old:=cc) (bytes:=i.bytes) y4 c1;let Q3:LV:=cs.toList.take (len*i.size)
         have vZ:Q3.length=len*i.size:=by
          simp only[Q3,C1,CB];rcases Nat.eq_zero_or_pos (len*i.size)with h0|h0
          .omega
          .obtain⟨_,_,_,y2,_⟩:=yr (len*i.size-1) AA;have:=(B4.1 y2).1;omega
         have AMW:∀j,j<len*i.size->Q3[j]?=cs[j]?:=λj hj=>by simp only[Q3,Cr,Ps hj];simp
         have mf:∀j v,Q3[j]?=some v->w.cell? ((⟨B,0,none⟩:EW).add j)=some v:=by
          intro j v hv;have hj:j<len*i.size:=by rw[<- vZ];exact(Bn.1 hv).1
          rw[Cz,CR,Db w B j cs ty0 (0,0) q2,<- AMW j hj];exact hv
         have H4:=TT (w:=w) t t' ty e d i z ht UR hi hz ⟨B,0,none⟩ len cc Q3 vZ mf a k c M1 zA T6 y4 AA Mu;have VJ:IQ m s.heap.get w.drew:=hr.drew;have hge:=cz w (len+k) cc e
         have N1:(Q3.toArray++M1.toArray++CK z.cells (Cj w (len+k) cc e-(len+k))).size=Cj w (len+k) cc e*i.size:=by
          rw[DH,DH,qW,vo,Ci,Ci,vZ,zA,<- CW,<- CW];congr 1;omega
         obtain⟨m',k1,k2,k3⟩:=VJ.ALk (o':=.Gy {r with n:=len*i.size+JX.length,cells:=Cs.fill JX (len*i.size) r.cells,Zv:=r.nv,nv:=r.nv+1,Mw:=min r.Mw (len*i.size)}) l1 Vh
          (.cells (Q3.toArray++M1.toArray++CK z.cells (Cj w (len+k) cc e-(len+k))) e) (Cj w (len+k) cc e*i.size) r.u7 (by
           intro m' hle Pp;refine⟨AD,λu=>?_,λu B' t0 e0 hh=>?_⟩
           .exact AiG
           .rw[Pp]at hh;split at hh
            .rename_i hu;cases hh;refine⟨rfl,_,e,EK _ _,N1,?_⟩;intro j hj _;simp only at hj;rw[Cs.Ve];have WB:j<(Q3++M1).length:=by rw[Bf,vZ,<- hn.length];exact hj
             have jZ:(Q3.toArray++M1.toArray++CK z.cells (Cj w (len+k) cc e-(len+k)))[j]?=(Q3++M1)[j]?:=by
              rw[show(Q3.toArray++M1.toArray:AV0)=(Q3++M1).toArray by simp];rw[EV AcU];simp
             rw[jZ];by_cases T9:len*i.size<=j
             .rw[Ps ⟨T9,hj⟩,CU AA,vZ];exact Agj
             .rw[Ng AA,B5 AA,AMW j AA];exact AjE
            .rename_i hu;exact AMX m' _ hle (λB'' _ H5=>DE w.drew _ B'' H5) (λB0 t0' e0' u0 hh0 hB0=>⟨cs,by rw[DE w.drew _ B (hr.lt _ _ _ _ _ hm)];exact q2,rfl,λj hj=>rfl⟩) u B' t0 e0 hh hu)
          (KY _ _ Adr)
         refine⟨_,_,m',H4,(Jt.drew m w).trans k1,k2.congr λy=>by rw[l3,BR],?_⟩;refine .slice _ _ _ _ _ w.heap.size (Cj w (len+k) cc e*i.size) r.u7 _ k3 hge AeP (λ_ _=>by rw[AO4];exact Bd _)
 .exact AfP
def AGY{h:Nat->Option Obj}(hr:IQ m h w){t t' d e:Bm}{i:Ex}(ht:P.underlying t=some (.slice e))(UR:P.underlying t'=some (.slice d))(hi:P.info? e=some i){x y:AV}
  (hk:wF x=some y){u v:Bc}(hx:VR m x u)(hv:v=.slice none 0 0\/∃a c,v=.slice (some a) 0 c)(ty:Bm):
  ∃r w' m',(Ck #[t,t'] ty #[u,v]).run P w=.ok r w'/\Jt m w m' w'/\IQ m' h w'/\VR m' y r:=by
 unfold wF at hk;split at hk
 .simp only[Ba]at hk;subst hk;cases hx;exact⟨_,w,m,PB t t' ty e i d ht UR hi _ none 0 0 rfl (Bd _) v hv w,Jt.refl m w,hr,.LX⟩
 .simp only[Ba]at hk;subst hk;have US:=hx;cases hx with
  |slice _ _ _ _ _ B tt ee cc hm g1 g2 g3=>
   exact⟨_,w,m,PB t t' ty e i d ht UR hi _ _ _ _ rfl g1 v hv w,Jt.refl m w,hr,US⟩
 .cases hk
def xp{s:St}(hr:IQ m s.heap.get w){t t' d:Bm}(UR:P.underlying t'=some (.slice d)){x y n:AV}{s':St}(h:(qu P t x n).run s=.ok y s')(hf:KF s s')
  {u v:Bc}(hx:VR m x u)(hn:VR m n v)(ty:Bm):
  ∃r w' m',(Ck #[t,t'] ty #[u,v]).run P w=.ok r w'/\Jt m w m' w'/\IQ m' s'.heap.get w'/\VR m' y r:=by
 unfold qu at h;split at h
 .rename_i e he;have ht:=JF he;split at h
  .rename_i size hs;obtain⟨i,hi,N1⟩:=PG hs;split at h
   .rename_i bytes hby;obtain⟨i',VI,iD⟩:=L5 hby;rw[hi]at VI;cases VI;split at h
    .rename_i z hz;obtain⟨i2,zv,O4,da,hzc⟩:=oA hz;rw[hi]at O4;cases O4;cases hl:Bo z.cells.length (size+1)with
     |false=>simp only[hl,cond_false]at h;exact(HR h).elim
     |true=>
      simp only[hl,cond_true]at h
      have vo:zv.cells.size=i.size:=by
       have:=(WI (m:=m) hzc).cells.length;exact AkH
      have Vh:∀(y':AV),(qD (wF x)).run s=.ok y' s'->(v=.slice none 0 0\/∃a c,v=.slice (some a) 0 c)->∃r w' m',(Ck #[t,t'] ty #[u,v]).run P w=.ok r w'/\Jt m w m' w'/\IQ m' s'.heap.get w'/\VR m' y' r:=by
       intro y' h hv;obtain⟨hk,rfl⟩:=tL h;exact AGY hr ht UR hi hk hx hv ty
      split at h
      .cases hn;exact Vh y h (.inl rfl)
      .cases hn with
       |slice _ _ _ _ _ B tt ee cc hm g1 g2 g3=>exact Vh y h (.inr ⟨_,_,rfl⟩)
      .rename_i b ver o k cap;obtain⟨JX,s1,h1,h2⟩:=I7 h;cases hn with
       |slice _ _ _ _ _ B tt ee cc hm g1 g2 g3=>
        obtain⟨M1,j1,j2,j3,_,j5,j6⟩:=VG (P:=P) hr h1 hm;have VJ:IQ m s1.heap.get w:=by rw[j5];exact hr
        have Nm:KF s1 s':=hf.right h1;rw[show size+1=i.size from N1.symm,<- iD]at h2;exact AIi VJ ht UR hi da vo AA h2 Nm hx j1 (by rw[j1.length,j2,N1]) j3 ty
      .exact AfP
    .exact AfP
   .exact AfP
  .exact AfP
 .exact AfP
end
end
section
def Fw(ro:ON):Fence:={Cy with round:=ro}
def qi(m:NO)(w:World)(s':St)(v:AV):Ending->World->Prop:=λe w'=>
 ∃m' v',e=.returned v'/\Jt m w m' w'/\IQ m' s'.heap.get w'/\VR m' v v'
structure dh (P:Cc) (ev:ah->M AV):Prop where
 call:∀f args s v s',(ev (.call f args)).run s=.ok v s'->∀m w HW,IQ m s.heap.get w->JT m args HW->KF s s'->
  E7 Cy 0 P f HW.toArray w (qi m w s' v)
 round:∀l args s v s',(ev (.round l args)).run s=.ok v s'->∀m w HW,IQ m s.heap.get w->JT m args HW->KF s s'->∀B t e,m l 0=some (B,t,e)->
  ∃r:Loop,w.heap[B]?=some (.loop r)/\HW.length=r.params.size/\
   RoundIn Cy 0 P B r.fn ((r.params.zip HW.toArray).foldl (λtmps (t,a)=>tmps.setIfInBounds t a) r.tmps) r.assign r.body w (qi m w s' v)
section
variable{P:Program} {m:NO} {w:World} {ev:ah->M AV}
def OH(P:Cc)(ro:ON)(m:NO)(w:World)(s':St)(y:AV)(r:Result Fm):Prop:=
 ∀(o:CI) (a:Act) (K:Act->World->Prop) (Q:QX),
  (∀m' v' w',Jt m w m' w'->IQ m' s'.heap.get w'->VR m' y v'->K (a.put o.dst v') w')->o.uponIn (Fw ro) 0 P a K Q r
def Ht{ro:ON}{s':St}{y:AV}{v:Bc}{w':World}{m':NO}(h1:Jt m w m' w')(h2:IQ m' s'.heap.get w')(h3:VR m' y v):
 OH P ro m w s' y (.ok (.value v) w'):=λ_ _ _ _ hK=>hK _ _ _ h1 h2 h3
def SM{ro:ON}{s':St}{w':World}{m':NO}(h1:Jt m w m' w')(h2:IQ m' s'.heap.get w'):
 OH P ro m w s' RY (.ok .skip w'):=λ_ _ _ _ hK=>hK _ _ _ h1 h2 (.tuple [] [] .nil)
def tD{ro:ON}{s':St}{y:AV}{f:CE}{args:AV0}(h:E7 Cy 0 P f args w (qi m w s' y)):
  OH P ro m w s' y (.ok (.enter f args) w):=by
 intro o a K Q hK;refine⟨λh=>by simp[Fw,Cy]at h,?_⟩;have h':E7 (Fw ro) (0-1) P f args w (qi m w s' y):=h;refine h'.mono ?_;exact AhO
def tE{ro:ON}{s':St}{y:AV}{l:Nat}{f:CE}{tmps:AV0}{assign body:DA}(h:RoundIn Cy 0 P l f tmps assign body w (qi m w s' y)):
  OH P ro m w s' y (.ok (.round l f tmps assign body) w):=by
 intro o a K Q hK;refine⟨λh=>by simp[Fw,Cy]at h,?_⟩;have h':RoundIn (Fw ro) (0-1) P l f tmps assign body w (qi m w s' y):=h;refine h'.mono ?_;exact AhO
def Zz(bN:dh P ev){s:St}(hr:IQ m s.heap.get w){f:CE}{args:List AV}{y:AV}{s':St}
  (h:(gh P ev f args).run s=.ok y s')(hf:KF s s'){HW:LV}(ha:JT m args HW)(ro:ON):
  OH P ro m w s' y ((DC f HW.toArray).run P w):=by
 unfold gh at h;split at h
 .rename_i fn QU;split at h
  .rename_i c hb;cases hn:fn.name== "runtime.NumGoroutine"with
   |true=>simp only[hn,cond_true]at h;exact(HR h).elim
   |false=>
    simp only[hn,cond_false]at h
    have H4:(DC f HW.toArray).run P w=.ok (.enter f HW.toArray) w:=by
     simp only[DC,Bh,run_program,Result.andThen_ok,QU,hn,Ch,if_false,hb,Option.isNone_some];rfl
    rw[H4];exact tD (bN.call f args s y s' h m w HW hr ha hf)
  .rename_i hb;exact AfP
 .exact AfP
def uf(bN:dh P ev){s:St}(hr:IQ m s.heap.get w){f:AV}{args:List AV}{y:AV}{s':St}
  (h:(rP P ev f args).run s=.ok y s')(hf:KF s s'){fv:Bc}{HW:LV}(hfv:VR m f fv)(ha:JT m args HW)(ro:ON):
  OH P ro m w s' y ((do let d<-CQ fv HW.toArray;invoke d.target d.args:Sem Fm).run P w):=by
 unfold rP at h;split at h
 .rename_i g first K8
  cases hfv with
  |func _ _ _ fs cs _ h1 h2=>
   have H4:(do let d<-CQ (.func (.func g) fs.toArray cs.toArray) HW.toArray;invoke d.target d.args:Sem Fm).run P w=(DC g (fs++HW++cs).toArray).run P w:=by
    simp only[CQ,pure_bind,invoke];simp
   rw[H4];exact Zz bN hr h hf ((h1.append ha).append h2) ro
 .rename_i l;cases hfv with
  |func _ _ _ fs cs RT _ _=>exact Zq rfl (RT l)
  |yield _ B t e hm=>
   obtain⟨r,h1,h2,h3⟩:=bN.round l args s y s' h m w HW hr ha hf B t e hm;have JU:(FM B).run P w=.ok (.loop r) w:=by simp[FM,Em,h1]
   have H4:(do let d<-CQ (.func (.yield B) #[] #[]) HW.toArray;invoke d.target d.args:Sem Fm).run P w=
     .ok (.round B r.fn ((r.params.zip HW.toArray).foldl (λtmps (t,a)=>tmps.setIfInBounds t a) r.tmps) r.assign r.body) w:=by
    exact Ag4
   rw[H4];exact tE h3
 .exact AfP
def RV{t:Bm}{name:String}{f:CE}{pr:Bool}{el:Option Bm}(h:Rr P t name=some (f,pr,el)):
  ∃i mt,P.info? t=some i/\i.methods.find? (·.name==name)=some mt/\mt.path.isEmpty=true/\mt.func=some (f,pr)/\
   (∃d,P.underlying t=some d/\((∃e,d=.pointer e/\el=some e)\/((∀e,d≠ .pointer e)/\el=none))):=by
 unfold Rr at h;split at h
 .rename_i i hi;split at h
  .rename_i mt tw;cases hp:mt.path.isEmpty with
   |false=>simp[hp]at h
   |true=>
    simp only[hp,cond_true]at h;split at h
    .rename_i f' pr' QU;split at h
     .rename_i e hu;simp only[Ba,CM]at h;obtain⟨rfl,rfl,rfl⟩:=h;exact⟨i,mt,hi,tw,hp,QU,_,hu,.inl ⟨e,rfl,rfl⟩⟩
     .rename_i d RT hu;simp only[Ba,CM]at h;obtain⟨rfl,rfl,rfl⟩:=h;exact⟨i,mt,hi,tw,hp,QU,d,hu,.inr ⟨λe he=>RT e he,rfl⟩⟩
     .cases h
    .cases h
  .cases h
 .cases h
def zN(bN:dh P ev){s:St}(hr:IQ m s.heap.get w){r:AV}{name:String}{args:List AV}{y:AV}{s':St}
  (h:(sn P ev r name args).run s=.ok y s')(hf:KF s s'){rv:Bc}{HW:LV}(hrv:VR m r rv)(ha:JT m args HW)(ro:ON):
  OH P ro m w s' y ((Ea rv name HW.toArray).run P w):=by
 unfold sn at h;split at h
 .rename_i t x;cases hrv with
  |iface _ _ v hv=>
   have Yy:∀(f:CE) (pr:Bool) (el:Option Bm),Rr P t name=some (f,pr,el)->(∀rv',(Go.receiverAt t (.val v) pr (some ((name.splitOn ".").getLastD name))).run P w=.ok rv' w->
     (Ea (.iface t v) name HW.toArray).run P w=(DC f (rv'::HW).toArray).run P w):=by
    intro f pr el hm rv' APZ;obtain⟨i,mt,hi,tw,hp,QU,_⟩:=RV hm
    have au:mt.path.toList=[]:=by
     exact AkN
    have Yy:(Go.method (P.types.size+Made.depth) t v name).run P w=.ok (f,rv') w:=by
     exact Af3
    exact Ajd
   split at h
   .rename_i f e hm;obtain⟨_,_,_,_,_,_,d,hd,hc⟩:=RV hm;obtain⟨e',rfl,_⟩:=hc.resolve_right Abq;rw[Yy f true (some e) hm v Acz];exact AkL
   .rename_i f hm;obtain⟨_,_,_,_,_,_,d,hd,hc⟩:=RV hm;obtain⟨RT,_⟩:=hc.resolve_left AdE
    rw[Yy f false none hm v (by
     simp only[FX,Bh,Bb hd,Result.andThen_ok];cases d<;>first|(exact Zq rfl (RT _))|rfl)]
    exact AkL
   .rename_i f e hm;obtain⟨_,_,_,_,_,_,d,hd,hc⟩:=RV hm;obtain⟨e',rfl,he⟩:=hc.resolve_right Abq;cases he;obtain⟨x',s1,h1,h2⟩:=I7 h;obtain⟨v',g1,g2,g3,g4⟩:=m9 (P:=P) hr h1 hv;have VJ:IQ m s1.heap.get w:=by rw[g3];exact hr
    obtain⟨av,hav⟩:∃av,v=.pointer (some av):=by
     cases hv<;>first|exact⟨_,rfl⟩|(exfalso;simp only[p6]at h1;exact HR h1)
    subst hav
    rw[Yy f false (some e) hm v' (by
     simp only[DZ,Cu,pure_bind]at g1;have AOy:∀nm,Builtin.ssaWrapNilChk_ #[t] t #[Value.pointer (some av),strVal "",strVal nm]=pure (.pointer (some av)):=λnm=>rfl;simp only[FX,Bh,Bb hd,Result.andThen_ok,Place.get,Sem.run_pure,AOy,asAddr,g1])]
    exact Zz bN VJ h2 (hf.right h1) (.cons _ _ _ _ g2 ha) ro
   .exact AfP
 .exact AfP
end
end
section
section
variable{P:Program} {m:NO} {w:World} {ev:ah->M AV}
def ME{ρ:Cb->Bc}{o:CI}{c:Sem Bc}(he:Ca ρ o=(do pure (.value (<- c)))){v:Bc}{w':World}(hc:c.run P w=.ok v w'):
 (Ca ρ o).run P w=.ok (.value v) w':=by rw[he,Bh,hc];rfl
def TY{ρ:Cb->Bc}{o:CI}{c:Sem Unit}(he:Ca ρ o=(do c;pure .skip)){w':World}(hc:c.run P w=.ok () w'):
 (Ca ρ o).run P w=.ok .skip w':=by rw[he,Bh,hc];rfl
def RZ{a:AV}{l:List AV}{v:Bc}(h:JT m l [v])(e:l=[a]):VR m a v:=by subst e;cases h with|cons _ _ _ _ h1 _=>exact h1
def Xn{a b:AV}{u v:Bc}(h:JT m [a,b] [u,v]):VR m a u/\VR m b v:=AiK
def AH6{a b c:AV}{u v x:Bc}(h:JT m [a,b,c] [u,v,x]):VR m a u/\VR m b v/\VR m c x:=Aj1
def Pr{ro:ON}{s:St}(hr:IQ m s.heap.get w){x:Option AV}{y:AV}{s':St}(h:(qD x).run s=.ok y s'){ρ:Cb->Bc}{o:CI}{c:Sem Bc}
  (he:Ca ρ o=(do pure (.value (<- c))))(hc:∀y,x=some y->∃v,c.run P w=.ok v w/\VR m y v):OH P ro m w s' y ((Ca ρ o).run P w):=by
 obtain⟨rfl,rfl⟩:=tL h;obtain⟨v,h1,h2⟩:=hc _ rfl;rw[ME he h1];exact Aiy
def UM{ρ:Cb->Bc}:∀{Iv:List (Nat×Cb)} {vs:List AV},JT m vs (Iv.map λp=>ρ p.2)->XV m (fh Iv vs) (Iv.map λ(i,x)=>(i,ρ x))
 |[],vs,h=>by cases h;trivial
 |(i,o)::r,vs,h=>by
  cases h with
  |cons a v l l' h1 h2=>exact⟨rfl,h1,UM h2⟩
def PH{ρ:Cb->Bc}{o:Option Cb}{l:List AV}{Jl:LV}(h:JT m l ((o.map ρ).toList++Jl)){n:ON}{r:List AV}(ht:aX o l=some (n,r)):
  MN n (o.map ρ)/\JT m r Jl:=by
 cases o with
 |none=>
  simp only[aX,Ba,CM]at ht;obtain⟨rfl,rfl⟩:=ht;exact⟨trivial,h⟩
 |some x=>
  simp only[aX]at ht;split at ht
  .rename_i a r';split at ht
   .rename_i k hk;simp only[Ba,CM]at ht;obtain⟨rfl,rfl⟩:=ht;cases h with
    |cons _ v _ l' h1 h2=>
     exact⟨by obtain⟨q,hq⟩:=ZM hk h1;exact⟨q,hq⟩,h2⟩
   .cases ht
  .cases ht
def JA{α β:Type}(f:α->β)(a:Array α):(a.map f)=(a.toList.map f).toArray:=by apply Array.ext';simp
def zt(bN:dh P ev){s:St}(hr:IQ m s.heap.get w){o:CI}{vs:List AV}{y:AV}{s':St}
  (h:(opV P ev o.op vs).run s=.ok y s')(hf:KF s s'){ρ:Cb->Bc}(Mi:JT m vs (o.op.operands.toList.map ρ))(ro:ON):
  OH P ro m w s' y ((Ca ρ o).run P w):=by
 obtain⟨dst,op,ty,pos,after,guard⟩:=o;simp only at h Mi;unfold opV at h;split at h
 .split at h
  .exact AjN
  .exact AfP
 .split at h
  .exact AjN
  .exact AfP
 .rename_i c0 a0 b0;split at h
  .obtain⟨hp,rfl⟩:=tL h;obtain⟨h1,h2,h3⟩:=AH6 (u:=ρ c0) (v:=ρ a0) (x:=ρ b0) Mi;unfold AM0 at hp;split at hp
   .simp only[Ba]at hp;subst hp;have hc:ρ c0=.bool true:=by generalize ρ c0=q at h1;cases h1;rfl
    have:(Ca ρ ⟨dst,.pick c0 a0 b0,ty,pos,after,guard⟩).run P w=.ok (.value (ρ a0)) w:=by
     exact Ajr
    rw[this];exact Aiy
   .simp only[Ba]at hp;subst hp;have hc:ρ c0=.bool false:=by generalize ρ c0=q at h1;cases h1;rfl
    have:(Ca ρ ⟨dst,.pick c0 a0 b0,ty,pos,after,guard⟩).run P w=.ok (.value (ρ b0)) w:=by
     exact Ajr
    rw[this];exact Ht (Jt.refl m w) hr h3
   .cases hp
  .exact AfP
 .rename_i e;split at h
  .rename_i z hz;obtain⟨b,s1,h1,h2⟩:=I7 h;obtain⟨rfl,rfl⟩:=IS h2;obtain⟨v,w',m',g1,g2,g3,g4⟩:=ACY (P:=P) hr hz h1 hf;exact Agi
  .exact AfP
 .rename_i e x0;split at h
  .obtain⟨b,s1,h1,h2⟩:=I7 h;obtain⟨rfl,rfl⟩:=IS h2;obtain⟨v,w',m',g1,g2,g3,g4⟩:=AIn (P:=P) (e:=e) hr (RZ Mi rfl) h1 hf;exact Agi
  .exact AfP
 .rename_i t Iv;refine Pr hr h (c:=Er t (Iv.map λ(i,x)=>(i,ρ x))) rfl λy hy=>?_;refine gF (Lt:=Iv.map λ(i,x)=>(i,ρ x)) ?_ hy w;exact AhS
 .rename_i t len Iv
  obtain⟨v,w',m',g1,g2,g3,g4⟩:=Ts (P:=P) (Lt:=Iv.map λ(i,x)=>(i,ρ x)) hr (by
   rw[FF];exact UM (by
   have:JT m vs (List.map (ρ∘λx=>x.2) Iv.toList):=by simpa[C6]using Mi
   exact this)) h hf
  exact Agi
 .rename_i t a0;split at h
  .obtain⟨v,g1,g2,g3,g4⟩:=m9 (P:=P) hr h (RZ Mi rfl);rw[ME rfl g1];exact Ajy
  .exact AfP
 .rename_i t a0 x0;split at h
  .obtain⟨h1,h2⟩:=Xn (u:=ρ a0) (v:=ρ x0) Mi;obtain⟨w',g1,g2,g3,rfl⟩:=AD9 (P:=P) hr h h1 h2;exact Aiz
  .exact AfP
 .rename_i x0;split at h
  .rename_i x;obtain⟨hp,rfl⟩:=tL h;have hx:=RZ (v:=ρ x0) Mi rfl
   have hy:y=x:=by
    unfold aU at hp;split at hp<;>first|(cases hp;done)|(simp only[Ba]at hp;exact hp.symm)
   subst hy
   have:(Ca ρ ⟨dst,.nilCheck x0,ty,pos,after,guard⟩).run P w=.ok (.value (ρ x0)) w:=by
    simp only[Ca];generalize ρ x0=q at hx;cases hx with
    |func fn fs cs fs' NL _ _ _=>
     cases fn with
     |func g=>rfl
     |yield g=>rfl
     |_=>simp[aU]at hp
    |yield=>rfl
    |_=>first|rfl|(simp[aU]at hp;done)
   exact Ai3
  .exact AfP
 .rename_i op t x0 y0 yt;split at h
  .obtain⟨h1,h2⟩:=Xn (u:=ρ x0) (v:=ρ y0) Mi;exact Pr hr h (c:=do DS op t x0 y0 (ρ x0) (ρ y0);Di op t (ρ x0) (ρ y0)) rfl λz hz=>q9 hz h1 h2 x0 y0 w
  .exact AfP
 .rename_i op t x0;split at h
  .exact Pr hr h rfl λz hz=>AAZ hz Adz w
  .exact AfP
 .rename_i src d x0;split at h
  .exact Pr hr h rfl λz hz=>Yj hz Adz w
  .exact AfP
 .rename_i t x0;split at h
  .exact Pr hr h rfl λz hz=>ADN hz Adz w
  .exact AfP
 .rename_i fn first K8
  split at h
  .exact AfP
  .rename_i RT;obtain⟨rfl,rfl⟩:=IS h;have hv:JT m vs (first.toList.map ρ++K8.toList.map ρ):=by simpa[C6]using Mi
   have II:(first.toList.map ρ).length=first.size:=by rw[BX,CB]
   have h1:JT m (vs.take first.size) (first.toList.map ρ):=by
    have:=hv.take first.size
    have e:(first.toList.map ρ++K8.toList.map ρ).take first.size=first.toList.map ρ:=by
     rw[<- II];exact List.take_left
    rwa [e]at this
   have h2:JT m (vs.drop first.size) (K8.toList.map ρ):=by
    have:=hv.drop first.size
    have e:(first.toList.map ρ++K8.toList.map ρ).drop first.size=K8.toList.map ρ:=by
     rw[<- II];exact List.drop_left
    rwa [e]at this
   have:(Ca ρ ⟨dst,.makeFunc fn first K8,ty,pos,after,guard⟩).run P w=.ok (.value (.func fn (first.toList.map ρ).toArray (K8.toList.map ρ).toArray)) w:=by
    simp only[Ca,Instr.makeFunc,JA];rfl
   rw[this];exact Ht (Jt.refl m w) hr (.func _ _ _ _ _ (λl e=>RT l e) h1 h2)
 .rename_i t;obtain⟨b,s1,h1,h2⟩:=I7 h;obtain⟨rfl,rfl⟩:=IS h2;obtain⟨m',k1,k2,k3⟩:=zd (Jf:=#[]) hr 0 (by trivial) h1 hf;have:(Ca ρ ⟨dst,.makeMap t none,ty,pos,after,guard⟩).run P w=.ok (.value (.map (some w.heap.size))) (w.alloc (.map #[] 0)):=rfl;rw[this];exact Ht k1 k2 k3
 .rename_i t l0 c0;split at h
  .obtain⟨h1,h2⟩:=Xn (u:=ρ l0) (v:=ρ c0) Mi;obtain⟨v,w',m',g1,g2,g3,g4⟩:=VD (P:=P) hr h hf h1 h2;exact Agi
  .exact AfP
 .rename_i t x0 lo hi mx;split at h
  .rename_i x r;split at h
   .rename_i lo' r1 e1;split at h
    .rename_i VI r2 e2;split at h
     .rename_i mx' r3 e3
      have hv:JT m (x::r) (ρ x0::((lo.map ρ).toList++((hi.map ρ).toList++((mx.map ρ).toList++[])))):=by
       have:(Op.slice t x0 lo hi mx).operands.toList.map ρ=ρ x0::((lo.map ρ).toList++((hi.map ρ).toList++((mx.map ρ).toList++[]))):=by
        cases lo<;>cases hi<;>cases mx<;>simp[C6]
       rw[this]at Mi;exact Mi
      cases hv with
      |cons _ _ _ _ hx KT=>
       obtain⟨a1,KT⟩:=PH KT e1;obtain⟨a2,KT⟩:=PH KT e2;obtain⟨a3,_⟩:=PH KT e3;exact Pr hr h rfl λz hz=>ic hz hx a1 a2 a3 w
     .exact AfP
    .exact AfP
   .exact AfP
  .exact AfP
 .rename_i t x0 f;split at h
  .exact Pr hr h rfl λz hz=>U6 hz Adz w
  .exact AfP
 .rename_i t x0 f;split at h
  .exact Pr hr h rfl λz hz=>gi hz Adz w
  .exact AfP
 .rename_i t x0 i0;split at h
  .obtain⟨h1,h2⟩:=Xn (u:=ρ x0) (v:=ρ i0) Mi;exact Pr hr h rfl λz hz=>VB hz h1 h2 w
  .exact AfP
 .rename_i t x0 i0;split at h
  .obtain⟨h1,h2⟩:=Xn (u:=ρ x0) (v:=ρ i0) Mi;exact Pr hr h rfl λz hz=>iJ hz h1 h2 w
  .exact AfP
 .rename_i t m0 k0 ok;split at h
  .obtain⟨h1,h2⟩:=Xn (u:=ρ m0) (v:=ρ k0) Mi;obtain⟨v,g1,g2,g3,g4⟩:=zX (P:=P) hr h h1 h2;rw[ME rfl g1];exact Ajy
  .exact AfP
 .rename_i t m0 k0 x0;split at h
  .rename_i r k x;split at h
   .rename_i kt e hme;cases ja:Nr (P.underlying kt) k with
    |false=>simp only[ja,cond_false]at h;exact(HR h).elim
    |true=>
     simp only[ja,cond_true]at h;obtain⟨_,s1,h1,h2⟩:=I7 h;obtain⟨rfl,rfl⟩:=IS h2;obtain⟨k1,k2,k3⟩:=AH6 (u:=ρ m0) (v:=ρ k0) (x:=ρ x0) Mi;obtain⟨w',g1,g2,g3⟩:=og (P:=P) hr hme ja h1 k1 k2 k3;exact Aiz
   .exact AfP
  .exact AfP
 .rename_i x0 t MA ok;split at h
  .exact Pr hr h rfl λz hz=>xt hz Adz w
  .exact AfP
 .rename_i x0 ix;split at h
  .exact Pr hr h rfl λz hz=>u9 hz Adz w
  .exact AfP
 .rename_i c;obtain⟨callee,args,argTypes⟩:=c;unfold ALy at h;simp only at h;cases callee with
  |value f0=>
   simp only at h;split at h
   .rename_i f AEy;have hv:JT m (f::AEy) (ρ f0::args.toList.map ρ):=by simpa[C6,Da]using Mi
    cases hv with
    |cons _ _ _ _ h1 h2=>
     have:=uf (P:=P) bN hr h hf h1 h2 ro
     have he:(Ca ρ ⟨dst,.call ⟨.value f0,args,argTypes⟩,ty,pos,after,guard⟩)=(do let d<-CQ (ρ f0) (args.toList.map ρ).toArray;invoke d.target d.args):=by
      simp only[Ca,resolve,JA]
     rw[he];exact this
   .exact AfP
  |invoke r0 name=>
   simp only at h;split at h
   .rename_i r AEy;have hv:JT m (r::AEy) (ρ r0::args.toList.map ρ):=by simpa[C6,Da]using Mi
    cases hv with
    |cons _ _ _ _ h1 h2=>
     have:=zN (P:=P) bN hr h hf h1 h2 ro
     have he:(Ca ρ ⟨dst,.call ⟨.invoke r0 name,args,argTypes⟩,ty,pos,after,guard⟩).run P w=(Ea (ρ r0) name (args.toList.map ρ).toArray).run P w:=by
      simp only[Ca,resolve,pure_bind,invoke,JA];have e0:(#[ρ r0]++(args.toList.map ρ).toArray)[0]?=some (ρ r0):=AD;simp only[e0];congr 2;simp;exact CJ (by rw[BX,CB];exact Bd _)
     rw[he];exact this
   .exact AfP
  |builtin b=>
   simp only at h;have hv:JT m vs (args.toList.map ρ):=by simpa[C6,Da]using Mi
   have he:(Ca ρ ⟨dst,.call ⟨.builtin b,args,argTypes⟩,ty,pos,after,guard⟩)=builtin b argTypes ty (args.map λ| .const _=>true|_=>false) (args.toList.map ρ).toArray:=by
    exact Af5
   rw[he];generalize RF:args.toList.map ρ=cl at hv;unfold uc at h;split at h
   .rename_i v;split at h
    .rename_i t Pp;cases hv with
     |cons _ cv _ _ h1 h2=>
      cases h2;obtain⟨r,g1,g2,g3,g4⟩:=sq (P:=P) hr h h1 Pp ty
      have:(builtin .len argTypes ty (args.map λ| .const _=>true|_=>false) [cv].toArray).run P w=.ok (.value r) w:=by
       exact AjD
      rw[this];exact Ajy
    .exact AfP
   .rename_i s0 x0;split at h
    .rename_i t t' Pp;split at h
     .rename_i d hd
      have yu:argTypes=#[t,t']:=by
       apply Array.ext';simpa using Pp
      subst yu;cases hv with
      |cons _ cv _ _ h1 h2=>
       cases h2 with
       |cons _ cv2 _ _ h3 h4=>
        cases h4;obtain⟨r,w',m',g1,g2,g3,g4⟩:=xp (P:=P) hr hd h hf h1 h3 ty
        have:(builtin .append #[t,t'] ty (args.map λ| .const _=>true|_=>false) [cv,cv2].toArray).run P w=.ok (.value r) w':=by
         exact Aiq
        rw[this];exact Ht g2 g3 g4
     .exact AfP
    .exact AfP
   .split at h
    .rename_i k a k' b' hk;subst hk;obtain⟨rfl,rfl⟩:=IS h;cases hv with
     |cons _ cv _ _ h1 h2=>
      cases h1;cases h2 with
      |cons _ cv2 _ _ h3 h4=>
       cases h4;cases h3;exact Ht (Jt.refl m w) hr (.int _ _)
    .exact AfP
   .rename_i r k;split at h
    .rename_i t Pp;split at h
     .rename_i kt e hme;cases ja:Nr (P.underlying kt) k with
      |false=>simp only[ja,cond_false]at h;exact(HR h).elim
      |true=>
       simp only[ja,cond_true]at h;obtain⟨_,s1,h1,h2⟩:=I7 h;obtain⟨rfl,rfl⟩:=IS h2;cases hv with
       |cons _ cv _ _ h3 h4=>
        cases h4 with
        |cons _ cv2 _ _ h5 h6=>
         cases h6;obtain⟨w',g1,g2,g3⟩:=yP (P:=P) hr hme ja h1 h3 h5 Pp ty
         have:(builtin .delete argTypes ty (args.map λ| .const _=>true|_=>false) [cv,cv2].toArray).run P w=.ok (.value (.tuple #[])) w':=by
          exact Aiq
         exact AkW
     .exact AfP
    .exact AfP
   .exact AfP
 .exact AfP
end
end
section
section
variable{P:Program} {m:NO} {w:World} {ev:ah->M AV}
def vL(tmps:AV0)(d:Nat)(v:Bc)(h:d<tmps.size)(t:Nat):(tmps.setIfInBounds d v).getD t undef=if t=d then v else tmps.getD t undef:=by
 simp only[CC,EJ];by_cases e:t=d
 .subst e;simp[h]
 .rw[Ng (ER e),Ng e]
def FR.set{nt:Nat}{fr:Tr AV}{tmps:AV0}(h:FR m nt fr tmps){d:Nat}(hd:d<nt){a:AV}{v:Bc}(hv:VR m a v):FR m nt (fr.set d a) (tmps.setIfInBounds d v):=by refine⟨by simp[h.size],λt=>?_⟩;rw[vL tmps d v (by rw[h.size];exact hd),BR];exact Aik
def FR.put{nt:Nat}{fr:Tr AV}{a:Act}(h:FR m nt fr a.tmps){d:Option Tmp}(hd:NK nt d=true){x:AV}{v:Bc}(hv:VR m x v):FR m nt (iX fr d x) (a.put d v).tmps:=by
 cases d with
 |none=>exact h
 |some d=>exact h.set (Tq hd) hv
def RX(a:Act)(d:Option Tmp)(v:Bc):(a.put d v).defers=a.defers:=by cases d<;>rfl
def QJ{nt:Nat}{fr:Tr AV}{a:Act}(h:FR m nt fr a.tmps){o:Cb}{x:AV}(he:Oh fr o=some x):VR m x (a.eval o):=by
 cases o with
 |tmp t=>simp only[Oh,Ba]at he;subst he;exact h.get t
 |const v=>exact WI he
 |global g=>cases he
 |func f=>simp only[Oh,Ba]at he;subst he;exact .func _ _ _ [] [] (λl e=>by cases e) .nil .nil
def RN{nt:Nat}{fr:Tr AV}{a:Act}(h:FR m nt fr a.tmps):∀{l:List Cb} {vs:List AV},Ly fr l=some vs->JT m vs (l.map a.eval)
 |[],vs,he=>by simp only[Ly,Ba]at he;subst he;exact .nil
 |o::r,vs,he=>by
  exact AgH
def Ra{nt:Nat}{fr:Tr AV}{tmps:AV0}(h:FR m nt fr tmps)(ops:Array CI)(o:CI):Fq o (yielded ops tmps)=XU ops.toList fr o:=by
 unfold Fq XU yielded;cases o.guard with
 |none=>rfl
 |some p=>
  obtain⟨j,QZ⟩:=p;simp only[Cq];cases ops[j]? with
  |none=>rfl
  |some o'=>
   simp only[Option.bind_some];cases o'.dst with
   |none=>rfl
   |some d=>
    simp only[Option.bind_some];have hg:=h.get d;rw[CC]at hg;cases hf:fr.get d with
    |none=>
     rw[hf]at hg;cases ht:tmps[d]? with
     |none=>rfl
     |some v=>
      rw[ht]at hg;simp only[Option.getD_none,Option.getD_some,RY]at hg;cases hg;rfl
    |some x=>
     rw[hf]at hg;cases ht:tmps[d]? with
     |none=>
      rw[ht]at hg;simp only[Option.getD_none,Option.getD_some,undef]at hg;cases hg;rfl
     |some v=>
      rw[ht]at hg;simp only[Option.getD_some]at hg;cases hg<;>first|rfl|(rename_i b;cases b<;>cases QZ<;>rfl)
def fb(bN:dh P ev){s:St}(hr:IQ m s.heap.get w){nt:Nat}{fr:Tr AV}{a:Act}(Kr:FR m nt fr a.tmps){ops:Array CI}{i:Nat}{o:CI}(ho:ops[i]?=some o)
  (Mu:NK nt o.dst=true){v:AV}{s':St}(h:(ji P ev ops.toList fr o).run s=.ok v s')(hf:KF s s')(ro:ON)(K:Act->World->Prop)(Q:QX)
  (hK:∀m' a' w',Jt m w m' w'->IQ m' s'.heap.get w'->FR m' nt (iX fr o.dst v) a'.tmps->a'.defers=a.defers->K a' w'):
  Eo (Fw ro) 0 P ops Q i K a w:=by
 unfold Eo;rw[ho];simp only;rw[Ra Kr];unfold ji at h;cases hw:XU ops.toList fr o with
 |false=>
  simp only[hw,cond_false]at h;obtain⟨rfl,rfl⟩:=IS h;rw[Ng AD];exact⟨λ_ _=>trivial,hK m (a.put o.dst undef) w (Jt.refl m w) hr (Kr.put Mu (.tuple [] [] .nil)) (RX _ _ _)⟩
 |true=>
  simp only[hw,cond_true]at h;rw[Ps rfl];split at h
  .rename_i vs Mi;have hrel:=RN Kr Mi;refine⟨λ_ _=>trivial,?_⟩
   have zF:o.semAt (Fw ro).round a.eval=Ca a.eval o:=by
    apply Oper.semAt_eq;intro c hc;rw[hc]at h;exact HR h
   rw[zF];exact zt bN hr h hf hrel ro o a K Q λm' v' w' h1 h2 h3=>hK m' _ w' h1 h2 ((Kr.mono h1.le).put Mu h3) (RX _ _ _)
  .exact AfP
def fQ(bN:dh P ev)(ro:ON){nt:Nat}{ops:Array CI}(Q:QX):∀(Jl:List CI) (i:Nat),Jl=ops.toList.drop i->
  ∀{m:NO} {w:World} {s:St} {fr Vz:Tr AV} {a:Act} {s':St},IQ m s.heap.get w->FR m nt fr a.tmps->(ADm P ev nt ops.toList Jl fr).run s=.ok Vz s'->KF s s'->
  (∀m' a' w',Jt m w m' w'->IQ m' s'.heap.get w'->FR m' nt Vz a'.tmps->a'.defers=a.defers->Q .normal a' w')->
  wpOpsIn (Fw ro) 0 P ops Q (List.range' i Jl.length) a w
 |[],i,KT,m,w,s,fr,Vz,a,s',hr,Kr,h,hf,hQ=>by
  obtain⟨rfl,rfl⟩:=IS (by simpa only[ADm]using h);exact hQ m a w (Jt.refl m w) hr Kr rfl
 |o::Jl,i,KT,m,w,s,fr,Vz,a,s',hr,Kr,h,hf,hQ=>by
  have ho:ops[i]?=some o:=by
   exact Akq
  have cX:Jl=ops.toList.drop (i+1):=by
   exact AiB
  simp only[ADm]at h;cases Mu:NK nt o.dst with
  |false=>simp only[Mu,cond_false]at h;exact(HR h).elim
  |true=>
   simp only[Mu,cond_true]at h;obtain⟨v,s1,h1,h2⟩:=I7 h;obtain⟨f1,f2⟩:=BT h1 h2 hf;rw[CG,List.range'_succ,wpOpsIn_cons]
   exact fb bN hr Kr ho Mu h1 f1 ro _ Q λm1 a1 w1 e1 r1 UN d1=>
    fQ bN ro Q Jl (i+1) cX r1 UN h2 f2 λm2 a2 w2 e2 r2 fr2 d2=>hQ m2 a2 w2 (e1.trans e2) r2 fr2 (d2.trans d1)
def dH(bN:dh P ev)(ro:ON){nt:Nat}{ops:Array CI}{id:Nat}(Q:QX){s:St}{fr Vz:Tr AV}{a:Act}{s':St}
  (hr:IQ m s.heap.get w)(Kr:FR m nt fr a.tmps)(h:(ADm P ev nt ops.toList ops.toList fr).run s=.ok Vz s')(hf:KF s s')
  (hQ:∀m' a' w',Jt m w m' w'->IQ m' s'.heap.get w'->FR m' nt Vz a'.tmps->a'.defers=a.defers->Q .normal a' w'):(GH id ops false).wpIn (Fw ro) 0 P Q a w:=by
 apply wpIn_region;have:=fQ bN ro Q ops.toList 0 AD hr Kr h hf hQ;rw[List.range_eq_range'];exact Afx
end
end
section
section
variable{P:Program} {ev:ah->M AV}
structure AZm (P:Cc) (ev:ah->M AV) (nt:Nat) (ops:List CI)where
 S:Nat->St
 F:Nat->Tr AV
 V:Nat->AV
 L:Nat->Nat×Nat
def UD{nt:Nat}{ops:List CI}:∀(Jl:List CI) (k:Nat),Jl=ops.drop k->∀{s:St} {fr:Tr AV} {q:Tr AV×List (Nat×Nat)} {s':St},(AHG P ev nt ops Jl fr).run s=.ok q s'->
  ∃(S:Nat->St) (F:Nat->Tr AV) (V:Nat->AV),S k=s/\F k=fr/\S (k+Jl.length)=s'/\F (k+Jl.length)=q.1/\q.2.length=Jl.length/\
   ∀i o,k<=i->ops[i]?=some o->NK nt o.dst=true/\(ss (ji P ev ops (F i) o)).run (S i)=.ok (V i,q.2.getD (i-k) (0,0)) (S (i+1))/\F (i+1)=iX (F i) o.dst (V i)
 |[],k,KT,s,fr,q,s',h=>by
  obtain⟨rfl,rfl⟩:=IS (by simpa only[AHG]using h);refine⟨λ_=>s',λ_=>fr,λ_=>RY,rfl,rfl,rfl,rfl,rfl,λi o hi ho=>?_⟩;exact AhK
 |o::Jl,k,KT,s,fr,q,s',h=>by
  have ho:ops[k]?=some o:=by
   exact AiN
  have cX:Jl=ops.drop (k+1):=by
   exact AiV
  simp only[AHG]at h;cases Mu:NK nt o.dst with
  |false=>simp only[Mu,cond_false]at h;exact(HR h).elim
  |true=>
   simp only[Mu,cond_true]at h;obtain⟨p,s1,h1,h2⟩:=I7 h;obtain⟨q2,s2,h3,h4⟩:=I7 h2;obtain⟨rfl,rfl⟩:=IS h4;obtain⟨S,F,V,g1,g2,g3,g4,g5,g6⟩:=UD Jl (k+1) cX h3;refine⟨λi=>if i=k then s else S i,λi=>if i=k then fr else F i,λi=>if i=k then p.1 else V i,AD,AD,?_,?_,by simp[g5],λi o' hi Xb=>?_⟩
   .simp only[CG];rw[Ng AA,show k+(Jl.length+1)=k+1+Jl.length by omega];exact g3
   .simp only[CG];rw[Ng AA,show k+(Jl.length+1)=k+1+Jl.length by omega];exact g4
   .by_cases bO:i=k
    .subst bO;rw[ho]at Xb;cases Xb;refine⟨Mu,?_,?_⟩
     .exact Aie
     .simp only[if_true];rw[Ng AA,g2]
    .obtain⟨k1,k2,k3⟩:=g6 i o' AA Xb;refine⟨k1,?_,?_⟩
     .simp only[Ng bO];rw[Ng AA]
      have:((p.2::q2.2).getD (i-k) (0,0))=q2.2.getD (i-(k+1)) (0,0):=by
       rw[show i-k=(i-(k+1))+1 by omega];simp
      rw[this];exact k2
     .simp only[Ng bO];rw[Ng AA];exact k3
def Xw:∀(r:List CI) (H6:LN) (i:Nat),i<H6.length->(Ma r H6).getD i 0=H6.getD i 0
 |[],H6,i,_=>by simp[Ma]
 |o::r,H6,i,h=>by
  simp only[Ma];rw[Xw r _ i AB];simp[FC,B5 h]
def nE(H6:LN)(o:CI):Nat:=o.after.toList.foldl (λm e=>bif C7 .any e then m|||1<<<e.on|||H6.getD e.on 0 else m) 0
def iq:∀(r:List CI) (H6:LN) (k:Nat) (o:CI),r[k]?=some o->∃xm,xm.length=H6.length+k/\(∀i,i<H6.length+k->xm.getD i 0=(Ma r H6).getD i 0)/\(Ma r H6).getD (H6.length+k) 0=nE xm o
 |[],H6,k,o,h=>by simp at h
 |o'::r,H6,0,o,h=>by
  simp at h;subst h;refine⟨H6,AD,λi hi=>?_,?_⟩
  .simp only[Ma];rw[Xw r _ i (by simp at hi⊢;omega)];simp at hi;simp[FC,B5 hi]
  .simp only[Ma];rw[Xw r _ _ AD];simp[FC,nE]
 |o'::r,H6,k+1,o,h=>by
  simp at h;obtain⟨xm,h1,h2,h3⟩:=iq r (H6++[nE H6 o']) k o h;simp only[Bf,CG,List.length_nil]at h1 h2 h3;refine⟨xm,AA,λi hi=>?_,?_⟩
  .simp only[Ma];exact h2 i AA
  .simp only[Ma];rw[show H6.length+(k+1)=H6.length+(0+1)+k by omega];exact h3
def AGl(H6:LN)(o:CI)(j:Nat)(h:NP (nE H6 o) j):∃e∈o.after.toList,C7 .any e=true/\(j=e.on\/NP (H6.getD e.on 0) j):=by
 unfold nE at h
 have gen:∀(l:List Edge) (m0:Nat),NP (l.foldl (λm e=>bif C7 .any e then m|||1<<<e.on|||H6.getD e.on 0 else m) m0) j->NP m0 j\/∃e∈l,C7 .any e=true/\(j=e.on\/NP (H6.getD e.on 0) j):=by
  intro l
  induction l with
  |nil=>intro m0 h;exact .inl h
  |cons e l ih=>
   intro m0 h;simp only[List.foldl_cons]at h;rcases ih _ h with h|⟨e',oV,h'⟩
   .cases hb:C7 .any e with
    |false=>simp only[hb,cond_false]at h;exact .inl h
    |true=>
     simp only[hb,cond_true]at h;rw[Tp,Tp,Ow]at h;rcases h with(h|h)|h
     .exact .inl h
     .exact .inr ⟨e,AD,hb,.inl h⟩
     .exact .inr ⟨e,AD,hb,.inr h⟩
   .exact .inr ⟨e',by simp[oV],h'⟩
 rcases gen _ _ h with h|h
 .simp[NP]at h
 .exact h
def bs(ops:List CI)(i:Nat):Nat:=(Ma ops []).getD i 0
def yB{ops:List CI}{i:Nat}{o:CI}(ho:ops[i]?=some o)(ATU:∀e∈o.after.toList,C7 .any e=true->e.on<i){j:Nat}(h:NP (bs ops i) j):
  ∃e∈o.after.toList,C7 .any e=true/\(j=e.on\/NP (bs ops e.on) j):=by
 obtain⟨xm,h1,h2,h3⟩:=iq ops [] i o ho;simp only[List.length_nil,CR]at h1 h2 h3;unfold bs at h;rw[h3]at h;obtain⟨e,he,hb,hj⟩:=AGl xm o j h;refine⟨e,he,hb,?_⟩;rw[h2 e.on (ATU e he hb)]at hj;exact hj
def Un{a b:Nat×Nat}(h:pG a b=false)(x:Nat):¬(NP a.2 x/\(NP b.1 x\/NP b.2 x))/\¬(NP a.1 x/\NP b.2 x):=by
 unfold pG at h;simp only[Bool.not_eq_false',Bk,Ff]at h;obtain⟨h1,h2⟩:=h;constructor
 .rintro⟨h3,h4⟩
  have:NP (a.2&&&(b.1|||b.2)) x:=by
   simp only[NP,Nat.testBit_and,Nat.testBit_or,Bk,DU];exact⟨h3,h4⟩
  rw[h1]at this;simp[NP]at this
 .rintro⟨h3,h4⟩;have:NP (a.1&&&b.2) x:=by simp only[NP,Nat.testBit_and,Bk];exact⟨h3,h4⟩
  rw[h2]at this;simp[NP]at this
def bG{m:Nat}{l:Nat×Nat}:∀{done:List (Nat×Nat)} {i:Nat},jr m l done i=false->∀j a,done[j]?=some a->NP m (i+j)\/pG a l=false
 |[],i,_,j,a,h=>by simp at h
 |x::r,i,h,j,a,hj=>by
  simp only[jr,Cn,DV,Bool.not_eq_false']at h;cases j with
  |zero=>simp at hj;subst hj;exact h.1
  |succ j=>
   simp at hj;have:=bG h.2 j a hj;rwa [show i+1+j=i+(j+1) by omega]at this
def bH:∀{Jl done:List (Nat×Nat)} {ms:LN},Zt done Jl ms=false->∀i j l a,i<done.length+j->Jl[j]?=some l->(done++Jl)[i]?=some a->NP (ms.getD j 0) i\/pG a l=false
 |[],done,ms,_,i,j,l,a,_,h,_=>by simp at h
 |x::r,done,[],h,i,j,l,a,_,_,_=>by simp[Zt]at h
 |x::r,done,m::ms,h,i,j,l,a,sS,hl,ha=>by
  simp only[Zt,Cn]at h;cases j with
  |zero=>
   simp at hl;subst hl;rw[B5 AA]at ha;have:=bG h.1 i a ha;rw[CR]at this;exact Afx
  |succ j=>
   simp at hl;have:=bH h.2 i j l a AB hl Ab0;exact Afx
def TJ:∀{l:List CI} {i:Nat},jv l i=true->∀j o,l[j]?=some o->∀e∈o.after.toList,C7 .any e=true->e.on<i+j
 |[],i,_,j,o,h,_,_,_=>by simp at h
 |x::r,i,h,j,o,hj,e,he,hb=>by
  simp only[jv,Bk,CV,DU,DO]at h;cases j with
  |zero=>
   simp at hj;subst hj;rcases h.1 e he with h|h
   .have:=Tq h;omega
   .rw[hb]at h;cases h
  |succ j=>
   simp at hj;have:=TJ h.2 j o hj e he hb;omega
def fZ{ops:List CI}{m:Nat}{o:CI}:∀{done:List CI} {i:Nat},kJ ops m o done i=true->∀j a,done[j]?=some a->NP m (i+j)\/Ux ops a o=true
 |[],i,_,j,a,h=>by simp at h
 |x::r,i,h,j,a,hj=>by
  simp only[kJ,Bk,DU]at h;cases j with
  |zero=>simp at hj;subst hj;exact h.1
  |succ j=>
   simp at hj;have:=fZ h.2 j a hj;rwa [show i+1+j=i+(j+1) by omega]at this
def Ru{ops:List CI}:∀{Jl done:List CI} {ms:LN},ZY ops done Jl ms=true->∀i j o a,i<done.length+j->Jl[j]?=some o->(done++Jl)[i]?=some a->NP (ms.getD j 0) i\/Ux ops a o=true
 |[],done,ms,_,i,j,o,a,_,h,_=>by simp at h
 |x::r,done,[],h,i,j,o,a,_,_,_=>by simp[ZY]at h
 |x::r,done,m::ms,h,i,j,o,a,sS,hl,ha=>by
  simp only[ZY,Bk]at h;cases j with
  |zero=>
   simp at hl;subst hl;rw[B5 AA]at ha;have:=fZ h.1 i a ha;rw[CR]at this;exact Afx
  |succ j=>
   simp at hl;have:=Ru h.2 i j o a AB hl Ab0;exact Afx
def N0{ops:List CI}{a b:CI}(h:Ux ops a b=true):(∀d,a.dst=some d->d∉O8 ops b/\b.dst≠some d)/\(∀d,b.dst=some d->d∉O8 ops a):=by
 unfold Ux at h;simp only[Bk]at h;obtain⟨h1,h2⟩:=h;constructor
 .intro d hd;rw[hd]at h1;simp only[Bk,DO,List.contains_eq_mem,decide_eq_false_iff_not,beq_eq_false_iff_ne]at h1;exact h1
 .intro d hd;rw[hd]at h2;simpa using h2
def Qt{f g:Tr AV}:∀{l:List Cb},(∀x∈UI l,f.get x=g.get x)->Ly f l=Ly g l
 |[],_=>rfl
 |o::r,h=>by
  exact AgA
def AAa{ops:List CI}{o:CI}{f g:Tr AV}(h:∀x∈O8 ops o,f.get x=g.get x):ji P ev ops f o=ji P ev ops g o:=by
 have h1:XU ops f o=XU ops g o:=by
  unfold XU;cases hg:o.guard with
  |none=>rfl
  |some p=>
   obtain⟨j,QZ⟩:=p;simp only;cases ho:ops[j]? with
   |none=>rfl
   |some o'=>
    simp only;cases hd:o'.dst with
    |none=>rfl
    |some d=>
     simp only;rw[h d (by simp[O8,hg,ho,hd])]
 have h2:Ly f o.op.operands.toList=Ly g o.op.operands.toList:=Qt λx hx=>h x (by unfold O8;exact List.mem_append_left _ hx);unfold ji;rw[h1,h2]
end
end
section
section
variable{P:Program} {ev:ah->M AV}
def nU(fr:Tr AV)(d:Option Tmp)(v:AV)(x:Nat):(iX fr d v).get x=if d=some x then some v else fr.get x:=by
 cases d with
 |none=>simp[iX]
 |some d=>
  simp only[iX,BR,Ba];exact AjP
def HD(S:Nat->St)(L:Nat->Nat×Nat)(D:Nat->Bool):Nat->Nat->Option Obj
 |0,b=>(S 0).heap.get b
 |k+1,b=>if D k=true/\NP (L k).2 b then(S (k+1)).heap.get b else HD S L D k b
def FD(ops:List CI)(F:Nat->Tr AV)(V:Nat->AV)(D:Nat->Bool):Nat->Nat->Option AV
 |0,x=>(F 0).get x
 |k+1,x=>if D k=true/\(ops[k]?).bind (·.dst)=some x then some (V k)else FD ops F V D k x
def kO{S:Nat->St}{L:Nat->Nat×Nat}{D:Nat->Bool}{N i b:Nat}(hi:i<N)(hD:D i=false)
  (RQ:∀k,k<N->¬NP (L k).2 b->(S (k+1)).heap.get b=(S k).heap.get b)
  (vW:∀k,k<i->NP (L k).2 b->D k=true)(T8:∀k,i<k->k<N->NP (L k).2 b->D k=false):
  HD S L D N b=(S i).heap.get b:=by
 have h1:∀k,k<=i->HD S L D k b=(S k).heap.get b:=by
  intro k
  induction k with
  |zero=>intro _;rfl
  |succ k ih=>
   intro hk;simp only[HD];by_cases hw:NP (L k).2 b
   .rw[Ps ⟨vW k AA hw,hw⟩]
   .exact AjL
 have h2:∀k,i<=k->k<=N->HD S L D k b=(S i).heap.get b:=by
  intro k
  induction k with
  |zero=>
     exact Ahf
  |succ k ih=>
   exact Akt
 exact AkY
def xh{S:Nat->St}{L:Nat->Nat×Nat}{D D':Nat->Bool}{N i b:Nat}(hi:i<N)(yp:∀k,D' k=(D k||k==i))
  (T8:∀k,i<k->k<N->NP (L i).2 b->NP (L k).2 b->D k=false):
  HD S L D' N b=if NP (L i).2 b then(S (i+1)).heap.get b else HD S L D N b:=by
 by_cases hw:NP (L i).2 b
 .rw[Ps hw]
  have:∀k,i+1<=k->k<=N->HD S L D' k b=(S (i+1)).heap.get b:=by
   intro k
   induction k with
   |zero=>intro h _;omega
   |succ k ih=>
    intro hk hN;simp only[HD];exact AfU
  exact Aj3
 .exact Akk
def xi{S:Nat->St}{L:Nat->Nat×Nat}{D:Nat->Bool}{N b:Nat}(hD:∀k,k<N->D k=true)(RQ:∀k,k<N->¬NP (L k).2 b->(S (k+1)).heap.get b=(S k).heap.get b):
  HD S L D N b=(S N).heap.get b:=by
 have:∀k,k<=N->HD S L D k b=(S k).heap.get b:=by
  intro k
  induction k with
  |zero=>intro _;rfl
  |succ k ih=>
   intro hk;simp only[HD];by_cases hw:NP (L k).2 b
   .rw[Ps ⟨hD k AA,hw⟩]
   .exact AjL
 exact this N (Bd _)
def kN{ops:List CI}{F:Nat->Tr AV}{V:Nat->AV}{D:Nat->Bool}{N i x:Nat}(hi:i<N)(hD:D i=false)(hN:N<=ops.length)
  (SI:∀k o,ops[k]?=some o->F (k+1)=iX (F k) o.dst (V k))
  (vW:∀k,k<i->(ops[k]?).bind (·.dst)=some x->D k=true)(T8:∀k,i<k->k<N->(ops[k]?).bind (·.dst)=some x->D k=false):
  FD ops F V D N x=(F i).get x:=by
 have hs:∀k,k<N->(F (k+1)).get x=if(ops[k]?).bind (·.dst)=some x then some (V k)else(F k).get x:=by
  intro k hk;obtain⟨o,ho⟩:∃o,ops[k]?=some o:=⟨ops[k]' AA,by rw[BZ]⟩
  rw[SI k o ho,ho];simp only[Option.bind_some];exact nU _ _ _ _
 have h1:∀k,k<=i->FD ops F V D k x=(F k).get x:=by
  intro k
  induction k with
  |zero=>intro _;rfl
  |succ k ih=>
   intro hk;simp only[FD];rw[hs k AA];exact AhV
 have h2:∀k,i<=k->k<=N->FD ops F V D k x=(F i).get x:=by
  intro k
  induction k with
  |zero=>
    exact Ahf
  |succ k ih=>
   exact Aks
 exact AkY
def xf{ops:List CI}{F:Nat->Tr AV}{V:Nat->AV}{D D':Nat->Bool}{N i x:Nat}(hi:i<N)(yp:∀k,D' k=(D k||k==i))
  (T8:∀k,i<k->k<N->(ops[i]?).bind (·.dst)=some x->(ops[k]?).bind (·.dst)=some x->D k=false):
  FD ops F V D' N x=if(ops[i]?).bind (·.dst)=some x then some (V i)else FD ops F V D N x:=by
 by_cases hw:(ops[i]?).bind (·.dst)=some x
 .rw[Ps hw]
  have:∀k,i+1<=k->k<=N->FD ops F V D' k x=some (V i):=by
   intro k
   induction k with
   |zero=>intro h _;omega
   |succ k ih=>
    intro hk hN;simp only[FD];exact AfU
  exact Aj3
 .exact Aki
def xg{ops:List CI}{F:Nat->Tr AV}{V:Nat->AV}{D:Nat->Bool}{N x:Nat}(hD:∀k,k<N->D k=true)(hN:N<=ops.length)
  (SI:∀k o,ops[k]?=some o->F (k+1)=iX (F k) o.dst (V k)):FD ops F V D N x=(F N).get x:=by
 have:∀k,k<=N->FD ops F V D k x=(F k).get x:=by
  intro k
  induction k with
  |zero=>intro _;rfl
  |succ k ih=>
   intro hk;obtain⟨o,ho⟩:∃o,ops[k]?=some o:=⟨ops[k]' AA,by rw[BZ]⟩
   rw[SI k o ho];simp only[FD,ho,Option.bind_some,ih AA];rw[nU];by_cases e:o.dst=some x
   .rw[Ps ⟨hD k AA,e⟩,Ps e]
   .rw[Ng AdN,Ng e]
 exact this N (Bd _)
def aW{ops:List CI}{f:Tr AV}{o:CI}{s:St}{v:AV}{l:Nat×Nat}{s':St}(h:(ss (ji P ev ops f o)).run s=.ok (v,l) s'):
  s.next<=s'.next/\(∀b,NP l.1 b\/NP l.2 b->b<s'.next)/\(∀b,s.next<=b->b<s'.next->NP l.2 b)/\(∀b,¬NP l.2 b->s'.heap.get b=s.heap.get b)/\
  (∀b,s.heap.get b=none->b<s.next\/s'.next<=b->s'.heap.get b=none)/\
  (∀t:St,t.next=s.next->(∀b,NP l.1 b\/NP l.2 b->b<s.next->t.heap.get b=s.heap.get b)->
   ∃t',(ji P ev ops f o).run t=.ok v t'/\t'.next=s'.next/\(∀b,NP l.2 b->t'.heap.get b=s'.heap.get b)/\(∀b,¬NP l.2 b->t'.heap.get b=t.heap.get b)):=by
 obtain⟨a,s1,h1,h2,rfl⟩:=XF.1 h;simp only[CM]at h2;obtain⟨rfl,rfl⟩:=h2;obtain⟨r,w,X⟩:=(ji P ev ops f o).loc _ _ _ h1;have hr:s1.rd=r:=by rw[X.hrd];simp
 have hw:s1.wr=w:=by rw[X.zK];simp
 simp only[hr,hw];refine⟨X.next,X.below,X.new,X.No,X.dom,λt ht PM=>?_⟩;obtain⟨t',e,n',_,_,g,k⟩:=X.XY t ht PM;exact⟨t',e,n',g,k⟩
def left(N:Nat)(IH:Array Bool):Nat:=(Bw N).countP λk=> !IH.getD k false
def iN{N:Nat}{IH:Array Bool}(h:left N IH=0):∀k,k<N->IH.getD k false=true:=by intro k hk;unfold left at h;rw[List.countP_eq_zero]at h;have:=h k (D7.2 hk);exact Afx
def gY{N i:Nat}{p q:Nat->Bool}(hi:i<N)(hp:p i=true)(hq:∀k,q k=(p k&& !(k==i))):(Bw N).countP p=(Bw N).countP q+1:=by
 induction N with
 |zero=>omega
 |succ N ih=>
  rw[List.range_succ,GW,GW];by_cases e:i=N
  .subst e
   have:(Bw i).countP p=(Bw i).countP q:=List.countP_congr λk hk=>by
    have:=D7.1 hk;rw[hq];simp;intro _;omega
   have hqi:q i=false:=by rw[hq];simp
   simp[this,hp,hqi]
  .have:=ih AA;have hN:q N=p N:=by rw[hq];simp;omega
   simp only[List.countP_singleton,hN];omega
def m5{N i:Nat}{IH:Array Bool}(hs:IH.size=N)(hi:i<N)(h:IH.getD i false=false):left N IH=left N (IH.setIfInBounds i true)+1:=by
 refine gY hi (by rw[h];rfl) λk=>?_;simp only[CC,EJ];by_cases e:i=k
 .subst e;simp[hs,hi]
 .exact Ajo
def Yr{IH:Array Bool}{i:Nat}(hi:i<IH.size)(k:Nat):(IH.setIfInBounds i true).getD k false=(IH.getD k false||k==i):=by
 simp only[CC,EJ];by_cases e:i=k
 .subst e;simp[hi]
 .exact Ajo
structure VK (P:Cc) (ev:ah->M AV) (nt:Nat) (ops:Array CI) (S:Nat->St) (F:Nat->Tr AV) (V:Nat->AV) (L:Nat->Nat×Nat):Prop where
 step:∀i o,ops[i]?=some o->NK nt o.dst=true/\(ss (ji P ev ops.toList (F i) o)).run (S i)=.ok (V i,L i) (S (i+1))/\F (i+1)=iX (F i) o.dst (V i)
 yR:∀i o,ops[i]?=some o->∀e∈o.after.toList,C7 .any e=true->e.on<i
 mem:∀i j,i<j->j<ops.size->NP (bs ops.toList j) i\/pG (L i) (L j)=false
 AAO:∀i j a b,i<j->ops[i]?=some a->ops[j]?=some b->NP (bs ops.toList j) i\/Ux ops.toList a b=true
 AFg:KF (S 0) (S ops.size)
def VK.tF{nt:Nat}{ops:Array CI}{S:Nat->St}{F:Nat->Tr AV}{V:Nat->AV}{L:Nat->Nat×Nat}(K:VK P ev nt ops S F V L):∀i j,i<=j->j<=ops.size->(S i).next<=(S j).next:=by
 intro i j sS
 induction j with
 |zero=>
    intro _;have:i=0:=AA;subst this;exact Bd _
 |succ j ih=>
  intro hj;by_cases e:i=j+1
  .subst e;exact Bd _
  .have ho:ops[j]?=some ops[j]:=Bv AA;have:=(aW (K.step j _ ho).2.1).1;exact CD (ih AA AA) this
def VK.Lq{nt:Nat}{ops:Array CI}{S:Nat->St}{F:Nat->Tr AV}{V:Nat->AV}{L:Nat->Nat×Nat}(K:VK P ev nt ops S F V L):∀i,i<=ops.size->∀b,(S i).next<=b->b<(S ops.size).next->(S i).heap.get b=none:=by
 intro i
 induction i with
 |zero=>intro _ b h1 h2;exact K.AFg b h1 h2
 |succ i ih=>
  intro hi b h1 h2;have ho:ops[i]?=some ops[i]:=Bv AA;obtain⟨g1,_,_,_,g5,_⟩:=aW (K.step i _ ho).2.1;exact g5 b (ih AA b AA h2) (.inr h1)
def qt(bN:dh P ev)(ro:ON){nt:Nat}{ops:Array CI}{S:Nat->St}{F:Nat->Tr AV}{V:Nat->AV}{L:Nat->Nat×Nat}(K:VK P ev nt ops S F V L)
  (Q:QX){m0:NO}{w0:World}{df:List Ed}
  (hQ:∀m' a' w',Jt m0 w0 m' w'->IQ m' (S ops.size).heap.get w'->FR m' nt (F ops.size) a'.tmps->a'.defers=df->Q .normal a' w'):
  ∀(U7:Nat) (IH:Array Bool) (a:Act) (w:World) (m:NO) (t:St) (f:Tr AV),IH.size=ops.size->left ops.size IH=U7->
   (∀k,k<ops.size->IH.getD k false=true->∀j,NP (bs ops.toList k) j->IH.getD j false=true)->
   Jt m0 w0 m w->(∀b,t.heap.get b=HD S L (λk=>IH.getD k false) ops.size b)->(∀x,f.get x=FD ops.toList F V (λk=>IH.getD k false) ops.size x)->
   IQ m t.heap.get w->FR m nt f a.tmps->a.defers=df->wpAnyIn (Fw ro) 0 P .any ops Q U7 IH a w:=by
 have RQ:∀b k,k<ops.size->¬NP (L k).2 b->(S (k+1)).heap.get b=(S k).heap.get b:=by
  intro b k hk;have ho:ops[k]?=some ops[k]:=Bv hk;exact(aW (K.step k _ ho).2.1).2.2.2.1 b
 have SI:∀k o,ops.toList[k]?=some o->F (k+1)=iX (F k) o.dst (V k):=λk o ho=>(K.step k o Abm).2.2;have II:ops.size<=ops.toList.length:=AD
 have bM:∀(IH:Array Bool) (a:Act) (w:World) (m:NO) (t:St) (f:Tr AV),(∀k,k<ops.size->IH.getD k false=true)->
   Jt m0 w0 m w->(∀b,t.heap.get b=HD S L (λk=>IH.getD k false) ops.size b)->(∀x,f.get x=FD ops.toList F V (λk=>IH.getD k false) ops.size x)->
   IQ m t.heap.get w->FR m nt f a.tmps->a.defers=df->Q .normal a w:=by
  exact Af8
 intro U7
 induction U7 with
 |zero=>
  exact Afd
 |succ U7 ih=>
  intro IH a w m t f hs hl fC he ht dY hr Kr hd
  have mh:∀i,i∈EE .any ops IH<->∃o,ops[i]?=some o/\IH.getD i false=false/\∀e∈o.after.toList,C7 .any e=true->IH.getD e.on false=true:=by
   exact AfM
  refine⟨λAPR=>?_,λi hi=>?_⟩
  .refine bM IH a w m t f ?_ he ht dY hr Kr hd
   have Jg:∀n,n<ops.size->∀k,k<=n->IH.getD k false=true:=by
    intro n
    induction n using Nat.strongRecOn with
    |_ n ihn=>
     exact AfY
   exactλk hk=>Jg k hk k (Bd _)
  .obtain⟨o,ho,hD,yw⟩:=(mh i).1 hi;have VI:i<ops.size:=(B4.1 ho).1;have jb:ops.toList[i]?=some o:=by simpa using ho
   obtain⟨Mu,H4,hF⟩:=K.step i o ho;obtain⟨n1,n2,n3,n4,n5,n6⟩:=aW H4
   have Wx:∀j,NP (bs ops.toList i) j->IH.getD j false=true:=by
    exact AgX
   have T4:∀k,i<k->k<ops.size->NP (bs ops.toList k) i->IH.getD k false=false:=by
    intro k bO hk hb;cases hc:IH.getD k false with
    |false=>rfl
    |true=>have:=fC k hk hc i hb;rw[hD]at this;cases this
   have mV:∀b,(NP (L i).1 b\/NP (L i).2 b)->t.heap.get b=(S i).heap.get b:=by
    intro b hb;rw[ht];refine kO VI hD (RQ b) (λk hk hw=>?_) λk hk mb hw=>?_
    .rcases K.mem k i hk VI with h|h
     .exact Wx k h
     .exact Zq ⟨hw,hb⟩ (Un h b).1
    .rcases K.mem i k hk mb with h|h
     .exact Aif
     .rcases hb with hb|hb
      .exact Zq ⟨hb,hw⟩ (Un h b).2
      .exact Zq ⟨hb,.inr hw⟩ (Un h b).1
   have U9:∀x∈O8 ops.toList o,f.get x=(F i).get x:=by
    intro x hx;exact AfR
   obtain⟨t',r1,r2,r3,r4⟩:=n6 {t with next:=(S i).next} rfl λb hb _=>mV b hb
   have yx:KF {t with next:=(S i).next} t':=by
    intro b h1 h2;simp only at h1;rw[r2]at h2;have hw:=n3 b h1 h2;show t.heap.get b=none;rw[mV b (.inr hw)];exact K.Lq i AA b h1 (by have:=K.tF (i+1) ops.size AA (Bd _);omega)
   rw[<- AAa U9]at r1;refine fb (s:={t with next:=(S i).next}) bN hr Kr ho Mu r1 yx ro _ Q λm1 a1 w1 e1 q1 UN d1=>?_;have hgd:=Yr (IH:=IH) (i:=i) AA;refine ih (IH.setIfInBounds i true) a1 w1 m1 t' (iX f o.dst (V i)) (by simp[hs]) AdF ?_ (he.trans e1) ?_ ?_ q1 UN (d1.trans hd)
   .exact AgW
   .intro b
    rw[xh (D:=λk=>IH.getD k false) VI hgd (λk hk mb h1 h2=>by
     rcases K.mem i k hk mb with h|h
     .exact Aif
     .exact Zq ⟨h1,.inr h2⟩ (Un h b).1)]
    by_cases hw:NP (L i).2 b
    .rw[Ps hw];exact r3 b hw
    .rw[Ng hw,r4 b hw];exact ht b
   .intro x
    rw[xf (D:=λk=>IH.getD k false) VI hgd (λk hk mb h1 h2=>by
     have Ld:ops[k]?=some ops[k]:=Bv mb;rcases K.AAO i k o _ hk ho Ld with h|h
     .exact Aif
     .rw[jb]at h1;rw[show ops.toList[k]?=some ops[k] by simp]at h2;exact Zq h2 ((N0 h).1 x h1).2),nU,jb]
    simp only[Option.bind_some];rw[dY]
def lb(bN:dh P ev)(ro:ON){nt:Nat}{ops:Array CI}{id:Nat}(Q:QX){m:NO}{w:World}{s:St}{fr Vz:Tr AV}{a:Act}{s':St}
  (hr:IQ m s.heap.get w)(Kr:FR m nt fr a.tmps)(h:(tS P ev nt ops.toList fr).run s=.ok Vz s')(hf:KF s s')
  (hQ:∀m' a' w',Jt m w m' w'->IQ m' s'.heap.get w'->FR m' nt Vz a'.tmps->a'.defers=a.defers->Q .normal a' w'):(GH id ops true).wpIn (Fw ro) 0 P Q a w:=by
 unfold tS at h;cases KH:Oq ops.toList&&P.follows .mixedOrders with
 |false=>simp only[KH,cond_false]at h;exact(HR h).elim
 |true=>
  simp only[KH,cond_true]at h;obtain⟨zG,APL⟩:=and_true KH;obtain⟨q,s1,h1,h2⟩:=I7 h;cases RF:Zt [] q.2 (Ma ops.toList [])with
  |true=>simp only[RF,cond_true]at h2;exact(HR h2).elim
  |false=>
   simp only[RF,cond_false]at h2;obtain⟨rfl,rfl⟩:=IS h2;obtain⟨S,F,V,g1,g2,g3,g4,g5,g6⟩:=UD ops.toList 0 AD h1;simp only[CR,CB]at g3 g4 g5;simp only[Oq,Bk]at zG
   have hK:VK P ev nt ops S F V (λi=>q.2.getD i (0,0)):=by
    refine⟨λi o ho=>?_,λi o ho e he hb=>?_,λi j sS hj=>?_,λi j a b sS ha hb=>?_,?_⟩
    .have:=g6 i o (ED _) Abm;exact Afx
    .have:=TJ zG.1 i o Abm e he hb;omega
    .have hlj:q.2[j]?=some (q.2.getD j (0,0)):=by
      simp only[FC];rw[BZ AA];rfl
     have hli:([]++q.2)[i]?=some (q.2.getD i (0,0)):=by
      simp only[FC,CX];rw[BZ AA];rfl
     exact bH RF i j _ _ AcX hlj hli
    .exact Ru zG.2 i j b a AcX AW Ab0
    .rw[g1,g3];exact hf
   apply wpIn_region_draw;intro tp;rw[APL];show wpOpsIn (Fw ro) 0 P ops Q (FG .any ops tp) a _;unfold FG;apply wpAnyIn_sound
   have aw:∀k,(C9 ops.size false).getD k false=false:=by
    intro k;simp only[CC,Dx];split<;>rfl
   have hHD:∀N b,HD S (λi=>q.2.getD i (0,0)) (λk=>(C9 ops.size false).getD k false) N b=(S 0).heap.get b:=by
    intro N b
    induction N with
    |zero=>rfl
    |succ N ih=>simp only[HD,aw];rw[Ng AD,<- ih];simp only[aw]
   have hFD:∀N x,FD ops.toList F V (λk=>(C9 ops.size false).getD k false) N x=(F 0).get x:=by
    intro N x
    induction N with
    |zero=>rfl
    |succ N ih=>simp only[FD,aw];rw[Ng AD,<- ih];simp only[aw]
   refine qt bN ro hK Q (m0:=m) (w0:=w) (df:=a.defers) (by rw[g3,g4];exact hQ) ops.size _ a _ m s fr AD ?_ ?_ (Jt.drew m w) ?_ ?_ hr.drew Kr rfl
   .exact Ai6
   .intro k _ hk;rw[aw]at hk;cases hk
   .intro b;rw[hHD,g1]
   .intro x;rw[hFD,g2]
end
end
section
section
variable{P:Program} {ev:ah->M AV}
def bj(Iw:Nat)(m:NO)(w:World):List Ed->Prop
 |[]=>True
 |d::ds=>(∃r,d={target:=.collected r,args:=#[]}/\Iw<=r/\w.heap[r]?=some (.deferred (some []))/\(∀b u t e,m b u≠some (r,t,e))/\∀d'∈ds,d'≠d)/\bj Iw m w ds
def bj.ext{Iw:Nat}{m m':NO}{w w':World}(h:Jt m w m' w'):∀{ds:List Ed},bj Iw m w ds->bj Iw m' w' ds
 |[],_=>trivial
 |d::ds,⟨⟨r,h1,h2,h3,h4,h5⟩,h6⟩=>by
  have H5:r<w.heap.size:=(B4.1 h3).1;refine⟨⟨r,h1,h2,by rw[h.Kv r H5 h4];exact h3,λb u t e hm=>?_,h5⟩,bj.ext h h6⟩;rcases h.iI _ _ _ _ _ hm with⟨b',u',t',e',h'⟩|h'
  .exact h4 _ _ _ _ h'
  .omega
def Sj:OT->EZ
 | .normal=> .normal
 | .exit id=> .exit id
 | .ret=> .ret
def QP{b:Gp}{a:Act}{k:List Item}{cs:List Gp}{w:World}{c:DA}:
  step P (lone (b.atR a (.code (.scope c)::k)) cs w)=.next (lone (b.atR a (.code c:: .inScope c::k)) cs w):=
 step_lone_go AcS
def oq{b:Gp}{a:Act}{k:List Item}{cs:List Gp}{w:World}{c:DA}:step P (lone (b.atR a (.inScope c::k)) cs w)=.next (lone (b.atR a k) cs w):=step_lone_go AcS
def dT{F:Fence}{n:Nat}{c:DA}{Q:QX}{a:Act}{w:World}(h:c.wpIn F n P (λe a w=>(∀l,e≠ .goto l)/\Q e a w) a w):(Code.scope c).wpIn F n P Q a w:=by
 intro b k cs hro hb hr;have h0:(lone (b.atR a (.code (.scope c)::k)) cs w).fenced P F:=GB hb hr rfl;obtain⟨e,a₁,w₁,⟨hng,hq⟩,cS⟩:=h b (.inScope c::k) cs hro hb hr;cases e with
 |normal=>exact⟨.normal,a₁,w₁,hq,.head h0 QP (Gq cS (.one (GB hb hr rfl) oq))⟩
 |exit id=>
  have hx:exitTo id (.inScope c::k)=exitTo id k:=by simp[exitTo]
  exact⟨.exit id,a₁,w₁,hq,λk' hk=> .head h0 QP (cS.1 k' (by rw[hx];exact hk)),
   λXB hk=>let⟨k₁,h1,h2⟩:=cS.2 XB (by rw[hx];exact hk);⟨k₁,h1,.head h0 QP h2⟩⟩
 |goto l=>exact Zq rfl (hng l)
 |ret=>exact⟨_,a₁,w₁,hq,.of_steps (.one h0 QP) cS⟩
 |panic ch=>exact⟨_,a₁,w₁,hq,.of_steps (.one h0 QP) cS⟩
 |outgrown=>exact⟨_,a₁,w₁,hq,.of_steps (.one h0 QP) cS⟩
def VL(F:Fence)(n:Nat)(P:Cc)(c:DA)(Q:QX)(a:Act)(w:World):Prop:=
 ∀(b:Gp) (k:List Item) (cs:List Gp),b.roundOf=F.round->F.fn b.fn->F.room (cs.length+1+n)->
  ∃e a' w',Q e a' w'/\ArrivesIn (Machine.fenced P F) P (lone (b.atR a (.code c:: .inLoop c::k)) cs w) b k cs e a' w'
def VH{F:Fence}{n:Nat}{c:DA}{Q:QX}{a:Act}{w:World}(h:c.wpIn F n P (Exit.then (VL F n P c Q) Q) a w):VL F n P c Q a w:=by
 intro b k cs hro hb hr;obtain⟨e,a₁,w₁,hq,cS⟩:=h b (.inLoop c::k) cs hro hb hr;cases e with
 |normal=>
  obtain⟨e₂,a₂,w₂,hq₂,ATF⟩:=hq b k cs hro hb hr;exact⟨e₂,a₂,w₂,hq₂,.of_steps (Gq cS (.one (GB hb hr rfl) stepR_inLoop)) ATF⟩
 |exit id=>exact⟨_,a₁,w₁,hq,.pass (x:=.inLoop c) rfl (λ_ _=> .inl AD) cS⟩
 |goto l=>exact⟨_,a₁,w₁,hq,.pass (x:=.inLoop c) rfl (λ_ _=> .inl AD) cS⟩
 |ret=>exact⟨_,a₁,w₁,hq,.pass (x:=.inLoop c) rfl (λ_ _=> .inl AD) cS⟩
 |panic ch=>exact⟨_,a₁,w₁,hq,.pass (x:=.inLoop c) rfl (λ_ _=> .inl AD) cS⟩
 |outgrown=>exact⟨_,a₁,w₁,hq,.pass (x:=.inLoop c) rfl (λ_ _=> .inl AD) cS⟩
def UL{F:Fence}{n:Nat}{c:DA}{Q:QX}{a:Act}{w:World}(h:VL F n P c Q a w):(Code.loop c).wpIn F n P Q a w:=by intro b k cs hro hb hr;obtain⟨e,a',w',hq,cS⟩:=h b k cs hro hb hr;exact⟨e,a',w',hq,.of_steps (.one (GB hb hr rfl) stepR_loop) cS⟩
def Xt(P:Cc)(ro:ON)(Iw nt:Nat)(c:DA)(x:Tr AV->M (OT×Tr AV)):Prop:=
 ∀⦃m:NO⦄⦃w:World⦄⦃s:St⦄⦃fr:Tr AV⦄⦃p:OT×Tr AV⦄⦃s':St⦄⦃a:Act⦄,(x fr).run s=.ok p s'->IQ m s.heap.get w->FR m nt fr a.tmps->bj Iw m w a.defers->Iw<=w.heap.size->KF s s'->
  ∀Q:QX,(∀m' a' w',Jt m w m' w'->IQ m' s'.heap.get w'->FR m' nt p.2 a'.tmps->bj Iw m' w' a'.defers->Q (Sj p.1) a' w')->c.wpIn (Fw ro) 0 P Q a w
def la{ro:ON}{Iw nt:Nat}{x y:DA}{X Y:Tr AV->M (OT×Tr AV)}(hx:Xt P ro Iw nt x X)(hy:Xt P ro Iw nt y Y):
  Xt P ro Iw nt (.seq x y) (λfr=>do
   let p<-X fr
   match p.1 with
   | .normal=>Y p.2
   |e=>pure (e,p.2)):=by
 intro m w s fr p s' a h hr Kr hd Kj hf Q hQ;obtain⟨q,s1,h1,h2⟩:=I7 h;obtain⟨f1,f2⟩:=BT h1 h2 hf;apply wpIn_seq;refine hx h1 hr Kr hd Kj f1 _ λm1 a1 w1 e1 r1 UN d1=>?_;obtain⟨qe,qf⟩:=q;cases qe with
 |normal=>exact hy h2 r1 UN d1 (CD Kj e1.size) f2 Q λm2 a2 w2 e2 r2 fr2 d2=>hQ m2 a2 w2 (e1.trans e2) r2 fr2 d2
 |exit id=>
  exact Afv
 |ret=>
  exact Afv
def gd{ro:ON}{Iw nt:Nat}{c:DA}{X:Tr AV->M (OT×Tr AV)}(hx:Xt P ro Iw nt c X)(U7:Nat):Xt P ro Iw nt (.loop c) (wK X U7):=by
 have key:∀(U7:Nat) {m:NO} {w:World} {s:St} {fr:Tr AV} {p:OT×Tr AV} {s':St} {a:Act},(wK X U7 fr).run s=.ok p s'->IQ m s.heap.get w->FR m nt fr a.tmps->bj Iw m w a.defers->Iw<=w.heap.size->KF s s'->
   ∀Q:QX,(∀m' a' w',Jt m w m' w'->IQ m' s'.heap.get w'->FR m' nt p.2 a'.tmps->bj Iw m' w' a'.defers->Q (Sj p.1) a' w')->VL (Fw ro) 0 P c Q a w:=by
  intro U7
  induction U7 with
  |zero=>intro m w s fr p s' a h;exact(HR h).elim
  |succ U7 ih=>
   intro m w s fr p s' a h hr Kr hd Kj hf Q hQ;obtain⟨q,s1,h1,h2⟩:=I7 h;obtain⟨f1,f2⟩:=BT h1 h2 hf;apply VH;refine hx h1 hr Kr hd Kj f1 _ λm1 a1 w1 e1 r1 UN d1=>?_;obtain⟨qe,qf⟩:=q;cases qe with
   |normal=>exact ih h2 r1 UN d1 (CD Kj e1.size) f2 Q λm2 a2 w2 e2 r2 fr2 d2=>hQ m2 a2 w2 (e1.trans e2) r2 fr2 d2
   |exit id=>
    exact Afv
   |ret=>
    exact Afv
 intro m w s fr p s' a h hr Kr hd Kj hf Q hQ;exact UL (key U7 h hr Kr hd Kj hf Q hQ)
def IQ.aC{m:NO}{h:Nat->Option Obj}{w:World}(hr:IQ m h w)(PX:EN)(TL:∀a,(w.alloc PX).frozen? a=w.frozen? a):Jt m w m (w.alloc PX)/\IQ m h (w.alloc PX):=by
 refine⟨⟨NO.le_refl m,AD,λb u B t e hm=> .inl ⟨_,_,_,_,hm⟩,λB hB _=>DE w PX B hB,rfl,rfl,TL⟩,⟨λb o hb=>?_,hr.dom,hr.QF,λb u B t e hm=>?_⟩⟩
 .exact(hr.PX b o hb).mono (NO.le_refl m) (λ_=>rfl) λu B t e hm=>DE w PX B (hr.lt _ _ _ _ _ hm)
 .rw[Dz];have:=hr.lt _ _ _ _ _ hm;omega
def QN{B:Nat}{r:Loop}{w:World}(h:w.heap[B]?=some (.loop r)):(Fp B).run P w=.ok r w:=by simp[Fp,FM,Em,h]
def QO{B:Nat}{r:Loop}{w:World}(h:w.heap[B]?=some (.loop r))(o:EN):(GA B o).run P w=.ok () (World.Ji w B o):=by simp only[GA,Em,h];rfl
def ij{m:NO}{h:Nat->Option Obj}{w:World}(hr:IQ m h w){b B t e:Nat}{L L':uB}(hb:h b=some (.loop L))(hm:m b 0=some (B,t,e))
  {r r':Loop}(hw:w.heap[B]?=some (.loop r))(ho:∀w',w'.heap[B]?=some (.loop r')->ag m w' b (.loop L')):
  Jt m w m (World.Ji w B (.loop r'))/\IQ m (λx=>if x=b then some (.loop L')else h x) (World.Ji w B (.loop r')):=by
 obtain⟨g1,g2,g3,g4⟩:=L7 w B _ (.loop r') hw AdZ AdZ;exact hr.ALf (NO.le_refl m) (λ_ _ _=>rfl) ⟨0,t,e,hm⟩ (λu B' t' e' hh=>⟨u,t',e',hh⟩) g2 g3 rfl rfl g4 (ho _ g1) ⟨_,hb⟩
def cK(bN:dh P ev){Iw nt:Nat}{f:Cb}{params:Array Tmp}{assign body:DA}:
  Xt P none Iw nt (.rangeFunc f params assign body) (λfr=>match Oh fr f with
   |some (.func (.func g) first K8)=>match P.funcs[g]? with
    |some fn=>match fn.body with
     |some _=>bif fn.name== "runtime.NumGoroutine"then H9 else do
      let l<-newObj (.loop {params,tmps:=fr,nt,assign,body,state:=.ready,pending:=.normal})
      let _<-ev (.call g (first++[.func (.yield l) [] []]++K8))
      let e<-n8 l Va
      pure (e,fr)
     |none=>H9
    |none=>H9
   |_=>H9):=by
 intro m w s fr p s' a h hr Kr hd Kj hf Q hQ;simp only at h;split at h
 .rename_i g first K8 hef
  split at h
  .rename_i fn QU;split at h
   .rename_i cc hb;cases hn:fn.name== "runtime.NumGoroutine"with
    |true=>simp only[hn,cond_true]at h;exact(HR h).elim
    |false=>
     simp only[hn,cond_false]at h;obtain⟨l,s1,h1,h2⟩:=I7 h;obtain⟨v,s2,h3,h4⟩:=I7 h2;obtain⟨e,s3,h5,h6⟩:=I7 h4;obtain⟨rfl,rfl⟩:=IS h6;obtain⟨f1,f2⟩:=BT h1 h2 hf;obtain⟨f3,f4⟩:=BT h3 h4 f2;obtain⟨hl,hh1,Yz⟩:=zf h1;have hfv:=QJ Kr hef;generalize hgv:a.eval f=fv at hfv;cases hfv with
     |func _ _ _ fs cs _ hfs Jw=>
      apply wpIn_rangeFunc;intro AJo _;have hD:∀c t fr,(Go.Obj.deferred (some []))=.cells c t fr->fr=(0,0):=λc t fr h=>by cases h
      obtain⟨e1,r1⟩:=hr.aC (.deferred (some [])) (KY w _ hD);have MR:s.heap.get l=none:=by rw[hl];exact f1 _ (Bd _) AA
      let QA:Loop:={state:=.ready,pending:=none,fn:=AJo,tmps:=a.tmps,params,assign,body,defers:=w.heap.size}
      obtain⟨m1,e2,r2,Yx⟩:=r1.new MR (.loop {params,tmps:=fr,nt,assign,body,state:=.ready,pending:=.normal}) (.loop QA) 0 0 (by
       intro m' hle Sl Ja;refine⟨λu=>by rw[Sl];split<;>simp_all,λB t e hm=>?_⟩;rw[Sl]at hm;simp only[if_true,Ba,CM]at hm;obtain⟨rfl,rfl,rfl⟩:=hm;exact⟨AJo,a.tmps,none,w.heap.size,Ja,Kr.mono hle,rfl⟩) (KY _ _ AdZ)
      have APc:(w.alloc (.deferred (some []))).heap.size=w.heap.size+1:=AD;rw[APc]at Yx;have xT:=e1.trans e2
      have Vf:=bN.call g (first++[.func (.yield l) [] []]++K8) s1 v s2 h3 m1 ((w.alloc (.deferred (some []))).alloc (.loop QA)) (fs++[FL (.yield (w.heap.size+1)) #[] #[]]++cs)
       (r2.congr λx=>by rw[hh1,BR,hl]) (((hfs.mono xT.le).append (.one (.yield _ _ _ _ Yx))).append (Jw.mono xT.le)) f3
      refine⟨w.heap.size+1,[{target:=.collected w.heap.size,args:=#[]}],(w.alloc (.deferred (some []))).alloc (.loop QA),{target:=.fn (.func g) cs.toArray,args:=fs.toArray++#[FL (.yield (w.heap.size+1)) #[] #[]]},
       (w.alloc (.deferred (some []))).alloc (.loop QA),g,(fs++[FL (.yield (w.heap.size+1)) #[] #[]]++cs).toArray,(w.alloc (.deferred (some []))).alloc (.loop QA),?_,?_,λ_ _=>trivial,?_,λh=>by simp[Fw,Cy]at h,?_⟩
      .simp only[Instr.enterLoop,Fw,Bh];have RT:∀(w:World) (o:EN),(Go.newObj o).run P w=.ok w.heap.size (w.alloc o):=λw o=>rfl;simp only[RT,Result.andThen_ok,Sem.run_pure,APc];rfl
      .show Em P (CQ (a.eval f) _) _=_;rw[hgv];have Ok:Array.map a.eval (rangeCall f (w.heap.size+1)).args=#[FL (.yield (w.heap.size+1)) #[] #[]]:=by simp[Act.eval]
       rw[Ok];rfl
      .simp only[invoke,DC,Bh,run_program,Result.andThen_ok,QU,hn,Ch,if_false,hb,Option.isNone_some];simp
      .have Wy:E7 (Fw none) (0-1) P g (fs++[FL (.yield (w.heap.size+1)) #[] #[]]++cs).toArray ((w.alloc (.deferred (some []))).alloc (.loop QA)) (qi m1 ((w.alloc (.deferred (some []))).alloc (.loop QA)) s2 v):=Vf;refine Wy.mono ?_;rintro en w3 ⟨m3,v3,rfl,e3,r3,hv3⟩;obtain⟨o,o',g1,g2,g3,g4⟩:=dR h5;cases o with
       |Gy r=>simp[Va]at g2
       |map es=>simp[Va]at g2
       |loop L=>
        obtain⟨_,hL⟩:=r3.PX _ _ g1;have cV:=e3.le _ _ _ Yx;obtain⟨fn3,ny,fS,Wn,q1,q2,q3⟩:=hL _ _ _ cV
        have KH:L.state≠ .busy:=by
         intro ABS;simp only[Va,ABS]at g2;cases g2
        have T7:(e,o')=(L.pending,Obj.loop {L with state:=.exhausted}):=by
         simp only[Va]at g2;revert g2
         cases hs:L.state<;>intro g2
         .simpa using g2.symm
         .exact Zq hs KH
         .simpa using g2.symm
         .simpa using g2.symm
        simp only[CM]at T7;obtain⟨rfl,rfl⟩:=T7
        obtain⟨e4,r4⟩:=ij (L':={L with state:=.exhausted}) (r':={state:=.exhausted,pending:=fS,fn:=fn3,tmps:=ny,params:=L.params,assign:=L.assign,body:=L.body,defers:=Wn}) r3 g1 cV q1 (λw' Qy=>
         ⟨(r3.PX _ _ g1).1,λB t e hh=>by rw[cV]at hh;cases hh;exact⟨fn3,ny,fS,Wn,Qy,q2,q3⟩⟩)
        have Vg:(Fs (w.heap.size+1)).run P w3=.ok fS (World.Ji w3 (w.heap.size+1) (.loop {state:=.exhausted,pending:=fS,fn:=fn3,tmps:=ny,params:=L.params,assign:=L.assign,body:=L.body,defers:=Wn})):=by
         have hbq:(L.state==LoopState.busy)=false:=by
          cases hs:L.state with
          |busy=>exact Zq hs KH
          |_=>rfl
         simp only[Fs,Bh,QN q1,Result.andThen_ok,hbq,Ch,if_false,QO q1];rfl
        have AFP:=(xT.trans e3).trans e4
        have hQ':=hQ m3 {a with defers:=[{target:=.collected w.heap.size,args:=#[]}]++a.defers} _ AFP (r4.congr λx=>by rw[g3,BR]) (Kr.mono AFP.le) (by
         have ATt:bj Iw m (w.alloc (.deferred (some []))) ([{target:=.collected w.heap.size,args:=#[]}]++a.defers):=by
          refine⟨⟨w.heap.size,rfl,Kj,EK w _,λb u t e hm=>?_,?_⟩,hd.ext e1⟩
          .have:=hr.lt _ _ _ _ _ hm;omega
          .intro d' hd' hde;exact AfW
         exact((ATt.ext e2).ext e3).ext e4)
        refine⟨fS,_,Vg,?_⟩;cases hp:L.pending with
        |normal=>
         rw[hp]at q3 hQ';have:fS=none:=q3;subst this;exact hQ'
        |exit id=>
         rw[hp]at q3 hQ';have:fS=some (.exit id):=q3;subst this;exact wpIn_exit hQ'
        |ret=>
         rw[hp]at q3 hQ';have:fS=some .ret:=q3;subst this;exact wpIn_ret hQ'
   .exact AfP
  .exact AfP
 .exact AfP
def AFM(P:Cc)(ev:ah->M AV)(nt:Nat)(rnd:Bool)(c:DA)(fr:Tr AV):pK P ev nt rnd (.loop c) fr=wK (pK P ev nt rnd c) nB fr:=by rw[pK]
def rX(bN:dh P ev)(ro:ON)(Iw nt:Nat)(c:DA):Xt P ro Iw nt c (pK P ev nt ro.isSome c):=by
 induction c with
 |skip=>
  intro m w s fr p s' a h hr Kr hd Kj hf Q hQ;obtain⟨rfl,rfl⟩:=IS h;exact wpIn_skip (hQ _ _ _ (Jt.refl _ _) hr Kr hd)
 |label _=>
  intro m w s fr p s' a h hr Kr hd Kj hf Q hQ;obtain⟨rfl,rfl⟩:=IS h;exact wpIn_label (hQ _ _ _ (Jt.refl _ _) hr Kr hd)
 |exit id=>
  intro m w s fr p s' a h hr Kr hd Kj hf Q hQ;obtain⟨rfl,rfl⟩:=IS h;exact wpIn_exit (hQ _ _ _ (Jt.refl _ _) hr Kr hd)
 |ret=>
  intro m w s fr p s' a h hr Kr hd Kj hf Q hQ;obtain⟨rfl,rfl⟩:=IS h;exact wpIn_ret (hQ _ _ _ (Jt.refl _ _) hr Kr hd)
 |goto _=>
  intro m w s fr p s' a h;exact(HR h).elim
 |refuse _=>
  intro m w s fr p s' a h;exact(HR h).elim
 |region id ops AOC=>
  intro m w s fr p s' a h hr Kr hd Kj hf Q hQ;simp only[pK]at h;cases AOC with
  |true=>
   simp only[cond_true]at h;obtain⟨Vz,s1,h1,h2⟩:=I7 h;obtain⟨rfl,rfl⟩:=IS h2;exact lb bN ro Q hr Kr h1 hf λm' a' w' e1 r1 UN d1=>hQ m' a' w' e1 r1 UN Abn
  |false=>
   simp only[cond_false]at h;obtain⟨Vz,s1,h1,h2⟩:=I7 h;obtain⟨rfl,rfl⟩:=IS h2;exact dH bN ro Q hr Kr h1 hf λm' a' w' e1 r1 UN d1=>hQ m' a' w' e1 r1 UN Abn
 |seq x y ihx ihy=>exact la ihx ihy
 |cond c x y ihx ihy=>
  intro m w s fr p s' a h hr Kr hd Kj hf Q hQ;simp only[pK]at h;split at h
  .rename_i hc;have:=QJ Kr hc;generalize hcv:a.eval c=cv at this;cases this;exact wpIn_cond_true hcv (ihx h hr Kr hd Kj hf Q hQ)
  .rename_i hc;have:=QJ Kr hc;generalize hcv:a.eval c=cv at this;cases this;exact wpIn_cond_false hcv (ihy h hr Kr hd Kj hf Q hQ)
  .exact AfP
 |block id c ih=>
  intro m w s fr p s' a h hr Kr hd Kj hf Q hQ;simp only[pK]at h;obtain⟨q,s1,h1,h2⟩:=I7 h;obtain⟨f1,f2⟩:=BT h1 h2 hf;apply wpIn_block;refine ih h1 hr Kr hd Kj f1 _ λm1 a1 w1 e1 r1 UN d1=>?_;obtain⟨qe,qf⟩:=q;cases qe with
  |normal=>
   exact Afv
  |exit sj=>
   obtain⟨rfl,rfl⟩:=IS h2;have:=hQ m1 a1 w1 e1 r1 UN d1;simp only[Sj,Exit.inBlock];by_cases hid:sj=id
   .subst hid;rw[Ps rfl];simpa[To,Sj]using this
   .rw[Ng hid];simpa[Sf hid,Sj]using this
  |ret=>
   exact Afv
 |loop c ih=>
  intro m w s fr p s' a h;rw[AFM]at h;revert h
  generalize nB=U7;intro h;exact gd ih U7 h
 |scope c ih=>
  intro m w s fr p s' a h hr Kr hd Kj hf Q hQ;apply dT;refine ih h hr Kr hd Kj hf _ λm1 a1 w1 e1 r1 UN d1=>⟨?_,hQ m1 a1 w1 e1 r1 UN d1⟩
  intro l;cases p.1<;>simp[Sj]
 |rangeFunc f params assign body _ _=>
  cases ro with
  |some l=>intro m w s fr p s' a h;exact(HR h).elim
  |none=>
   exact cK bN
end
end
section
open Go.RowKit
section
variable{P:Program}
def AHx{m:NO}{l:List AV}{l':LV}(h:JT m l l'):VR m (ALe l) (if h:l'.toArray.size=1 then l'.toArray[0]else .tuple l'.toArray):=by
 cases h with
 |nil=>exact .tuple _ _ .nil
 |cons a v l l' h1 h2=>
  cases h2 with
  |nil=>exact h1
  |cons b u k k' h3 h4=>
   exact Aii
def Tn{t:Bm}{v u:Bc}{w w':World}(h:(DZ t v).run P w=.ok u w'):(do loadVar t (<- asAddr v):Sem Bc).run P w=.ok u w':=by
 unfold DZ Cu at h;split at h
 .exact h
 .simp[Em,stuck]at h
def tT(tmps:AV0):EG->Sem Bc
 | .tmp t=>pure (tmps.getD t undef)
 | .cell a t=>do loadVar t (<- asAddr (tmps.getD a undef))
def XP(fn:Eb)(tmps:AV0):results fn tmps=(Functor.map List.toArray (fn.results.toList.mapM (tT tmps)))>>=λvs=>pure (if h:vs.size=1 then vs[0]else .tuple vs):=by
 have h:∀g:EG->Sem Bc,g=tT tmps->(fn.results.mapM g>>=λvs=>(pure (if h:vs.size=1 then vs[0]else .tuple vs):Sem Bc))=(Functor.map List.toArray (fn.results.toList.mapM (tT tmps)))>>=λvs=>pure (if h:vs.size=1 then vs[0]else .tuple vs):=by
  rintro _ rfl;rw[Array.mapM_eq_mapM_toList]
 refine h _ (funext λx=>?_);cases x<;>rfl
def ZU{m:NO}{w:World}{nt:Nat}{fr:Tr AV}{tmps:AV0}(Kr:FR m nt fr tmps):∀(rs:List EG) {s:St} {l:List AV} {s':St},(Vw P fr rs).run s=.ok l s'->IQ m s.heap.get w->
  ∃l',(rs.mapM (tT tmps)).run P w=.ok l' w/\JT m l l'/\s'.heap=s.heap
 |[],s,l,s',h,hr=>by
  obtain⟨rfl,rfl⟩:=IS h;exact⟨[],AD,.nil,rfl⟩
 | .tmp t::rs,s,l,s',h,hr=>by
  obtain⟨l1,s1,h1,h2⟩:=I7 h;obtain⟨rfl,rfl⟩:=IS h2;obtain⟨l',g1,g2,g3⟩:=ZU Kr rs h1 hr;refine⟨tmps.getD t undef::l',?_,.cons _ _ _ _ (Kr.get t) g2,g3⟩;rw[List.mapM_cons];simp only[tT,pure_bind,Bh,g1,Result.andThen_ok,Sem.run_pure]
 | .cell a t::rs,s,l,s',h,hr=>by
  obtain⟨x,s0,h0,h3⟩:=I7 h;obtain⟨l1,s1,h1,h2⟩:=I7 h3;obtain⟨rfl,rfl⟩:=IS h2;obtain⟨v,k1,k2,k3,k4⟩:=m9 (P:=P) hr h0 (Kr.get a);obtain⟨l',g1,g2,g3⟩:=ZU Kr rs h1 (s:=s0) (by rw[k3];exact hr);refine⟨v::l',?_,.cons _ _ _ _ k2 g2,g3.trans k3⟩;have k1':(tT tmps (.cell a t)).run P w=.ok v w:=Tn k1;rw[List.mapM_cons,Bh,k1'];simp only[Bh,g1,Result.andThen_ok,Sem.run_pure]
def QK{fn:Eb}{tmps:AV0}{R:Ending->World->Prop}{m m1:NO}{w:World}{h:Nat->Option Obj}:
  ∀(ds:List Ed) {w1:World},Jt m w m1 w1->IQ m1 h w1->bj w.heap.size m1 w1 ds->(∀w2,Jt m w m1 w2->IQ m1 h w2->LeavesIn Cy 0 P fn tmps R [] .returning w2)->
   LeavesInM Cy 0 P fn tmps R ds .returning w1
 |[],w1,he,hr,_,hk=>hk w1 he hr
 |d::ds,w1,he,hr,⟨⟨r,h1,h2,h3,h4,h5⟩,h6⟩,hk=>by
  subst h1;refine⟨(by intro h;cases h),.inl ⟨r,World.Ji w1 r (.deferred none),rfl,?_,?_⟩⟩
  .have JU:(FM r).run P w1=.ok (.deferred (some [])) w1:=by simp[FM,Em,h3]
   have ml:(GA r (.deferred none)).run P w1=.ok () (World.Ji w1 r (.deferred none)):=by simp only[GA,Em,h3];rfl
   exact Aiu
  .obtain⟨g1,g2,g3,g4⟩:=L7 w1 r _ (.deferred none) h3 AdZ AdZ;refine QK ds (m1:=m1) ⟨he.le,by rw[g3];exact he.size,he.iI,λB hB hn=>?_,he.os,he.output,λa=>(g4 a).trans (he.M4 a)⟩ ⟨λb o hb=>?_,hr.dom,hr.QF,λb u B t e hm=>?_⟩ ?_ hk
   .rw[g2 B AA];exact he.Kv B hB hn
   .refine(hr.PX b o hb).mono (NO.le_refl m1) (λ_=>rfl) λu B t e hm=>g2 B ?_;rintro rfl;exact h4 _ _ _ _ hm
   .rw[g3];exact hr.lt _ _ _ _ _ hm
   .have key:∀ds,bj w.heap.size m1 w1 ds->(∀d'∈ds,d'≠({target:=.collected r,args:=#[]}:Ed))->bj w.heap.size m1 (World.Ji w1 r (.deferred none)) ds:=by
     intro ds
     induction ds with
     |nil=>intro _ _;trivial
     |cons d0 ds ih=>
      rintro⟨⟨q,k1,k2,k3,k4,k5⟩,k6⟩ MT;refine⟨⟨q,k1,k2,?_,k4,k5⟩,ih k6 λd' hd'=>MT d' (Co _ hd')⟩;rw[g2 q Acm];exact k3
    exact key ds h6 h5
def ed{m:NO}{args:List AV}{HW:LV}(h:JT m args HW)(n:Nat):
  FR m (max args.length n) (Qu args 0 .nil) (HW.toArray++C9 (n-HW.toArray.size) undef):=by
 have hl:=h.length;refine⟨by simp;omega,λt=>?_⟩;rw[T3];by_cases ht:t<args.length
 .rw[Ps ⟨ED _,AA⟩];obtain⟨v,g1,g2⟩:=h.get (BZ ht)
  have:(HW.toArray++C9 (n-HW.toArray.size) undef).getD t undef=v:=by
   rw[CC,EV AB];simp[g1]
  rw[this,Nat.sub_zero,BZ ht];exact g2
 .rw[Ng AA]
  have:(HW.toArray++C9 (n-HW.toArray.size) undef).getD t undef=undef:=by
   exact AjA
  rw[this];simp only[Tr.get,Option.getD_none];exact .tuple _ _ .nil
def dp{m:NO}{nt:Nat}:∀(ps:LN) {args:List AV} {HW:LV} {fr Vz:Tr AV} {tmps:AV0},OW nt fr ps args=some Vz->JT m args HW->FR m nt fr tmps->
  HW.length=ps.length/\FR m nt Vz ((ps.zip HW).foldl (λtmps (t,a)=>tmps.setIfInBounds t a) tmps)
 |[],args,HW,fr,Vz,tmps,h,ha,hf=>by
  cases ha with
  |nil=>simp only[OW,Ba]at h;subst h;exact⟨rfl,hf⟩
  |cons _ _ _ _ _ _=>simp[OW]at h
 |p::ps,args,HW,fr,Vz,tmps,h,ha,hf=>by
  cases ha with
  |nil=>simp[OW]at h
  |cons a v l l' h1 h2=>
   simp only[OW]at h;cases hp:C5 p nt with
   |false=>simp[hp]at h
   |true=>
    simp only[hp,cond_true]at h;obtain⟨g1,g2⟩:=dp ps h h2 (hf.set (Tq hp) h1);exact⟨by simp[g1],by simpa using g2⟩
def xC(P:Cc)(ev:ah->M AV):ah->M AV
 | .call f args=>match P.funcs[f]? with
  |some fn=>match fn.body with
   |some c=>do
    let p<-pK P ev (max args.length fn.ntmps) false c (Qu args 0 .nil)
    match p.1 with
    | .exit _=>H9
    |_=>do
     let l<-Vw P p.2 fn.results.toList
     pure (ALe l)
   |none=>H9
  |none=>H9
 | .round l args=>do
  let L<-jd l Ys
  match OW L.nt L.tmps L.params.toList args with
  |some fr=>do
   let p<-pK P ev L.nt true L.assign fr
   match p.1 with
   | .normal=>do
    n8 l (Nj λL=>match L.state with| .ready=>some {L with state:=.busy}|_=>none)
    let q<-pK P ev L.nt true L.body p.2
    match q.1 with
    | .normal=>do
     n8 l (Nj λL=>some {L with state:=.ready,pending:=.normal})
     pure (.bool true)
    |e=>do
     n8 l (Nj λL=>some {L with state:=.done,pending:=e})
     pure (.bool false)
   |_=>H9
  |none=>H9
def yX(P:Cc)(n:Nat)(t:ah):Yl P (n+1) t=xC P (Yl P n) t:=by cases t<;>rfl
def AHo{ev:ah->M AV}(bN:dh P ev):dh P (xC P ev):=by
 refine⟨?_,?_⟩
 .intro f args s v s' h m w HW hr ha hf;simp only[xC]at h;split at h
  .rename_i fn QU;split at h
   .rename_i c hb;obtain⟨p,s1,h1,h2⟩:=I7 h;obtain⟨f1,f2⟩:=BT h1 h2 hf;refine callsIn_of_wp_marks QU hb trivial ?_;have AO0:=rX bN none w.heap.size (max args.length fn.ntmps) c;refine AO0 (a:={tmps:=_,defers:=[]}) h1 hr (ed ha fn.ntmps) trivial (Bd _) f1 _ λm1 a1 w1 e1 r1 UN d1=>?_
    have AF5:(Vw P p.2 fn.results.toList>>=λl=>pure (ALe l)).run s1=.ok v s'->LeavesInM Cy 0 P fn a1.tmps (qi m w s' v) a1.defers .returning w1:=by
     intro h2;obtain⟨l,s2,h3,h4⟩:=I7 h2;obtain⟨rfl,rfl⟩:=IS h4;refine QK a1.defers e1 r1 d1 λw2 e2 r2=>?_;obtain⟨l',g1,g2,g3⟩:=ZU UN _ h3 r2;refine⟨_,?_,m1,_,rfl,e2,by rw[g3];exact r2,AHx g2⟩;rw[XP,Bh];simp only[map_eq_pure_bind,Bh,g1,Result.andThen_ok,Sem.run_pure]
    obtain⟨pe,pf⟩:=p;cases pe with
    |normal=>exact AF5 h2
    |exit id=>exact(HR h2).elim
    |ret=>exact AF5 h2
   .exact AfP
  .exact AfP
 .intro l args s v s' h m w HW hr ha hf B t e hm;simp only[xC]at h;obtain⟨L,s1,h1,h2⟩:=I7 h;obtain⟨o,g1,g2,g3,g4⟩:=fN h1;have AW7:=hf.right h1;cases o with
  |Gy r=>simp[Ys]at g2
  |map es=>simp[Ys]at g2
  |loop L0=>
   simp only[Ys,Ba]at g2;subst g2;obtain⟨_,hL⟩:=hr.PX _ _ g1;obtain⟨fn0,AM7,Abb,AVO,q1,q2,q3⟩:=hL _ _ _ hm;split at h2
   .rename_i fr ATI;obtain⟨b1,b2⟩:=dp L0.params.toList ATI ha q2;refine⟨_,q1,by simpa using b1,?_⟩
    have hz:(L0.params.zip HW.toArray).foldl (λtmps (t,a)=>tmps.setIfInBounds t a) AM7=(L0.params.toList.zip HW).foldl (λtmps (t,a)=>tmps.setIfInBounds t a) AM7:=by
     rw[<- Array.foldl_toList];simp
    simp only;rw[hz];refine roundIn_of_wpIn trivial ?_;obtain⟨p,s2,h3,h4⟩:=I7 h2;obtain⟨f3,f4⟩:=BT h3 h4 AW7;have VJ:IQ m s1.heap.get w:=by rw[g3];exact hr
    have AO0:=rX bN (some B) 0 L0.nt L0.assign;refine AO0 (a:={tmps:=_,defers:=[]}) h3 VJ b2 trivial (ED _) f3 _ λm1 a1 w1 e1 r1 UN d1=>?_;obtain⟨pe,pf⟩:=p;cases pe with
    |exit id=>exact(HR h4).elim
    |ret=>exact(HR h4).elim
    |normal=>
     obtain⟨_,s3,h5,h6⟩:=I7 h4;obtain⟨f5,f6⟩:=BT h5 h6 f4;obtain⟨o,o',k1,k2,k3,k4⟩:=dR h5;cases o with
     |Gy r=>simp[Nj]at k2
     |map es=>simp[Nj]at k2
     |loop L1=>
      obtain⟨_,hL1⟩:=r1.PX _ _ k1;have Yx:=e1.le _ _ _ hm;obtain⟨fn1,AHv,AHN,rW,p1,p2,p3⟩:=hL1 _ _ _ Yx
      have KH:L1.state=.ready/\o'=.loop {L1 with state:=.busy}:=by
       simp only[Nj]at k2;revert k2
       cases hs:L1.state<;>intro k2<;>simp_all
      obtain⟨KH,rfl⟩:=KH
      obtain⟨e2,r2⟩:=ij (L':={L1 with state:=.busy}) (r':={state:=.busy,pending:=AHN,fn:=fn1,tmps:=AHv,params:=L1.params,assign:=L1.assign,body:=L1.body,defers:=rW}) r1 k1 Yx p1 (λw' Qy=>
        ⟨(r1.PX _ _ k1).1,λB t e hh=>by rw[Yx]at hh;cases hh;exact⟨fn1,AHv,AHN,rW,Qy,p2,p3⟩⟩)
      refine⟨World.Ji w1 B (.loop {state:=.busy,pending:=AHN,fn:=fn1,tmps:=AHv,params:=L1.params,assign:=L1.assign,body:=L1.body,defers:=rW}),?_,?_⟩
      .simp only[Instr.beginRound,Bh,QN p1,Result.andThen_ok,QO p1,KH];rfl
      .obtain⟨q,s4,h7,h8⟩:=I7 h6;obtain⟨f7,f8⟩:=BT h7 h8 f6;have ATP:=rX bN (some B) 0 L0.nt L0.body;refine ATP h7 (r2.congr λx=>by rw[k3,BR]) (UN.mono e2.le) (d1.ext e2) (ED _) f7 _ λm3 a3 w3 e3 r3 fr3 d3=>?_;have AFP:=(e1.trans e2).trans e3
       have Vg:∀(pe:OT) (ay:Option DA) (st:LoopState) (v':AV),ARW pe ay->(n8 l (Nj λL=>some {L with state:=st,pending:=pe})>>=λ_=>pure v').run s4=.ok v s'->(st=if ay.isNone then .ready else .done)->VR m3 v' (.bool ay.isNone)->
         ∃v w',(Fg B ay).run P w3=.ok v w'/\qi m w s' v' (.returned v) w':=by
        intro pe ay st v' hp hu KH hv;obtain⟨_,s5,h9,jD⟩:=I7 hu;obtain⟨rfl,rfl⟩:=IS jD;obtain⟨o,o',j1,j2,j3,j4⟩:=dR h9;cases o with
        |Gy r=>simp[Nj]at j2
        |map es=>simp[Nj]at j2
        |loop L3=>
         simp only[Nj,Ba,CM,true_and]at j2;subst j2;obtain⟨_,hL3⟩:=r3.PX _ _ j1;have cV:=AFP.le _ _ _ hm;obtain⟨fn3,ny,fS,Wn,u1,u2,u3⟩:=hL3 _ _ _ cV
         obtain⟨e4,r4⟩:=ij (L':={L3 with state:=st,pending:=pe}) (r':={state:=st,pending:=ay,fn:=fn3,tmps:=ny,params:=L3.params,assign:=L3.assign,body:=L3.body,defers:=Wn}) r3 j1 cV u1 (λw' Qy=>
          ⟨(r3.PX _ _ j1).1,λB t e hh=>by rw[cV]at hh;cases hh;exact⟨fn3,ny,ay,Wn,Qy,u2,hp⟩⟩)
         refine⟨.bool ay.isNone,World.Ji w3 B (.loop {state:=st,pending:=ay,fn:=fn3,tmps:=ny,params:=L3.params,assign:=L3.assign,body:=L3.body,defers:=Wn}),?_,m3,_,rfl,AFP.trans e4,r4.congr (λx=>by rw[j3,BR]),hv⟩;simp only[Fg,Bh,QN u1,Result.andThen_ok,QO u1,KH];rfl
       obtain⟨qe,qf⟩:=q;cases qe with
       |normal=>
        have hv:v=.bool true:=by
         exact Ahq
        subst hv;exact Vg .normal none .ready _ rfl h8 rfl (.bool _)
       |exit id=>
        have hv:v=.bool false:=by
         exact Ahq
        subst hv;exact Vg (.exit id) (some (.exit id)) .done _ rfl h8 rfl (.bool _)
       |ret=>
        have hv:v=.bool false:=by
         exact Ahq
        subst hv;exact Vg .ret (some .ret) .done _ rfl h8 rfl (.bool _)
   .exact(HR h2).elim
def ef:∀n,dh P (Yl P n)
 |0=>⟨λf args s v s' h=>(HR h).elim,λl args s v s' h=>(HR h).elim⟩
 |n+1=>by
  have h:=AHo (ef n);have e:Yl P (n+1)=xC P (Yl P n):=funext λt=>yX P n t;rw[e];exact h
def st0:St:={heap:=.nil,next:=0,rd:=0,wr:=0}
def Jt.vM{w w':World}{m':NO}(h:Jt (λ_ _=>none) w m' w'):Grown w w':=by refine⟨⟨h.os,h.output,λi hi=>?_⟩,h.M4,h.size⟩;rw[h.Kv i hi Aeg];split<;>simp_all
end
end
end Go.Ab
