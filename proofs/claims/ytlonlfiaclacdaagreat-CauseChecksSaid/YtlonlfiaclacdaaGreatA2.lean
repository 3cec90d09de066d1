/- Part of the proof of CauseChecks (own work, made small). -/
import Derived.Test.YtlonlfiaclacdaaGreatA1
import Derived.RangeFuncIn
import Derived.OrdersIn
import Derived.RangeFuncLeaves
import Derived.RowKit3
set_option linter.all false
set_option maxRecDepth 100000
open Array renaming getD_eq_getD_getElem?->Cg,getElem?_eq_some_iff->CU,getElem?_setIfInBounds->Dg
open Bool renaming and_eq_true->Bo,not_eq_true'->Dl,or_eq_true->D6
open Go renaming Obj->EE,Code->C5,Exit->Ef,Frame->Fu,Func->Dm,FuncId->B9,Oper->CW,Operand->Cy,Program->Cf,ResultVar->D8,TypeId->Bz,TypeInfo->Eg,Value->Bk,execOp->Cr,fenced_calm->E8,grownCap->Cx,run_firstCells_some->Dq,run_underlying->Bv
open Go.Addr renaming add_lit->DC
open Go.Builtin renaming append_->C0,firstCells->FX,lenOf->ET,nextslicecap->EY,zeroCells->Ci
open Go.Fence renaming wide->DF
open Go.Instr renaming loadAt->Dr,sureAddr->DJ
open Go.Question renaming forced->Ft
open Go.Region renaming binds->DB
open Go.Sem renaming run->Ek,run_bind->B6
open Go.StepsIn renaming trans->Fv
open Go.World renaming frozen?->DX
open List renaming all_eq_true->CY,append_assoc->B3,countP_append->FY,getD->FL,getElem?_append_left->CL,length_append->Bd,length_cons->CE,mem_range->Da,range->CS
open Nat renaming zero_add->CZ
open Option.some renaming injEq->Bh
open Prod.mk renaming injEq->Ch
namespace Go.Ab
section
section
variable{P:Program} {w:World}
def World.KE(w:World)(B:Nat)(o:EE):World:={w with heap:=w.heap.setIfInBounds B o}
def S9(w:World)(B:Nat)(MH:Array MapEntry)(Ga:Nat)(h:w.heap[B]?=some (.map MH Ga))(o:EE):(setObj B o).run P w=.ok () (World.KE w B o):=by simp only[setObj,Ek,h];rfl
def Mx(w:World)(B:Nat)(o o':EE)(h:w.heap[B]?=some o)(h1:∀c t fr,o≠ .cells c t fr)(h2:∀c t fr,o'≠ .cells c t fr):
  (World.KE w B o').heap[B]?=some o'/\(∀k,k≠B->(World.KE w B o').heap[k]?=w.heap[k]?)/\(World.KE w B o').heap.size=w.heap.size/\
  ∀a,(World.KE w B o').frozen? a=w.frozen? a:=by
 have hB:B<w.heap.size:=(CU.1 h).1;have e1:(World.KE w B o').heap[B]?=some o':=by simp[World.KE,hB]
 have e2:∀k,k≠B->(World.KE w B o').heap[k]?=w.heap[k]?:=λk hk=>by
  simp only[World.KE];rw[Array.getElem?_setIfInBounds_ne (Ne.symm hk)]
 refine⟨e1,e2,by simp[World.KE],λa=>?_⟩;by_cases e:a.block=B
 .simp only[DX,e,e1,h];cases o' with
  |cells c t fr=>exact Zq rfl (h2 c t fr)
  |_=>
   cases o with
   |cells c t fr=>exact Zq rfl (h1 c t fr)
   |_=>rfl
 .simp only[DX,e2 _ e]
end
end
section
section
variable{P:Program} {w:World}
def Rd(t t' ty e:Bz)(i:Eg)(d:Bz)(ht:P.underlying t=some (.slice e))(VP:P.underlying t'=some (.slice d))(hi:P.info? e=some i)
  (s:Bk)(IW:Option Addr)(Sa Zj:Nat)(hs:s=.slice IW Sa Zj)(hc:Sa<=Zj)(x:Bk)(hx:x=.slice none 0 0\/∃a c,x=.slice (some a) 0 c)(w:World):
  (C0 #[t,t'] ty #[s,x]).run P w=.ok s w:=by
 subst hs;rcases hx with rfl|⟨a,c,rfl⟩
 .cases IW<;>simp[C0,Bv ht,Bv VP,sizeOf,typeInfo,hi,ET,hc,FX,storeCells]
 .cases IW<;>simp[C0,Bv ht,Bv VP,sizeOf,typeInfo,hi,ET,hc,FX,storeCells,loadCells,loadCellsFrom]
def fC(t t' ty e d:Bz)(i:Eg)(z:Bk)(ht:P.underlying t=some (.slice e))(VP:P.underlying t'=some (.slice d))(hi:P.info? e=some i)(hz:i.zero=some z)
  (a:Addr)(n c:Nat)(KI:LV)(hl:KI.length=n*i.size)(et:∀j v,KI[j]?=some v->w.cell? (a.add j)=some v)
  (h0:0<n)(h63:(n:Int)<=9223372036854775807)(h48:n*i.bytes<=281474976710656):
  (C0 #[t,t'] ty #[.slice none 0 0,.slice (some a) n c]).run P w=
   .ok (.slice (some ⟨w.heap.size,0,none⟩) n (Cx w n 0 e)) (w.drew.alloc (.cells (KI.toArray++Ci z.cells (Cx w n 0 e-n)) e)):=by
 have hn:n≠0:=AA;have AL4:¬(9223372036854775807<(n:Int)):=AA;have AL3:¬(281474976710656<EY n 0*i.bytes):=by rw[nextslicecap_zero h0];omega
 have hf:=Dq (P:=P) w.drew i.size n a n c KI hl (by simpa using et);simp[C0,Bv ht,Bv VP,sizeOf,typeInfo,zeroValue,hi,hz,ET,hn,AL4,AL3,Ft,run_firstCells_none,hf,Go.newRow,Cx]
def cA(t t' ty e d:Bz)(i:Eg)(z:Bk)(ht:P.underlying t=some (.slice e))(VP:P.underlying t'=some (.slice d))(hi:P.info? e=some i)(hz:i.zero=some z)
  (b:Addr)(Sa Zj:Nat)(AIB:LV)(pG:AIB.length=Sa*i.size)(holds:∀j v,AIB[j]?=some v->w.cell? (b.add j)=some v)
  (a:Addr)(n c:Nat)(KI:LV)(hl:KI.length=n*i.size)(et:∀j v,KI[j]?=some v->w.cell? (a.add j)=some v)
  (hg:Zj<Sa+n)(h63:((Sa+n:Nat):Int)<=9223372036854775807)(Nd:EY (Sa+n) Zj*i.bytes<=281474976710656):
  (C0 #[t,t'] ty #[.slice (some b) Sa Zj,.slice (some a) n c]).run P w=
   .ok (.slice (some ⟨w.heap.size,0,none⟩) (Sa+n) (Cx w (Sa+n) Zj e))
    (w.drew.alloc (.cells (AIB.toArray++KI.toArray++Ci z.cells (Cx w (Sa+n) Zj e-(Sa+n))) e)):=by
 have hn:¬(Sa+n<=Zj):=AA;have AL4:¬(9223372036854775807<((Sa:Int)+(n:Int))):=AA;have AL3:¬(281474976710656<EY (Sa+n) Zj*i.bytes):=AA;have hf:=Dq (P:=P) w.drew i.size n a n c KI hl (by simpa using et);have hfo:=Dq (P:=P) w.drew i.size Sa b Sa Zj AIB pG (by simpa using holds);simp[C0,Bv ht,Bv VP,sizeOf,typeInfo,zeroValue,hi,hz,ET,hn,AL4,AL3,Ft,hf,hfo,Go.newRow,Cx];congr 2;apply Array.ext';simp[B3]
def cB(t t' ty e d:Bz)(i:Eg)(ht:P.underlying t=some (.slice e))(VP:P.underlying t'=some (.slice d))(hi:P.info? e=some i)
  (B o Sa Zj:Nat)(a:Addr)(n c:Nat)(KI:LV)(hl:KI.length=n*i.size)(et:∀j v,KI[j]?=some v->w.cell? (a.add j)=some v)
  (bN:Sa+n<=Zj){w':World}(I0:(storeCells ⟨B,o+Sa*i.size,none⟩ KI 0).run P w=.ok () w'):
  (C0 #[t,t'] ty #[.slice (some ⟨B,o,none⟩) Sa Zj,.slice (some a) n c]).run P w=.ok (.slice (some ⟨B,o,none⟩) (Sa+n) Zj) w':=by
 have hf:=Dq (P:=P) w i.size n a n c KI hl et;simp[C0,Bv ht,Bv VP,sizeOf,typeInfo,hi,ET,bN,hf,DC,I0]
end
end
section
def Fw(ro:ON):Fence:={DF with round:=ro}
section
variable{P:Program} {w:World}
def kE{t:Bz}{name:String}{f:B9}{pr:Bool}{el:Option Bz}(h:pV P t name=some (f,pr,el)):
  ∃i mt,P.info? t=some i/\i.methods.find? (·.name==name)=some mt/\mt.path.isEmpty=true/\mt.func=some (f,pr)/\
   (∃d,P.underlying t=some d/\((∃e,d=.pointer e/\el=some e)\/((∀e,d≠ .pointer e)/\el=none))):=by
 unfold pV at h;split at h
 .rename_i i hi;split at h
  .rename_i mt ta;cases hp:mt.path.isEmpty with
   |false=>simp[hp]at h
   |true=>
    simp only[hp,cond_true]at h;split at h
    .rename_i f' pr' PR;split at h
     .rename_i e hu;simp only[Bh,Ch]at h;obtain⟨rfl,rfl,rfl⟩:=h;exact⟨i,mt,hi,ta,hp,PR,_,hu,.inl ⟨e,rfl,rfl⟩⟩
     .rename_i d Pt hu;simp only[Bh,Ch]at h;obtain⟨rfl,rfl,rfl⟩:=h;exact⟨i,mt,hi,ta,hp,PR,d,hu,.inr ⟨λe he=>Pt e he,rfl⟩⟩
     .cases h
    .cases h
  .cases h
 .cases h
end
end
section
section
variable{P:Program} {w:World}
def OT{ρ:Cy->Bk}{o:CW}{c:Sem Bk}(he:Cr ρ o=(do pure (.value (<- c)))){v:Bk}{w':World}(hc:c.run P w=.ok v w'):
 (Cr ρ o).run P w=.ok (.value v) w':=by rw[he,B6,hc];rfl
def Xm{ρ:Cy->Bk}{o:CW}{c:Sem Unit}(he:Cr ρ o=(do c;pure .skip)){w':World}(hc:c.run P w=.ok () w'):
 (Cr ρ o).run P w=.ok .skip w':=by rw[he,B6,hc];rfl
def JH{α β:Type}(f:α->β)(a:Array α):(a.map f)=(a.toList.map f).toArray:=by apply Array.ext';simp
end
end
section
section
variable{P:Program} {w:World}
def ACu(tmps:AV0)(d:Nat)(v:Bk)(h:d<tmps.size)(t:Nat):(tmps.setIfInBounds d v).getD t undef=if t=d then v else tmps.getD t undef:=by
 simp only[Cg,Dg];by_cases e:t=d
 .subst e;simp[h]
 .rw[Ng (Ne.symm e),Ng e]
def Uz(a:Act)(d:Option Tmp)(v:Bk):(a.put d v).defers=a.defers:=by cases d<;>rfl
end
end
section
section
variable{P:Program}
def Vp:∀(r:List CW) (HL:LN) (i:Nat),i<HL.length->(Kz r HL).getD i 0=HL.getD i 0
 |[],HL,i,_=>by simp[Kz]
 |o::r,HL,i,h=>by
  simp only[Kz];rw[Vp r _ i AB];simp[FL,CL h]
def kB(HL:LN)(o:CW):Nat:=o.after.toList.foldl (λm e=>bif DB .any e then m|||1<<<e.on|||HL.getD e.on 0 else m) 0
def eX:∀(r:List CW) (HL:LN) (k:Nat) (o:CW),r[k]?=some o->∃tu,tu.length=HL.length+k/\(∀i,i<HL.length+k->tu.getD i 0=(Kz r HL).getD i 0)/\(Kz r HL).getD (HL.length+k) 0=kB tu o
 |[],HL,k,o,h=>by simp at h
 |o'::r,HL,0,o,h=>by
  simp at h;subst h;refine⟨HL,AD,λi hi=>?_,?_⟩
  .simp only[Kz];rw[Vp r _ i (by simp at hi⊢;omega)];simp at hi;simp[FL,CL hi]
  .simp only[Kz];rw[Vp r _ _ AD];simp[FL,kB]
 |o'::r,HL,k+1,o,h=>by
  simp at h;obtain⟨tu,h1,h2,h3⟩:=eX r (HL++[kB HL o']) k o h;simp only[Bd,CE,List.length_nil]at h1 h2 h3;refine⟨tu,AA,λi hi=>?_,?_⟩
  .simp only[Kz];exact h2 i AA
  .simp only[Kz];rw[show HL.length+(k+1)=HL.length+(0+1)+k by omega];exact h3
def ADx(HL:LN)(o:CW)(j:Nat)(h:fa (kB HL o) j):∃e∈o.after.toList,DB .any e=true/\(j=e.on\/fa (HL.getD e.on 0) j):=by
 unfold kB at h
 have gen:∀(l:List Edge) (m0:Nat),fa (l.foldl (λm e=>bif DB .any e then m|||1<<<e.on|||HL.getD e.on 0 else m) m0) j->fa m0 j\/∃e∈l,DB .any e=true/\(j=e.on\/fa (HL.getD e.on 0) j):=by
  intro l
  induction l with
  |nil=>intro m0 h;exact .inl h
  |cons e l ih=>
   intro m0 h;simp only[List.foldl_cons]at h;rcases ih _ h with h|⟨e',lP,h'⟩
   .cases hb:DB .any e with
    |false=>simp only[hb,cond_false]at h;exact .inl h
    |true=>
     simp only[hb,cond_true]at h;rw[AB2,AB2,AFw]at h;rcases h with(h|h)|h
     .exact .inl h
     .exact .inr ⟨e,AD,hb,.inl h⟩
     .exact .inr ⟨e,AD,hb,.inr h⟩
   .exact .inr ⟨e',by simp[lP],h'⟩
 rcases gen _ _ h with h|h
 .simp[fa]at h
 .exact h
def bs(ops:List CW)(i:Nat):Nat:=(Kz ops []).getD i 0
def AB5{ops:List CW}{i:Nat}{o:CW}(ho:ops[i]?=some o)(AQs:∀e∈o.after.toList,DB .any e=true->e.on<i){j:Nat}(h:fa (bs ops i) j):
  ∃e∈o.after.toList,DB .any e=true/\(j=e.on\/fa (bs ops e.on) j):=by
 obtain⟨tu,h1,h2,h3⟩:=eX ops [] i o ho;simp only[List.length_nil,CZ]at h1 h2 h3;unfold bs at h;rw[h3]at h;obtain⟨e,he,hb,hj⟩:=ADx tu o j h;refine⟨e,he,hb,?_⟩;rw[h2 e.on (AQs e he hb)]at hj;exact hj
def Ug:∀{l:List CW} {i:Nat},fo l i=true->∀j o,l[j]?=some o->∀e∈o.after.toList,DB .any e=true->e.on<i+j
 |[],i,_,j,o,h,_,_,_=>by simp at h
 |x::r,i,h,j,o,hj,e,he,hb=>by
  simp only[fo,Bo,CY,D6,Dl]at h;cases j with
  |zero=>
   simp at hj;subst hj;rcases h.1 e he with h|h
   .have:=cX h;omega
   .rw[hb]at h;cases h
  |succ j=>
   simp at hj;have:=Ug h.2 j o hj e he hb;omega
def cD{ops:List CW}{m:Nat}{o:CW}:∀{done:List CW} {i:Nat},gU ops m o done i=true->∀j a,done[j]?=some a->fa m (i+j)\/VD ops a o=true
 |[],i,_,j,a,h=>by simp at h
 |x::r,i,h,j,a,hj=>by
  simp only[gU,Bo,D6]at h;cases j with
  |zero=>simp at hj;subst hj;exact h.1
  |succ j=>
   simp at hj;have:=cD h.2 j a hj;rwa [show i+1+j=i+(j+1) by omega]at this
def TO{ops:List CW}:∀{Ju done:List CW} {ms:LN},XQ ops done Ju ms=true->∀i j o a,i<done.length+j->Ju[j]?=some o->(done++Ju)[i]?=some a->fa (ms.getD j 0) i\/VD ops a o=true
 |[],done,ms,_,i,j,o,a,_,h,_=>by simp at h
 |x::r,done,[],h,i,j,o,a,_,_,_=>by simp[XQ]at h
 |x::r,done,m::ms,h,i,j,o,a,hij,hl,ha=>by
  simp only[XQ,Bo]at h;cases j with
  |zero=>
   simp at hl;subst hl;rw[CL AA]at ha;have:=cD h.1 i a ha;rw[CZ]at this;exact Aea
  |succ j=>
   simp at hl;have:=TO h.2 i j o a AB hl Aa5;exact Aea
def Re{ops:List CW}{a b:CW}(h:VD ops a b=true):(∀d,a.dst=some d->d∉Rb ops b/\b.dst≠some d)/\(∀d,b.dst=some d->d∉Rb ops a):=by
 unfold VD at h;simp only[Bo]at h;obtain⟨h1,h2⟩:=h;constructor
 .intro d hd;rw[hd]at h1;simp only[Bo,Dl,List.contains_eq_mem,decide_eq_false_iff_not,beq_eq_false_iff_ne]at h1;exact h1
 .intro d hd;rw[hd]at h2;simpa using h2
end
end
section
section
variable{P:Program}
def left(N:Nat)(Ir:Array Bool):Nat:=(CS N).countP λk=> !Ir.getD k false
def mz{N:Nat}{Ir:Array Bool}(h:left N Ir=0):∀k,k<N->Ir.getD k false=true:=by intro k hk;unfold left at h;rw[List.countP_eq_zero]at h;have:=h k (Da.2 hk);exact Aea
def dI{N i:Nat}{p q:Nat->Bool}(hi:i<N)(hp:p i=true)(hq:∀k,q k=(p k&& !(k==i))):(CS N).countP p=(CS N).countP q+1:=by
 induction N with
 |zero=>omega
 |succ N ih=>
  rw[List.range_succ,FY,FY];by_cases e:i=N
  .subst e
   have:(CS i).countP p=(CS i).countP q:=List.countP_congr λk hk=>by
    have:=Da.1 hk;rw[hq];simp;intro _;omega
   have hqi:q i=false:=by rw[hq];simp
   simp[this,hp,hqi]
  .have:=ih AA;have hN:q N=p N:=by rw[hq];simp;omega
   simp only[List.countP_singleton,hN];omega
def sA{N i:Nat}{Ir:Array Bool}(hs:Ir.size=N)(hi:i<N)(h:Ir.getD i false=false):left N Ir=left N (Ir.setIfInBounds i true)+1:=by
 refine dI hi (by rw[h];rfl) λk=>?_;simp only[Cg,Dg];by_cases e:i=k
 .subst e;simp[hs,hi]
 .exact Agn
def ep{Ir:Array Bool}{i:Nat}(hi:i<Ir.size)(k:Nat):(Ir.setIfInBounds i true).getD k false=(Ir.getD k false||k==i):=by
 simp only[Cg,Dg];by_cases e:i=k
 .subst e;simp[hi]
 .exact Agn
end
end
section
section
variable{P:Program}
def ZB:OL->Ef
 | .normal=> .normal
 | .exit id=> .exit id
 | .ret=> .ret
def Oy{b:Fu}{a:Act}{k:List Item}{cs:List Fu}{w:World}{c:C5}:
  step P (lone (b.atR a (.code (.scope c)::k)) cs w)=.next (lone (b.atR a (.code c:: .inScope c::k)) cs w):=
 step_lone_go AaT
def lx{b:Fu}{a:Act}{k:List Item}{cs:List Fu}{w:World}{c:C5}:step P (lone (b.atR a (.inScope c::k)) cs w)=.next (lone (b.atR a k) cs w):=step_lone_go AaT
def kz{F:Fence}{n:Nat}{c:C5}{Q:QX}{a:Act}{w:World}(h:c.wpIn F n P (λe a w=>(∀l,e≠ .goto l)/\Q e a w) a w):(Code.scope c).wpIn F n P Q a w:=by
 intro b k cs hro hb hr;have h0:(lone (b.atR a (.code (.scope c)::k)) cs w).fenced P F:=E8 hb hr rfl;obtain⟨e,a₁,w₁,⟨hng,hq⟩,ZG⟩:=h b (.inScope c::k) cs hro hb hr;cases e with
 |normal=>exact⟨.normal,a₁,w₁,hq,.head h0 Oy (Fv ZG (.one (E8 hb hr rfl) lx))⟩
 |exit id=>
  have hx:exitTo id (.inScope c::k)=exitTo id k:=by simp[exitTo]
  exact⟨.exit id,a₁,w₁,hq,λk' hk=> .head h0 Oy (ZG.1 k' (by rw[hx];exact hk)),
   λPU hk=>let⟨k₁,h1,h2⟩:=ZG.2 PU (by rw[hx];exact hk);⟨k₁,h1,.head h0 Oy h2⟩⟩
 |goto l=>exact Zq rfl (hng l)
 |ret=>exact⟨_,a₁,w₁,hq,.of_steps (.one h0 Oy) ZG⟩
 |panic ch=>exact⟨_,a₁,w₁,hq,.of_steps (.one h0 Oy) ZG⟩
 |outgrown=>exact⟨_,a₁,w₁,hq,.of_steps (.one h0 Oy) ZG⟩
def Vm(F:Fence)(n:Nat)(P:Cf)(c:C5)(Q:QX)(a:Act)(w:World):Prop:=
 ∀(b:Fu) (k:List Item) (cs:List Fu),b.roundOf=F.round->F.fn b.fn->F.room (cs.length+1+n)->
  ∃e a' w',Q e a' w'/\ArrivesIn (Machine.fenced P F) P (lone (b.atR a (.code c:: .inLoop c::k)) cs w) b k cs e a' w'
def Yk{F:Fence}{n:Nat}{c:C5}{Q:QX}{a:Act}{w:World}(h:c.wpIn F n P (Exit.then (Vm F n P c Q) Q) a w):Vm F n P c Q a w:=by
 intro b k cs hro hb hr;obtain⟨e,a₁,w₁,hq,ZG⟩:=h b (.inLoop c::k) cs hro hb hr;cases e with
 |normal=>
  obtain⟨e₂,a₂,w₂,hq₂,AQb⟩:=hq b k cs hro hb hr;exact⟨e₂,a₂,w₂,hq₂,.of_steps (Fv ZG (.one (E8 hb hr rfl) stepR_inLoop)) AQb⟩
 |exit id=>exact⟨_,a₁,w₁,hq,.pass (x:=.inLoop c) rfl (λ_ _=> .inl AD) ZG⟩
 |goto l=>exact⟨_,a₁,w₁,hq,.pass (x:=.inLoop c) rfl (λ_ _=> .inl AD) ZG⟩
 |ret=>exact⟨_,a₁,w₁,hq,.pass (x:=.inLoop c) rfl (λ_ _=> .inl AD) ZG⟩
 |panic ch=>exact⟨_,a₁,w₁,hq,.pass (x:=.inLoop c) rfl (λ_ _=> .inl AD) ZG⟩
 |outgrown=>exact⟨_,a₁,w₁,hq,.pass (x:=.inLoop c) rfl (λ_ _=> .inl AD) ZG⟩
def XW{F:Fence}{n:Nat}{c:C5}{Q:QX}{a:Act}{w:World}(h:Vm F n P c Q a w):(Code.loop c).wpIn F n P Q a w:=by intro b k cs hro hb hr;obtain⟨e,a',w',hq,ZG⟩:=h b k cs hro hb hr;exact⟨e,a',w',hq,.of_steps (.one (E8 hb hr rfl) stepR_loop) ZG⟩
def XL{B:Nat}{r:Loop}{w:World}(h:w.heap[B]?=some (.loop r)):(Instr.getLoop B).run P w=.ok r w:=by simp[Instr.getLoop,getObj,Ek,h]
def XN{B:Nat}{r:Loop}{w:World}(h:w.heap[B]?=some (.loop r))(o:EE):(setObj B o).run P w=.ok () (World.KE w B o):=by simp only[setObj,Ek,h];rfl
end
end
section
open Go.RowKit
section
variable{P:Program}
def Vo{t:Bz}{v u:Bk}{w w':World}(h:(Dr t v).run P w=.ok u w'):(do loadVar t (<- asAddr v):Sem Bk).run P w=.ok u w':=by
 unfold Dr DJ at h;split at h
 .exact h
 .simp[Ek,stuck]at h
def AAr(tmps:AV0):D8->Sem Bk
 | .tmp t=>pure (tmps.getD t undef)
 | .cell a t=>do loadVar t (<- asAddr (tmps.getD a undef))
def VB(fn:Dm)(tmps:AV0):results fn tmps=(Functor.map List.toArray (fn.results.toList.mapM (AAr tmps)))>>=λvs=>pure (if h:vs.size=1 then vs[0]else .tuple vs):=by
 have h:∀g:D8->Sem Bk,g=AAr tmps->(fn.results.mapM g>>=λvs=>(pure (if h:vs.size=1 then vs[0]else .tuple vs):Sem Bk))=(Functor.map List.toArray (fn.results.toList.mapM (AAr tmps)))>>=λvs=>pure (if h:vs.size=1 then vs[0]else .tuple vs):=by
  rintro _ rfl;rw[Array.mapM_eq_mapM_toList]
 refine h _ (funext λx=>?_);cases x<;>rfl
end
end
end Go.Ab
