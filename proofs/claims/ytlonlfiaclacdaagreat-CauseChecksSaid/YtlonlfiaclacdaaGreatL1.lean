/- Part of the proof of CauseChecks (own work, made small). -/
import Derived.Test.YtlonlfiaclacdaaGreatB2
set_option linter.all false
set_option maxRecDepth 100000
open Go renaming Code->C5,Func->Dm,FuncId->B9,Oper->CW,Program->Cf,Value->Bk
open Go.ByteArray renaming toList_eq->C8
open Go.Fence renaming wide->DF
open Go.Sem renaming run_bind->B6
open Go.Vi.JJ renaming run->A2
open Go.Vi.Obj renaming box->BI
open Go.Vi.St renaming set->BN
open List renaming all_eq_true->CY,append_nil->CG,drop_drop->Dp,getElem?_eq_none->Ck,length_cons->CE,mem_append->Bf,mem_cons->Bm,mem_cons_of_mem->Bq,nil_append->CC,prefix_refl->Cs,set_cons_succ->Cb,set_cons_zero->Ca
open Nat renaming add_mul->Ce,beq->Br,beq_refl->EJ,blt->DZ,eq_of_beq_eq_true->B5,le_of_ble_eq_true->EM,le_refl->Bg,le_trans->CN,lt_of_not_le->ER,one_mul->Dn,zero_add->CZ,zero_le->DO
namespace Go.Vi
section
open Go.Ab (Tr OL M1 Nk Kz)
structure ES where
 fr:Tr PV
 hp:Tr Obj
 nx:Nat
def ES.f(s:ES):Fr:=λt=>(s.fr.get t).getD .undef
def ES.st(s:ES):St:=⟨s.hp.get,s.nx⟩
def ES.put(s:ES)(d:Option Tmp)(v:PV):ES:=match d with
 |some d=>{s with fr:=s.fr.set d v}
 |none=>s
def ES.bl(s:ES)(b:Nat)(o:Obj):ES:={s with hp:=s.hp.set b o}
def ES.new(s:ES)(o:Obj):ES:={s with hp:=s.hp.set s.nx o,nx:=s.nx+1}
theorem ES.AJF(s:ES)(d:Option Tmp)(v:PV):(s.put d v).f=s.f.put d v:=by
 cases d with
 |none=>rfl
 |some d=>
  funext t;show((s.fr.set d v).get t).getD _=bif Br t d then v else(s.fr.get t).getD _
  rw[Tr.Xu,JT];split<;>rfl
theorem ES.eR(s:ES)(d:Option Tmp)(v:PV):(s.put d v).st=s.st:=by cases d<;>rfl
theorem ES.Zm(s:ES)(b:Nat)(o:Obj):(s.bl b o).st=s.st.set b o:=by
 show St.mk _ _=St.mk _ _;congr 1;funext x;show(s.hp.set b o).get x=bif Br x b then some o else s.hp.get x
 rw[Tr.Xu,JT]
theorem ES.qA(s:ES)(o:Obj):(s.new o).st=s.st.new o:=by have:=s.Zm s.nx o;show St.mk _ _=St.mk _ _;simp only[ES.st,BN,ES.bl,St.mk.injEq]at this;congr 1;exact this.1
theorem AP8{s s':ES}(h:s'.fr=s.fr):s'.f=s.f:=by unfold ES.f;rw[h]
def JJ.AA0(q:JJ)(s:ES):Option (PV×ES):=match q with
 | .val v=>some (v,s)
 | .load b f=>match s.hp.get b with
  |some (.box cs)=>match f cs with
   |some v=>some (v,s)
   |none=>none
  |some (.K7 _ cs)=>match f cs with
   |some v=>some (v,s)
   |none=>none
  |_=>none
 | .store b f=>match s.hp.get b with
  |some (.box cs)=>match f cs with
   |some Oc=>some (.undef,s.bl b (.box Oc))
   |none=>none
  |some (.K7 e cs)=>match f cs with
   |some Oc=>some (.undef,s.bl b (.K7 e Oc))
   |none=>none
  |_=>none
 | .box cs f=>some (f s.nx,s.new (.box cs))
 | .push b n e m v=>match s.hp.get b with
  |some (.HE n' e')=>bif Br n n'&&(Br n 0||Br e e')then some (v,s.bl b (.HE (n+m) e))else none
  |_=>none
 | .HE n e f=>some (f s.nx,s.new (.HE n e))
 | .K7 e cs f=>some (f s.nx,s.new (.K7 e cs))
 | .JD b e f g=>match s.hp.get b with
  |some (.K7 e' cs)=>bif Br e e' then(match f cs with
   |some Oc=>some (g s.nx,(s.bl b .KV).new (.K7 e Oc))
   |none=>none)else none
  |_=>none
 |_=>none
theorem JJ.AIU{q:JJ}{s:ES}{v:PV}{s':ES}(h:q.AA0 s=some (v,s')):q.run s.st=some (v,s'.st)/\s'.fr=s.fr:=by
 have hh:s.st.heap=s.hp.get:=rfl;cases q with
 |val v=>cases h;exact⟨rfl,rfl⟩
 |load b f=>
  simp only[AA0]at h;simp only[A2,hh];split at h
  .rename_i cs hb;exact Af1
  .rename_i e cs hb;exact Af1
  .cases h
 |store b f=>
  simp only[AA0]at h;simp only[A2,hh];split at h
  .rename_i cs hb;exact Afk
  .rename_i e cs hb;exact Afk
  .cases h
 |box cs f=>cases h;exact⟨by rw[ES.qA];rfl,rfl⟩
 |push b n e m v=>
  simp only[AA0]at h;simp only[A2,hh];split at h
  .rename_i n' e' hb;simp only[hb];cases hc:Br n n'&&(Br n 0||Br e e')with
   |false=>rw[hc]at h;cases h
   |true=>rw[hc]at h;cases h;exact⟨by rw[ES.Zm];rfl,rfl⟩
  .cases h
 |HE n e f=>cases h;exact⟨by rw[ES.qA];rfl,rfl⟩
 |K7 e cs f=>cases h;exact⟨by rw[ES.qA];rfl,rfl⟩
 |JD b e f g=>
  simp only[AA0]at h;simp only[A2,hh];split at h
  .rename_i e' cs hb;simp only[hb];cases hc:Br e e' with
   |false=>rw[hc]at h;cases h
   |true=>
    rw[hc]at h;simp only[cond_true]at h⊢;split at h
    .rename_i Oc hf;cases h;exact⟨by rw[hf,ES.qA,ES.Zm];rfl,rfl⟩
    .cases h
  .cases h
 |map l f=>cases h
 |ADv b f=>cases h
 |Pm b f=>cases h
theorem AAT{fL:St->PV->St->Prop}{st:St}{v:PV}{He:St}{rd wr:LN}(L:Loc fL st v He rd wr)(hf:Gm st):Gm He/\HT st He:=by
 have hn:=L.next;refine⟨λb hb=>?_,hn,λb hb h0=>?_⟩
 .exact Aet
 .by_cases c:b∈wr
  .exact Zq h0 (L.ex b (.inr c))
  .rw[L.OD b c (λhh=>by unfold Mf at hh;omega)];exact h0
abbrev Ev(α:Type):=Except String α
abbrev VI:=Bool->B9->List PV->ES->Ev (PV×ES×LN)
section
variable(P:Program) (md:Bool) (nt:Nat) (call:VI)
def eqB:List UInt8->List UInt8->Bool
 |[],[]=>true
 |a::l,b::r=>Br a.toNat b.toNat&&eqB l r
 |_,_=>false
def AN0(op:Op)(vs:List PV):Option PV:=match op,vs with
 | .binOp .eql _ _ _ _,[.Gh a,.Gh b]=>some (.bool (eqB a.data.toList b.data.toList))
 | .binOp .neq _ _ _ _,[.Gh a,.Gh b]=>some (.bool (!eqB a.data.toList b.data.toList))
 |_,_=>none
def vx(op:Op)(vs:List PV)(s:ES):Ev (PV×ES×LN×LN):=match AN0 op vs with
 |some v=> .ok (v,s,[],[])
 |none=>match opQ P md op vs with
  |none=> .error "none"
  |some q=>match q.AA0 s with
   |none=> .error "state"
   |some (v,s')=> .ok (v,s',q.rd,q.wr)
def opE(u:Bool)(op:Op)(s:ES):Ev (PV×ES×LN×LN):=match Ol s.f (Pz op)with
 |none=> .error "args"
 |some vs=>match op with
  | .call ⟨.value (.func f),_,_⟩=>bif Ms P f then(match call u f vs s with
   | .ok (v,s',wr)=> .ok (v,s',[],wr)
   | .error e=> .error e)else .error "enter"
  | .call ⟨.value _,_,_⟩=> .error "value"
  | .call ⟨.invoke _ _,_,_⟩=> .error "invoke"
  |op=>vx P md op vs s
def gE(u:Bool)(ops:List CW)(o:CW)(s:ES):Ev (PV×ES×LN×LN):=match o.guard with
 |none=>opE P md call u o.op s
 |some (j,Po)=>match ops[j]? with
  |none=> .ok (.undef,s,[],[])
  |some o'=>match o'.dst with
   |none=> .ok (.undef,s,[],[])
   |some d=>match dg (s.f d) Po with
    |some true=>opE P md call u o.op s
    |some false=> .ok (.undef,s,[],[])
    |none=> .error "guard"
def AIF(ops:List CW):List CW->ES->Ev ES
 |[],s=> .ok s
 |o::r,s=>bif M1 nt o.dst then(match gE P md call true ops o s with
  | .ok (v,s',_,_)=>AIF ops r (s'.put o.dst v)
  | .error e=> .error (e++ " "++o.pos))else .error "fits"
def yd(ops:List CW):List CW->ES->Ev (List Vd×ES)
 |[],s=> .ok ([],s)
 |o::r,s=>bif M1 nt o.dst then(match gE P md call false ops o s with
  | .ok (v,s',rd,wr)=>(match yd ops r (s'.put o.dst v)with
   | .ok (l,s2)=> .ok ((rd,wr++H2 s.nx s'.nx)::l,s2)
   | .error e=> .error e)
  | .error e=> .error (e++ " "++o.pos))else .error "fits"
def yL(body:ES->Ev (OL×ES)):Nat->ES->Ev (OL×ES)
 |0,_=> .error "rounds"
 |n+1,s=>match body s with
  | .ok (.normal,s')=>yL body n s'
  |r=>r
def Qk(n:Nat):C5->ES->Ev (OL×ES)
 | .skip,s=> .ok (.normal,s)
 | .label _,s=> .ok (.normal,s)
 | .region _ ops d,s=>match d with
  |false=>(match AIF P md nt call ops.toList ops.toList s with
   | .ok s'=> .ok (.normal,s')
   | .error e=> .error e)
  |true=>bif Nk ops.toList&&P.follows .mixedOrders then(match yd P md nt call ops.toList ops.toList s with
   | .ok (l,s')=>bif Hl [] l (Kz ops.toList [])then .error "clash"else .ok (.normal,s')
   | .error e=> .error e)else .error "orders"
 | .seq a b,s=>match Qk n a s with
  | .ok (.normal,s')=>Qk n b s'
  |r=>r
 | .cond c a b,s=>match Sw s.f c with
  |some (.bool true)=>Qk n a s
  |some (.bool false)=>Qk n b s
  |_=> .error "cond"
 | .block id c,s=>match Qk n c s with
  | .ok (.exit jz,s')=>bif Br jz id then .ok (.normal,s')else .ok (.exit jz,s')
  |r=>r
 | .loop c,s=>yL (λs=>Qk n c s) n s
 | .scope c,s=>Qk n c s
 | .exit id,s=> .ok (.exit id,s)
 | .ret,s=> .ok (.ret,s)
 |_,_=> .error "code"
end
def MV(s s':ES):Prop:=Gm s'.st/\HT s.st s'.st
theorem MV.trans{a b c:ES}(h:MV a b)(k:MV b c):MV a c:=⟨k.1,h.2.trans k.2⟩
section
variable{P:Program} {md:Bool} {nt:Nat} {X:Mode} {call:VI}
def Rr(P:Cf)(X:Mode)(call:VI):Prop:=∀(u:Bool) (f:B9) (vs:List PV) (s:ES) (v:PV) (s':ES) (wr:LN),call u f vs s=.ok (v,s',wr)->Gm s.st->
 s'.fr=s.fr/\MV s s'/\∀K:PV->St->LN->LN->Prop,K v s'.st [] wr->ig P X u f vs s.st K
theorem og:∀a b:List UInt8,eqB a b=(a==b)
 |[],[]=>rfl
 |[],_::_=>rfl
 |_::_,[]=>rfl
 |a::l,b::r=>by
  show(Br a.toNat b.toNat&&eqB l r)=(a==b&&l==r);rw[og l r];congr 1;rw[Bool.eq_iff_iff,Nat.beq_eq,beq_iff_eq,UInt8.toNat_inj]
theorem AIe{op:Op}{vs:List PV}{v:PV}(h:AN0 op vs=some v):opQ P md op vs=some (.val v):=by
 unfold AN0 at h;split at h
 .cases h;simp only[opQ,SP,AIf,C8,og]
 .cases h;simp only[opQ,SP,AIf,C8,og]
 .cases h
theorem AAo{op:Op}{vs:List PV}{s:ES}{v:PV}{s':ES}{rd wr:LN}(h:vx P md op vs s=.ok (v,s',rd,wr))(hf:Gm s.st):
  s'.fr=s.fr/\MV s s'/\∀K:PV->St->LN->LN->Prop,K v s'.st rd wr->HA (opQ P md op vs) λq=>HA (q.run s.st) λp=>K p.1 p.2 q.rd q.wr:=by
 unfold vx at h;split at h
 .rename_i v1 h1;cases h;exact⟨rfl,⟨hf,HT.refl _⟩,λK hK=>by rw[AIe h1];exact hK⟩
 split at h
 .cases h
 .rename_i q hq;split at h
  .cases h
  .rename_i v' s1 hr;cases h;obtain⟨h1,h2⟩:=JJ.AIU hr;refine⟨h2,AAT (yn h1) hf,λK hK=>?_⟩;rw[hq];show HA (q.run s.st) _;rw[h1];exact hK
theorem AEU(hc:Rr P X call){u:Bool}{op:Op}{s:ES}{v:PV}{s':ES}{rd wr:LN}(h:opE P md call u op s=.ok (v,s',rd,wr))(hf:Gm s.st):
  s'.fr=s.fr/\MV s s'/\∀K:PV->St->LN->LN->Prop,K v s'.st rd wr->AAj P md X u op s.f s.st K:=by
 unfold opE at h;unfold AAj;split at h
 .cases h
 .rename_i vs hv;rw[hv];show _/\_/\∀K:PV->St->LN->LN->Prop,_->opP P md X u op vs s.st K;split at h
  .rename_i f args IK;cases he:Ms P f with
   |false=>rw[he]at h;cases h
   |true=>
    rw[he]at h;simp only[cond_true]at h;split at h
    .rename_i v1 s1 wr1 Tk;cases h;obtain⟨g1,g2,g3⟩:=hc _ _ _ _ _ _ _ Tk hf;refine⟨g1,g2,λK hK=>?_⟩;show(bif Ms P f then ig P X u f vs s.st K else False);rw[he];exact g3 K hK
    .cases h
  .cases h
  .cases h
  .rename_i h1 h2 h3;obtain⟨g1,g2,g3⟩:=AAo h hf;refine⟨g1,g2,λK hK=>?_⟩;unfold opP;split
   .exact(h1 _ _ _ rfl).elim
   .exact(h2 _ _ _ rfl).elim
   .exact(h3 _ _ _ _ rfl).elim
   .exact g3 K hK
theorem AJI(hc:Rr P X call){u:Bool}{ops:List CW}{o:CW}{s:ES}{v:PV}{s':ES}{rd wr:LN}(h:gE P md call u ops o s=.ok (v,s',rd,wr))(hf:Gm s.st):
  s'.fr=s.fr/\MV s s'/\∀K:PV->St->LN->LN->Prop,K v s'.st rd wr->gP P md X u ops o s.f s.st K:=by
 unfold gE at h;unfold gP;cases hg:o.guard with
 |none=>rw[hg]at h;exact AEU hc h hf
 |some p=>
  obtain⟨j,Po⟩:=p;rw[hg]at h;simp only at h⊢;cases hj:ops[j]? with
  |none=>rw[hj]at h;cases h;exact⟨rfl,⟨hf,HT.refl _⟩,λK hK=>hK⟩
  |some o'=>
   rw[hj]at h;simp only at h⊢;cases hd:o'.dst with
   |none=>rw[hd]at h;cases h;exact⟨rfl,⟨hf,HT.refl _⟩,λK hK=>hK⟩
   |some d=>
    rw[hd]at h;simp only at h⊢;split at h
    .rename_i he;obtain⟨g1,g2,g3⟩:=AEU hc h hf;exact⟨g1,g2,λK hK=>by unfold Ic;rw[he];exact g3 K hK⟩
    .rename_i he;cases h;exact⟨rfl,⟨hf,HT.refl _⟩,λK hK=>by unfold Ic;rw[he];exact hK⟩
    .cases h
theorem ye(hc:Rr P X call){ops:List CW}:∀{Ju:List CW} {s s':ES},AIF P md nt call ops Ju s=.ok s'->Gm s.st->MV s s'/\∀K:Ks,K s'.f s'.st->oP P md X nt ops Ju K s.f s.st
 |[],s,s',h,hf=>by cases h;exact⟨⟨hf,HT.refl _⟩,λK hK=>hK⟩
 |o::Ju,s,s',h,hf=>by
  simp only[AIF]at h;simp only[oP];cases Nd:M1 nt o.dst with
  |false=>rw[Nd]at h;cases h
  |true=>
   rw[Nd]at h;simp only[cond_true]at h;split at h
   .rename_i v s1 rd wr hg;obtain⟨g1,g2,g3⟩:=AJI hc hg hf;obtain⟨k1,k2⟩:=ye hc h (by rw[ES.eR];exact g2.1);refine⟨g2.trans AZ1,λK hK=>g3 _ ?_⟩;have:=k2 K hK;exact Ahg
   .cases h
theorem sU(hc:Rr P X call){ops:List CW}:∀{Ju:List CW} {s s':ES} {l:List Vd},yd P md nt call ops Ju s=.ok (l,s')->Gm s.st->MV s s'/\∀K:Fr->List Vd->St->Prop,K s'.f l s'.st->oDP P md X nt ops Ju K s.f s.st
 |[],s,s',l,h,hf=>by cases h;exact⟨⟨hf,HT.refl _⟩,λK hK=>hK⟩
 |o::Ju,s,s',l,h,hf=>by
  simp only[yd]at h;simp only[oDP];cases Nd:M1 nt o.dst with
  |false=>rw[Nd]at h;cases h
  |true=>
   rw[Nd]at h;simp only[cond_true]at h;split at h
   .rename_i v s1 rd wr hg;split at h
    .rename_i l1 s2 hr;cases h;obtain⟨g1,g2,g3⟩:=AJI hc hg hf;obtain⟨k1,k2⟩:=sU hc hr (by rw[ES.eR];exact g2.1);refine⟨g2.trans AZ1,λK hK=>g3 _ ?_⟩;have:=k2 (λfr l s2=>K fr ((rd,wr++H2 s.nx s1.nx)::l) s2) hK;exact Ahg
    .cases h
   .cases h
theorem ah(hc:Rr P X call){n:Nat}:∀(c:C5) {s s':ES} {x:OL},Qk P md nt call n c s=.ok (x,s')->Gm s.st->MV s s'/\∀(rg:Bool) (K:Kx),K x s'.f s'.st->Ko P md X nt c rg K s.f s.st:=by
 intro c
 induction c with
 |skip=>intro s s' x h hf;cases h;exact⟨⟨hf,HT.refl _⟩,λrg K hK=>hK⟩
 |label _=>intro s s' x h hf;cases h;exact⟨⟨hf,HT.refl _⟩,λrg K hK=>hK⟩
 |region id ops d=>
  intro s s' x h hf;simp only[Qk]at h;show _/\∀(rg:Bool) (K:Kx),_->sk P md X nt ops.toList d (K .normal) s.f s.st;cases d with
  |false=>
   simp only at h;split at h
   .rename_i s1 h1;cases h;obtain⟨k1,k2⟩:=ye hc h1 hf;exact⟨k1,λrg K hK=>k2 _ hK⟩
   .cases h
  |true=>
   simp only at h;simp only[sk];cases hs:Nk ops.toList&&P.follows .mixedOrders with
   |false=>rw[hs]at h;cases h
   |true=>
    rw[hs]at h;simp only[cond_true]at h;split at h
    .rename_i l s1 h1;cases Pq:Hl [] l (Kz ops.toList [])with
     |true=>rw[Pq]at h;cases h
     |false=>
      rw[Pq]at h;cases h;obtain⟨k1,k2⟩:=sU hc h1 hf;exact⟨k1,λrg K hK=>k2 (λfr l st=>Hl [] l (Kz ops.toList [])=false/\K .normal fr st) ⟨Pq,hK⟩⟩
    .cases h
 |seq a b lG rm=>
  intro s s' x h hf;simp only[Qk]at h;split at h
  .rename_i s1 h1;obtain⟨k1,k2⟩:=lG h1 hf;obtain⟨k3,k4⟩:=rm h k1.1;exact AhA
  .rename_i hn;obtain⟨k1,k2⟩:=lG h hf;refine⟨k1,λrg K hK=>k2 rg _ ?_⟩;cases x with
   |normal=>exact(hn _ h).elim
   |exit id=>exact hK
   |ret=>exact hK
 |cond c a b lG rm=>
  intro s s' x h hf;simp only[Qk]at h;show _/\∀(rg:Bool) (K:Kx),_->HA (Sw s.f c) λx=>Gs x _ _;split at h
  .rename_i he;obtain⟨k1,k2⟩:=lG h hf;exact⟨k1,λrg K hK=>by rw[he];exact⟨λ_=>k2 rg K hK,λhb=>by cases hb⟩⟩
  .rename_i he;obtain⟨k1,k2⟩:=rm h hf;exact⟨k1,λrg K hK=>by rw[he];exact⟨(λhb=>by cases hb),λ_=>k2 rg K hK⟩⟩
  .cases h
 |block id c ih=>
  intro s s' x h hf;simp only[Qk]at h;split at h
  .rename_i jz s1 h1;obtain⟨k1,k2⟩:=ih h1 hf;cases he:Br jz id with
   |true=>
    exact Ael
   |false=>
    exact Ael
  .rename_i hn;obtain⟨k1,k2⟩:=ih h hf;refine⟨k1,λrg K hK=>k2 rg _ ?_⟩;cases x with
   |normal=>exact hK
   |exit id=>exact(hn _ _ h).elim
   |ret=>exact hK
 |loop c ih=>
  intro s s' x h hf
  have key:∀m s,yL (λs=>Qk P md nt call n c s) m s=.ok (x,s')->Gm s.st->MV s s'/\∀(rg:Bool) (K:Kx),K x s'.f s'.st->Yg (λW=>Ko P md X nt c rg (eM W K)) m s.f s.st:=by
   intro m
   induction m with
   |zero=>intro s h;cases h
   |succ m ihm=>
    intro s h hf;simp only[yL]at h;split at h
    .rename_i s1 h1;obtain⟨k1,k2⟩:=ih h1 hf;obtain⟨k3,k4⟩:=ihm s1 h k1.1;exact AhA
    .rename_i hn;obtain⟨k1,k2⟩:=ih h hf;refine⟨k1,λrg K hK=>k2 rg _ ?_⟩;cases x with
     |normal=>exact(hn _ h).elim
     |exit id=>exact hK
     |ret=>exact hK
  obtain⟨k1,k2⟩:=key n s h hf;exact⟨k1,λrg K hK=>⟨n,k2 rg K hK⟩⟩
 |scope c ih=>intro s s' x h hf;obtain⟨k1,k2⟩:=ih h hf;exact⟨k1,λrg K hK=>k2 rg K hK⟩
 |exit id=>intro s s' x h hf;cases h;exact⟨⟨hf,HT.refl _⟩,λrg K hK=>hK⟩
 |ret=>intro s s' x h hf;cases h;exact⟨⟨hf,HT.refl _⟩,λrg K hK=>hK⟩
 |goto _=>intro s s' x h;cases h
 |refuse _=>intro s s' x h;cases h
 |rangeFunc _ _ _ _ _ _=>intro s s' x h;cases h
end
theorem Zh(e:Nat):∀(n:Nat) (l:List PV) (i:Nat) (GG:List PV),(Q6 e n l)[i]?=some GG->i<n/\GG=(l.drop (i*e)).take e
 |0,l,i,GG,h=>by simp[Q6]at h
 |n+1,l,0,GG,h=>by simp[Q6]at h;subst h;simp
 |n+1,l,i+1,GG,h=>by
  simp only[Q6,List.getElem?_cons_succ]at h;obtain⟨h1,h2⟩:=Zh e n (l.drop e) i GG h;refine⟨AA,?_⟩;rw[h2,Dp,Ce,Dn,Nat.add_comm]
theorem SK(e:Nat):∀(n:Nat) (l:List PV),(Q6 e n l).length=n
 |0,_=>rfl
 |n+1,l=>by simp[Q6,SK e n]
theorem mU:∀{l k:List PV},JC l=some k->k.length=l.length
 |[],k,h=>by cases h;rfl
 |a::l,k,h=>by
  simp only[JC]at h;split at h
  .split at h
   .rename_i hl;cases h;simp[mU hl]
   .cases h
  .cases h
theorem SW.ALj{E:VJ}{P:Cf}{f:B9}{args:List PV}{st He:St}{b n e:Nat}{cs k:List PV}(h:SW E P f args st λr s=>r=.ME b n/\s=He)(hf:Gm st)
  (hb:He.heap b=some (.K7 e cs))(ADQ:st.next<=b)(Pt:∀b0,b0<st.next->He.heap b0≠some .KV)(hk:JC cs=some k)(hl:n*e=cs.length)(hn:0<n):
  SW E P f args st λr s=>r=.GV (Q6 e n k)/\s=He.set b .KV:=by
 intro m w HP hE hr hv;refine(h m w HP hE hr hv).mono ?_;rintro en w' ⟨m',v,r,s',rfl,he,PU,hv',hg,MT,rfl,rfl⟩;obtain⟨B,vs,ty,h1,h2,h3,h4⟩:=PU.K7 b e cs hb;have Yc:s'.heap b≠some .KV:=by rw[hb];exact MA rfl
 have hK0:m'.K B=none:=PU.bK b B h1 Yc;have rf:∀x,(s'.set b .KV).heap x=bif Br x b then some .KV else s'.heap x:=λ_=>rfl
 have Lz:(s'.set b .KV).heap b=some .KV:=by rw[rf,EJ];rfl
 have Kk:∀{x:Nat},x≠b->(s'.set b .KV).heap x=s'.heap x:=λ{x} hx=>by rw[rf,JT,Ng hx]
 have ADN:∀{x:Nat},(s'.set b .KV).heap x≠some .KV->x≠b/\s'.heap x≠some .KV:=λ{x} hx=>by
  have:x≠b:=λc=>hx (by rw[c];exact Lz);exact⟨this,by rw[<- Kk this];exact hx⟩
 let ks:=vs.toList.take cs.length
 let m2:J:={m' with K:=λX=>if X=B then some ks else m'.K X}
 have hK2:∀{X:Nat} {l:LV},m'.K X=some l->m2.K X=some l:=λ{X l} hX=>by
  show(if X=B then some ks else m'.K X)=_;rw[Ng (λc=>by rw[c,hK0]at hX;cases hX)];exact hX
 have hle:m'.le m2:=⟨λ_ _ h=>h,λX l hX=>⟨l,hK2 hX,Cs _⟩,λb B n e t h=>⟨B,n,t,h,Bg _,λ_=>⟨rfl,rfl⟩⟩,λ_ _ _=>rfl⟩
 have AQR:w.heap.size<=B:=by
  rcases he.cW b B h1 with⟨b0,h0⟩|h0
  .obtain⟨o,ho,_⟩:=hr.P6 b0 B h0
   have G7:b0<st.next:=by
    refine ER λc=>?_;rw[hf b0 c]at ho;cases ho
   have:=PU.LJ b0 b B (he.le.box b0 B h0) h1 (Pt b0 G7) Yc;omega
  .exact h0
 have hd:Pk m'.K k ks:=h4.Q7 hk;have HM:k.length=ks.length:=hd.length;have Up:=mU hk
 have hrel:It m2 (s'.set b .KV).heap w':=by
  refine⟨λx o hx=>?_,PU.KW,λx n e hx=>?_,λX l hX=>?_,λx X hx=>?_,λx y hx=>?_,λx y X hx hy hx2 hy2=>PU.LJ x y X hx hy (ADN hx2).2 (ADN hy2).2,PU.Mi,λx X hx hx2=>?_,PU.blt⟩
  .by_cases c:x=b
   .rw[c,Lz]at hx;cases hx;trivial
   .rw[Kk c]at hx;exact(PU.bl x o hx).Hi hle λ_ _ _=>rfl
  .have c:x≠b:=λc=>by rw[c,Lz]at hx;cases hx
   rw[Kk c]at hx;rcases PU.HE x n e hx with h0|⟨h0,B',t,g1,l,g2,g3⟩
   .exact .inl h0
   .exact .inr ⟨h0,B',t,g1,l,hK2 g2,g3⟩
  .by_cases c:X=B
   .subst c;have:(if X=X then some ks else m'.K X)=some l:=hX;rw[Ps rfl]at this;cases this;exact⟨vs,ty,h3,List.take_prefix _ _⟩
   .have:(if X=B then some ks else m'.K X)=some l:=hX;rw[Ng c]at this;exact PU.Xp X l this
  .by_cases c:x=b
   .rw[c];exact⟨_,Lz,rfl⟩
   .rw[Kk c];exact PU.P6 x X hx
  .have c:x≠b:=λc=>by
    obtain⟨n',e',ho⟩:=PU.Qq x y hx;rw[c,hb]at ho;cases ho
   rw[Kk c];exact PU.Qq x y hx
  .obtain⟨g1,g2⟩:=ADN hx2;show(if X=B then some ks else m'.K X)=none;rw[Ng (λc=>g1 (PU.LJ x b B (by rw[<- c];exact hx) h1 g2 Yc))];exact PU.bK x X hx g2
 have ADD:Lx m w m2 w':=⟨he.le.trans hle,he.size,he.cW,he.YP,λX l hX=>by
  by_cases c:X=B
  .exact .inr (.inr (by rw[c];exact AQR))
  .have:(if X=B then some ks else m'.K X)=some l:=hX;rw[Ng c]at this;exact he.bU X l this,he.LU,he.os,he.output,he.NZ,he.KW⟩
 have AHb:VR m2 (.GV (Q6 e n k)) v:=by
  cases hv' with
  |data _ _ hd=>cases hd
  |ME _ _ B' c g1 g2 g3=>
   rw[h1]at g1;cases g1;have tY:Pk m2.K k ks:=hd.mono hle.K
   have:∀{L:Nat},L=(Q6 e n k).length->VR m2 (.GV (Q6 e n k)) (.slice (some ⟨B,0,none⟩) L c):=λ{L} hL=>by
    subst hL;refine .data _ _ (.GV _ B 0 c e ks (Ps rfl) (by rw[SK];exact hn) (by rw[SK];exact g2) (by rw[SK];omega) (λi GG hi=>?_) λi GG hi=>?_)
    .obtain⟨hi1,rfl⟩:=Zh e n k i GG hi;have:=eI (o:=0) (sz:=e) (L:=k.length) hi1 (by rw[Up];omega);simp;omega
    .obtain⟨hi1,rfl⟩:=Zh e n k i GG hi;rw[CZ];exact(tY.drop _).take _
   exact this (SK e n k).symm
 have hbn:b<s'.next:=by
  refine ER λc=>?_;rw[MT b c]at hb;cases hb
 exact⟨m2,v,_,_,rfl,ADD,hrel,AHb,⟨hg.next,λx hx h0=>by rw[Kk AA];exact hg.none x hx h0⟩,λx hx=>by
  have hx:s'.next<=x:=hx;rw[Kk AA];exact MT x hx,rfl,rfl⟩
def ABB:List PV->Nat->Tr PV->Tr PV
 |[],_,t=>t
 |v::r,i,t=>ABB r (i+1) (t.set i v)
theorem tN:∀(vs:List PV) (i:Nat) (t:Tr PV) (j:Nat),(ABB vs i t).get j=if i<=j/\j<i+vs.length then vs[j-i]? else t.get j
 |[],i,t,j=>by rw[Ng AbK];rfl
 |v::r,i,t,j=>by
  show(ABB r (i+1) (t.set i v)).get j=_;rw[tN r,Tr.Xu];by_cases h:j=i
  .subst h;rw[Ng AA,Ps rfl,Ps AD,Nat.sub_self];rfl
  .rw[Ng h];by_cases h2:i+1<=j/\j<i+1+r.length
   .rw[Ps h2,Ps AB,show j-i=(j-(i+1))+1 by omega];rfl
   .rw[Ng h2,Ng AB]
theorem AN4(vs:List PV)(h:Tr Obj)(n:Nat):(ES.mk (ABB vs 0 .nil) h n).f=KZ vs:=by
 funext t;show((ABB vs 0 .nil).get t).getD .undef=(vs[t]?).getD .undef;rw[tN];split
 .rfl
 .rename_i hn;rw[Tr.xm,Ck AA]
def rB(t:Tr Obj):LN->Tr Obj->Tr Obj
 |[],a=>a
 |b::r,a=>rB t r (match t.get b with
  |some o=>a.set b o
  |none=>a)
theorem jE(t:Tr Obj):∀(l:LN) (a:Tr Obj) (x:Nat),(rB t l a).get x=if x∈l/\t.get x≠none then t.get x else a.get x
 |[],a,x=>by simp[rB]
 |b::r,a,x=>by
  show(rB t r _).get x=_;rw[jE t r];by_cases h:x∈r/\t.get x≠none
  .rw[Ps h,Ps ⟨Bq _ h.1,h.2⟩]
  .rw[Ng h];by_cases hx:x=b
   .subst hx;cases ht:t.get x with
    |none=>rw[Ng AD]
    |some o=>rw[Ps AD];show(a.set x o).get x=_;rw[Tr.Xu,Ps rfl]
   .have:(match t.get b with
     |some o=>a.set b o
     |none=>a).get x=a.get x:=by
     cases t.get b with
     |none=>rfl
     |some o=>show(a.set b o).get x=_;rw[Tr.Xu,Ng hx]
    rw[this,Ng];rintro⟨h1,h2⟩;exact h ⟨(Bm.1 h1).resolve_left hx,h2⟩
mutual
def AEg:PV->List Nat
 | .GN b _=>[b]
 | .ME b _=>[b]
 | .map b=>[b]
 | .HL b _=>[b]
 | .agg l=>U0 l
 | .tuple l=>U0 l
 | .fn _ l=>U0 l
 | .iface _ v=>AEg v
 |_=>[]
def U0:List PV->List Nat
 |[]=>[]
 |a::l=>AEg a++U0 l
end
def wH(t:Tr Obj):Nat->LN->LN->LN
 |n+1,b::r,a=>bif a.contains b then wH t n r a else wH t n ((match t.get b with
  |some (.box cs)=>U0 cs
  |some (.K7 _ cs)=>U0 cs
  |_=>[])++r) (b::a)
 |_,_,a=>a
def AJ5(t:Tr Obj)(n:Nat)(fp:LN):Bool:=fp.all λb=>DZ b n&&match t.get b with
 |some o=> !o.Uu&&o.Je (λb=>fp.contains b)
 |none=>false
section
variable(P:Program) (sD fz:FuncId->Bool) (ml:FuncId->Nat) (orc:FuncId->List PV->Option PV) (fu:Nat)
def AE7:Nat->Tr PV->Tr PV
 |0,t=>t
 |n+1,t=>AE7 n (match t.get n with
  |some (.HL _ [])=>t.set n .nil
  |_=>t)
def yP(md:Bool)(nt:Nat)(call:VI):Nat->C5->ES->Ev (OL×ES)
 |n+1,.seq a b,s=>(match Qk P md nt call fu a s with
  | .ok (.normal,s1)=>yP md nt call n b {s1 with fr:=AE7 nt s1.fr}
  | .ok _=> .error "melt"
  | .error e=> .error e)
 |_,c,s=>Qk P md nt call fu c s
def xG(call:VI)(f:B9)(vs:List PV)(s:ES):Ev (PV×ES):=match P.funcs[f]? with
 |none=> .error "func"
 |some fn=>match fn.body with
  |none=> .error "body"
  |some c=>match yP P fu (sD f) (max vs.length fn.ntmps) call (ml f) c ⟨ABB vs 0 .nil,s.hp,s.nx⟩with
   | .error e=> .error e
   | .ok (.exit _,_)=> .error "exit"
   | .ok (_,s1)=>match TN P s1.f s1.st fn.results.toList with
    |some l=> .ok (Lg l,⟨s.fr,s1.hp,s1.nx⟩)
    |none=> .error "result"
def ARu(s:ES)(v:PV)(s':ES):Ev (PV×ES):=match v with
 | .ME b n=>match s'.hp.get b with
  |some (.K7 e cs)=>match JC cs with
   |some k=>bif Nat.ble s.nx b&&(Br (n*e) cs.length&&(DZ 0 n&&(H2 0 s.nx).all λx=>match s'.hp.get x with
    |some .KV=>false
    |_=>true))then .ok (.GV (Q6 e n k),s'.bl b .KV)else .error "ice"
   |none=> .error "data"
  |_=> .error "array"
 |v=> .ok (v,s')
def PV.AN1:PV->PV
 | .HL _ []=> .nil
 |v=>v
def eZ(call:VI)(f:B9)(vs:List PV)(s:ES):Ev (PV×ES):=match fz f with
 |true=>(match xG P sD ml fu call f (vs.map PV.AN1) s with
  | .ok (v,s')=>ARu s v s'
  | .error e=> .error e)
 |false=>xG P sD ml fu call f vs s
def ACl(body:ES->Ev (PV×ES))(vs:List PV)(s:ES)(fp:LN):Ev (PV×ES×LN):=bif Jx (λb=>fp.contains b) vs&&AJ5 s.hp s.nx fp then(match body ⟨s.fr,rB s.hp fp .nil,s.nx⟩with
 | .ok (v,s0)=>bif fp.all (λb=>(s0.hp.get b).isSome)then .ok (v,⟨s.fr,rB s0.hp (fp++H2 s.nx s0.nx) s.hp,s0.nx⟩,fp)else .error "lost"
 | .error e=> .error e)else .error "foot"
def jK:Nat->VI
 |0=>λ_ _ _ _=> .error "deep"
 |n+1=>λu f vs s=>match orc f vs with
  |some v=> .ok (v,s,[])
  |none=>bif u&& !fz f then(match eZ P sD fz ml fu (jK n) f vs s with
   | .ok (v,s')=> .ok (v,s',[])
   | .error e=> .error e)
  else(match ACl (eZ P sD fz ml fu (jK n) f vs) vs s (wH s.hp 1000 (U0 vs) [])with
   | .ok (v,s',wr)=> .ok (v,s',bif u then[]else wr)
   | .error e=> .error e)
end
section
variable{P:Program} {sD fz:FuncId->Bool} {ml:FuncId->Nat} {orc:FuncId->List PV->Option PV} {fu:Nat}
theorem nW{m:J}{v:Bk}:∀(n:Nat) (t:Tr PV) (x:Nat),VR m ((t.get x).getD .undef) v->VR m (((AE7 n t).get x).getD .undef) v
 |0,t,x,h=>h
 |n+1,t,x,h=>by
  refine nW n _ x ?_;split
  .rename_i b hb;rw[Tr.Xu];split
   .rename_i hx;subst hx;rw[hb]at h;show VR m .nil v;replace h:VR m (.HL b []) v:=h
    cases h with
    |data _ _ hd=>cases hd
    |VV=>exact .nil
    |HL _ _ _ _ _ _ _ _ _ h0=>simp at h0
   .exact h
  .exact h
def ABf(P:Cf)(nt:Nat)(c:C5)(x:OL)(s s':ES):Prop:=
 ∀(IW:Nat) (m:J) (w:World) (a:Act),It m s.st.heap w->Gm s.st->FR m nt s.f a.tmps->qM IW m w a.defers->IW<=w.heap.size->∀Q:QX,
  (∀m' a' w',Lx m w m' w'->It m' s'.st.heap w'->Gm s'.st->HT s.st s'.st->FR m' nt s'.f a'.tmps->qM IW m' w' a'.defers->Q (Go.Ab.ZB x) a' w')->c.wpIn (Go.Ab.Fw none) 0 P Q a w
theorem iy{call:VI}(hc:Rr P (.Hw .Jh) call){md:Bool}{nt:Nat}{c:C5}{x:OL}{s s':ES}(h:Qk P md nt call fu c s=.ok (x,s')):ABf P nt c x s s':=by intro IW m w a hr hf MT hd hb Q hQ;obtain⟨_,k2⟩:=ah hc c h hf;refine iz nt c none IW (k2 true (λx' f st=>x'=x/\f=s'.f/\st=s'.st) ⟨rfl,rfl,rfl⟩) trivial hr hf MT hd hb Q λm' a' w' x' oi He e1 e2 e3 e4 e5 e6 hk=>?_;obtain⟨rfl,rfl,rfl⟩:=hk;exact hQ m' a' w' e1 e2 e3 e4 e5 e6
theorem ADy{call:VI}(hc:Rr P (.Hw .Jh) call){md:Bool}{nt:Nat}:∀{n:Nat} {c:C5} {x:OL} {s s':ES},yP P fu md nt call n c s=.ok (x,s')->Gm s.st->MV s s'/\ABf P nt c x s s':=by
 intro n
 induction n with
 |zero=>intro c x s s' h hf;exact⟨(ah hc c h hf).1,iy hc h⟩
 |succ n ih=>
  intro c x s s' h hf;by_cases hs:∃a b,c=.seq a b
  .obtain⟨a,b,rfl⟩:=hs;simp only[yP]at h;split at h
   .rename_i s1 h1;obtain⟨k1,_⟩:=ah hc a h1 hf;obtain⟨k3,k4⟩:=ih h k1.1;refine⟨k1.trans k3,?_⟩;intro IW m w ac hr hf MT hd hb Q hQ;apply wpIn_seq;refine iy hc h1 IW m w ac hr hf MT hd hb _ λm1 a1 w1 e1 e2 e3 e4 e5 e6=>?_;refine k4 IW m1 w1 a1 e2 e3 ⟨e5.size,λt=>nW nt s1.fr t (e5.get t)⟩ e6 (CN hb e1.size) Q λm2 a2 w2 g1 g2 g3 g4 g5 g6=>?_;exact hQ m2 a2 w2 (e1.trans g1) g2 g3 (e4.trans g4) g5 g6
   .cases h
   .cases h
  .have h:Qk P md nt call fu c s=.ok (x,s'):=by
    cases c<;>first|exact h|exact(hs ⟨_,_,rfl⟩).elim
   exact⟨(ah hc c h hf).1,iy hc h⟩
theorem tI{f:B9}{fn:Dm}{c:C5}(PR:P.funcs[f]?=some fn)(hb:fn.body=some c){args:List PV}{x:OL}{s s':ES}(hfa:s.f=KZ args)(hf:Gm s.st)(hx:∀id,x≠ .exit id){l:List PV}(hl:TN P s'.f s'.st fn.results.toList=some l)
  (h:ABf P (max args.length fn.ntmps) c x s s'):SW .Jh P f args s.st λr st=>r=Lg l/\st=s'.st:=by
 intro m w HP hE hr Mt;have HM:args.length=HP.length:=Mt.length;refine callsIn_of_wp_marks PR hb trivial ?_;refine h w.heap.size m w {tmps:=_,defers:=[]} hr hf (by rw[hfa];exact jJ Mt fn.ntmps) trivial (Bg _) _ λm1 a1 w1 e1 r1 f1 w1' g1 d1=>?_
 have fin:LeavesInM DF 0 P fn a1.tmps (ti m w s.st λr st=>r=Lg l/\st=s'.st) a1.defers .returning w1:=by
  refine S6 a1.defers e1 r1 d1 λw2 e2 r2=>?_;obtain⟨l',q1,q2⟩:=VA g1 r2 hl;refine⟨if h:l'.toArray.size=1 then l'.toArray[0]else .tuple l'.toArray,?_,m1,_,Lg l,s'.st,rfl,e2,r2,ku q2,w1',f1,rfl,rfl⟩;rw[Go.Ab.VB,B6];exact Aes
 cases x with
 |normal=>exact fin
 |exit id=>exact(hx id rfl).elim
 |ret=>exact fin
theorem qw{call:VI}(hc:Rr P (.Hw .Jh) call){f:B9}{vs:List PV}{s:ES}{v:PV}{s':ES}(h:xG P sD ml fu call f vs s=.ok (v,s'))(hf:Gm s.st):
  s'.fr=s.fr/\MV s s'/\SW .Jh P f vs s.st λr st=>r=v/\st=s'.st:=by
 unfold xG at h;split at h
 .cases h
 .rename_i fn PR;split at h
  .cases h
  .rename_i c hb;split at h
   .cases h
   .cases h
   .rename_i x s1 hx AQj;split at h
    .rename_i l hl;cases h;obtain⟨k1,k2⟩:=ADy hc AQj hf;refine⟨rfl,k1,?_⟩;exact tI (s':=s1) PR hb (AN4 vs s.hp s.nx) hf (λid e=>hx id e) hl k2
    .cases h
theorem y9:∀vs:List PV,tX vs (vs.map PV.AN1)
 |[]=>tX.refl _
 |v::l=> .cons (λm x h=>by
  unfold PV.AN1;split
  .cases h with
   |data _ _ hd=>cases hd
   |VV=>exact .nil
   |HL _ _ _ _ _ _ _ _ _ h0=>simp at h0
  .exact h) (y9 l)
theorem gq{call:VI}(hc:Rr P (.Hw .Jh) call){f:B9}{vs:List PV}{s:ES}{v:PV}{s':ES}(h:eZ P sD fz ml fu call f vs s=.ok (v,s'))(hf:Gm s.st):
  s'.fr=s.fr/\MV s s'/\SW .Jh P f vs s.st λr st=>r=v/\st=s'.st:=by
 unfold eZ at h;split at h
 .split at h
  .rename_i v1 s1 h1;obtain⟨g1,g2,g3⟩:=qw hc h1 hf;replace g3:=g3.Hw (y9 vs)
   unfold ARu at h;split at h
   .rename_i b n;split at h
    .rename_i e cs hb;split at h
     .rename_i k hk
      cases hc:Nat.ble s.nx b&&(Br (n*e) cs.length&&(DZ 0 n&&(H2 0 s.nx).all λx=>match s1.hp.get x with
       |some .KV=>false
       |_=>true))with
      |false=>rw[hc]at h;cases h
      |true=>
       rw[hc]at h;cases h;obtain⟨c1,hc⟩:=Go.Ab.and_true hc;obtain⟨c2,hc⟩:=Go.Ab.and_true hc;obtain⟨c3,c4⟩:=Go.Ab.and_true hc;have OK:s1.st.heap b=some (.K7 e cs):=hb;have G7:b<s1.st.next:=ER λc=>by rw[g2.1 b c]at OK;cases OK
       have:=SW.ALj g3 hf OK (EM c1) (λx hx hd=>by
        have:=CY.1 c4 x (gQ.2 ⟨DO _,hx⟩);rw[show s1.hp.get x=some .KV from hd]at this;cases this) hk (B5 c2) (Go.Ab.cX c3)
       refine⟨g1,?_,by rw[ES.Zm];exact this⟩;unfold MV;rw[ES.Zm];have Kk:∀{x:Nat},x≠b->(s1.st.set b .KV).heap x=s1.st.heap x:=λ{x} hx=>by show(bif Br x b then _ else _)=_;rw[JT,Ng hx]
       have hle:s.st.next<=b:=EM c1
       exact⟨λx hx=>by
        have hx:s1.st.next<=x:=hx;rw[Kk AA];exact g2.1 x hx,g2.2.next,λx hx h0=>by rw[Kk AA];exact g2.2.none x hx h0⟩
     .cases h
    .cases h
   .cases h;exact⟨g1,g2,g3⟩
  .cases h
 .exact qw hc h hf
theorem ACm{call:VI}(hc:Rr P (.Hw .Jh) call){f:B9}{vs:List PV}{s s':ES}{fp:LN}{v:PV}{wr:LN}(h:ACl (eZ P sD fz ml fu call f vs) vs s fp=.ok (v,s',wr))(hf:Gm s.st):
  s'.fr=s.fr/\MV s s'/\SC .Jh P f vs s.st v s'.st/\mB .Jh P f vs s.st v s'.st wr:=by
 unfold ACl at h;cases hl:Jx (λb=>fp.contains b) vs&&AJ5 s.hp s.nx fp with
 |false=>rw[hl]at h;cases h
 |true=>
  rw[hl]at h;simp only[cond_true]at h;obtain⟨YK,cM⟩:=Go.Ab.and_true hl;split at h
  .rename_i v1 s0 hb;cases hal:fp.all (λb=>(s0.hp.get b).isSome)with
   |false=>rw[hal]at h;cases h
   |true=>
    rw[hal]at h;cases h
    have pE:(ES.mk s.fr (rB s.hp fp .nil) s.nx).st=Hn s.st fp:=by
     show St.mk _ _=St.mk _ _;congr 1;funext x;rw[jE,Tr.xm];show _=if fp.contains x=true then s.hp.get x else none
     by_cases c:x∈fp
     .rw[Ps (show fp.contains x=true by simpa using c)];split
      .rfl
      .rename_i hn;cases hh:s.hp.get x with
       |none=>rfl
       |some o=>exact Zq ⟨c,by rw[hh];simp⟩ hn
     .rw[Ng λh=>c h.1,Ng (show¬fp.contains x=true by simpa using c)]
    have MT:Gm (Hn s.st fp):=hf.Hn;obtain⟨_,g2,g3⟩:=gq hc hb (by rw[pE];exact MT);unfold MV at g2;rw[pE]at g2 g3
    have hFp:nh s.st fp:=λb hb=>by
     have:=CY.1 cM b hb;obtain⟨h1,h2⟩:=Go.Ab.and_true this;refine⟨Go.Ab.cX h1,?_⟩;show∃o,s.hp.get b=some o/\_;split at h2
     .rename_i o ho;obtain⟨h3,h4⟩:=Go.Ab.and_true h2;exact⟨o,ho,by simpa using h3,h4⟩
     .cases h2
    have hsc:SC .Jh P f vs (Hn s.st fp) v s0.st:=.AKD g3 g2.2 g2.1
    have ARD:(ES.mk s.fr (rB s0.hp (fp++H2 s.nx s0.nx) s.hp) s0.nx).st=Nf s.st fp s0.st:=by
     show St.mk _ _=St.mk _ _;congr 1;funext x;rw[jE];show _=if eB s.st fp s0.st x=true then s0.hp.get x else s.hp.get x
     have hm:eB s.st fp s0.st x=true<->x∈fp++H2 s.nx s0.nx:=by rw[SF,Bf,gQ];exact Iff.rfl
     by_cases c:x∈fp++H2 s.nx s0.nx
     .rw[Ps (hm.2 c)];split
      .rfl
      .rename_i hn
       have h0:s0.hp.get x=none:=by
        cases hh:s0.hp.get x with
        |none=>rfl
        |some o=>exact Zq ⟨c,by rw[hh];simp⟩ hn
       rw[h0];rcases Bf.1 c with c|c
       .have:=CY.1 hal x c;rw[h0]at this;cases this
       .exact hf x (gQ.1 c).1
     .rw[Ng λh=>c (hm.1 h),Ng λh=>c h.1]
    have hF:=SC.OD (E:=.Jh) (λ_ _ _=>trivial) hsc YK hFp hf;rw[<- ARD]at hF;exact⟨rfl,⟨hF.Iv,hF.Iw⟩,hF,⟨vs,s0.st,λ_ _ _=>trivial,tX.refl vs,YK,hsc,hFp,ARD⟩⟩
  .cases h
def ABp(P:Cf)(orc:B9->List PV->Option PV):Prop:=∀f vs v,orc f vs=some v->PC P f vs [] v []/\JA vs 0=some (vs,[])/\∀s,JF v s=(v,s)
variable(ho:ABp P orc)
include ho
theorem jL:∀n,Rr P (.Hw .Jh) (jK P sD fz ml orc fu n)
 |0=>λu f vs s v s' wr h=>by cases h
 |n+1=>λu f vs s v s' wr h hf=>by
  simp only[jK]at h;split at h
  .rename_i v1 hv;cases h;obtain⟨h1,h2,h3⟩:=ho f vs v hv;exact⟨rfl,⟨hf,HT.refl _⟩,λK hK=>(Mb P _).2 (.inl ⟨v,s.st,[],⟨vs,[],v,[],h2,rfl,rfl,rfl,h1,(h3 _).symm⟩,hK⟩)⟩
  cases hu:u&& !fz f with
  |true=>
   rw[hu]at h;obtain⟨rfl,_⟩:=Go.Ab.and_true hu;simp only[cond_true]at h;split at h
   .rename_i v1 s1 hb;cases h;obtain⟨g1,g2,g3⟩:=gq (jL n) hb hf;exact⟨g1,g2,λK hK=>(Mb P _).2 (.inr ⟨_,g3,λv He _ _ hq=>by obtain⟨rfl,rfl⟩:=hq;exact hK⟩)⟩
   .cases h
  |false=>
   rw[hu]at h;simp only[cond_false]at h;split at h
   .rename_i v1 s1 wr1 hb;cases h;obtain⟨g1,g2,g3,g4⟩:=ACm (jL n) hb hf;refine⟨g1,g2,λK hK=>(Mb P _).2 (.inr ?_)⟩;cases u with
    |true=>exact⟨_,g3.sw (Q:=λr st=>r=v/\st=s'.st) ⟨rfl,rfl⟩,λv' He _ _ hq=>by obtain⟨rfl,rfl⟩:=hq;exact hK⟩
    |false=>exact⟨v,_,wr1,g4,hK⟩
   .cases h
theorem fG{n:Nat}{f:B9}{vs:List PV}{s:ES}{v:PV}{s':ES}(h:eZ P sD fz ml fu (jK P sD fz ml orc fu n) f vs s=.ok (v,s'))(hf:Gm s.st):SW .Jh P f vs s.st λr st=>r=v/\st=s'.st:=(gq (jL ho n) h hf).2.2
end
end
section
open Go.Ab (Tr)
def eqL{α:Type}(e:α->α->Bool):List α->List α->Bool
 |[],[]=>true
 |a::l,b::r=>e a b&&eqL e l r
 |_,_=>false
def uw{α:Type}{e:α->α->Bool}(h:∀a b,e a b=true->a=b):∀{l r:List α},eqL e l r=true->l=r
 |[],[],_=>rfl
 |[],_::_,k=>by cases k
 |_::_,[],k=>by cases k
 |a::l,b::r,k=>by
  obtain⟨h1,h2⟩:=Go.Ab.and_true k;rw[h a b h1,uw h h2]
def eqI:Int->Int->Bool
 | .ofNat a,.ofNat b=>Br a b
 | .negSucc a,.negSucc b=>Br a b
 |_,_=>false
def ALc:∀{a b:Int},eqI a b=true->a=b
 | .ofNat a,.ofNat b,h=>by rw[B5 h]
 | .negSucc a,.negSucc b,h=>by rw[B5 h]
 | .ofNat _,.negSucc _,h=>by cases h
 | .negSucc _,.ofNat _,h=>by cases h
def ALd(e:PV->PV->Bool):PV->PV->Bool
 | .int .i64 a,.int .i64 b=>eqI a b
 | .bool true,.bool true=>true
 | .bool false,.bool false=>true
 | .Gh a,.Gh b=>eqB a.data.toList b.data.toList
 | .GV a,.GV b=>eqL (eqL e) a b
 |_,_=>false
def eqV:Nat->PV->PV->Bool
 |0=>λ_ _=>false
 |n+1=>ALd (eqV n)
def ALe:∀{n:Nat} {a b:PV},eqV n a b=true->a=b:=by
 intro n
 induction n with
 |zero=>intro a b h;cases h
 |succ n ih=>
  intro a b h;have h:ALd (eqV n) a b=true:=h;unfold ALd at h;split at h
  .rw[ALc h]
  .rfl
  .rfl
  .rw[og,beq_iff_eq]at h;rw[ByteArray.ext (Array.toList_inj.1 h)]
  .rw[uw (λa b h=>uw (λa b h=>ih h) h) h]
  .cases h
def AEr(P:Cf)(sD fz:B9->Bool)(fu n:Nat)(f:B9)(vs:List PV)(x:PV):Bool:=match eZ P sD fz (λ_=>0) fu (jK P sD fz (λ_=>0) (λ_ _=>none) fu n) f vs ⟨.nil,.nil,0⟩with
 | .ok (.tuple [.agg [y],.bool true],_)=>match y.data with
  |some d=>eqV 20 d x
  |none=>false
 |_=>false
def AEs{P:Cf}{sD fz:B9->Bool}{fu n:Nat}{f:B9}{vs:List PV}{x:PV}(h:AEr P sD fz fu n f vs x=true):∃y,y.data=some x/\SW .Jh P f vs (MJ []) λr _=>r=.tuple [.agg [y],.bool true]:=by
 unfold AEr at h;split at h
 .rename_i y s1 hb;split at h
  .rename_i d hd
   have h0:(ES.mk .nil .nil 0).st=MJ []:=by
    show St.mk _ _=St.mk _ _;congr 1
   refine⟨y,by rw[hd,ALe h],?_⟩;have:=fG (λ_ _ _ h=>by cases h) hb AbG;exact Ahc
  .cases h
 .cases h
def AED(P:Cf)(ml:B9->Nat)(orc:B9->List PV->Option PV)(fu n:Nat)(f:B9)(vs:List PV):Option (List PV):=match eZ P (λ_=>true) (λ_=>false) ml fu (jK P (λ_=>true) (λ_=>false) ml orc fu n) f vs ⟨.nil,.nil,0⟩with
 | .ok (.tuple l,_)=>some l
 |_=>none
def AEE{P:Cf}{ml:B9->Nat}{orc:B9->List PV->Option PV}(ho:ABp P orc){fu n:Nat}{f:B9}{vs l:List PV}(h:AED P ml orc fu n f vs=some l):SW .Jh P f vs (MJ []) λr _=>r=.tuple l:=by
 unfold AED at h;split at h
 .rename_i l1 s1 hb;cases h
  have h0:(ES.mk .nil .nil 0).st=MJ []:=by
   show St.mk _ _=St.mk _ _;congr 1
  have:=fG ho hb AbG;exact Ahc
 .cases h
def Th{HV:List (List PV)}:Gm (MJ HV):=λb hb=>by
 exact AgZ
def XI{P:Cf}{f:B9}{args:List PV}{Q:PV->St->Prop}(h:SW .Jh P f args (MJ []) Q){x:PV}(hQ:∀r s,Q r s->OB r=some x):PC P f args [] x []:=by
 intro K w Bs HP hK hC KO OU;have hr:=rp hK hC KO;have Mt:=nq OU;cases hC;refine(h _ w HP trivial hr Mt).mono ?_;rintro e w' ⟨m',v,r,s',rfl,e2,r2,hv,_,_,hq⟩;refine⟨m'.K,v,rfl,e2.le.K,r2.Xp,λB ks Jm G7=>?_,.nil,e2.size,λB G7 hn=>e2.LU B G7 ?_,e2.os,e2.output,e2.NZ,mF hv (hQ r s' hq) _⟩
 .exact Af3
 .rintro(⟨b,hb⟩|⟨b,n,e,t,hb⟩)
  .cases hb
  .cases hb
end
end Go.Vi
