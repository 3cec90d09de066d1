/- Part of the proof of CauseOrders (own work, made small). -/
import Derived.Test.YtlonlfiaclacdaaGreatG1
set_option linter.all false
set_option maxRecDepth 100000
open Bool renaming and_eq_true->Bk,eq_iff_iff->De,false_eq_true->Ch
open Go renaming FuncId->CE,TypeId->Bm
open Go.Proofs.Tryz renaming prog->BW
open Go.Vi.G8 renaming all->BM,Gy->A2
open Go.Vi.HF renaming Gy->BC
open Go.Vi.HM renaming name->Ap,Gy->Ao
open Go.Vi.Item renaming Gy->Aq,wt->BE,Il->As
open Go.Vi.KC renaming run->Aw
open Go.Vi.KD renaming is->BF
open Go.Vi.PV renaming bool->BG
open Go.Vi.St renaming JW->A3,Hn->Av,LW->BN,HY->Ar,IB->Ay
open Int renaming toNat_natCast->Ce
open List renaming all_cons->Cl,all_eq_true->CV,append_nil->CL,contains_iff_mem->DJ,drop_eq_getElem_cons->Bx,drop_of_length_le->CT,eq_of_mem_replicate->El,ext_getElem?->Dc,filterMap_eq_nil_iff->Fi,filter_cons_of_neg->EB,filter_cons_of_pos->EA,flatten_replicate_singleton->Ds,getD_eq_getElem?_getD->Bq,getElem?_append->GL,getElem?_append_left->B5,getElem?_eq_getElem->BZ,getElem?_eq_none->CA,getElem?_eq_some_iff->Bn,getElem?_map->CH,getElem?_range->Eg,getElem?_set->DQ,getElem?_take_of_lt->Ek,getElem_mem->Bl,length_append->Bf,length_cons->CG,length_eq_zero_iff->Dd,length_filter_le->FA,length_map->BX,length_range->ES,length_singleton->CZ,map_append->Br,map_congr_left->Ej,map_replicate->GX,map_set->E6,mem_append->Bg,mem_cons->Bz,mem_filterMap->B6,mem_iff_getElem->FW,mem_iff_getElem?->Dm,mem_map->B8,mem_of_getElem?->Bt,mem_or_eq_of_mem_set->Ee,mem_range->D7,mem_singleton->CS,nil_append->CX,nodup_append->B3,nodup_cons->CY,not_mem_nil->DY,range->Bw,replicate->C2,take_append_drop->CP,take_of_length_le->CJ,take_succ->GM
open Nat renaming add_mul->CW,add_zero->DF,beq->Bo,le_refl->Bd,le_trans->CD,mul_le_mul_right->Cf
open Ne renaming symm->ER
open Option.some renaming inj->DM,injEq->Ba
open Prod renaming fst->CO,snd->Bp
namespace Go.Vi
attribute [local irreducible] Iq IJ Hf Ij HS Ik G3 G4 HQ IA H7 KV Hx Ig Ie Iz LH LS Jq Kp LG Hw Hg IT pQ Jy JZ Hb HP He H2 IN I0 Int.instDecidableEq Int.decEq instBEqOfDecidableEq KB Jk Jx MS Sn SZ IP IU IZ pC Rs SY MW MX MH
section
open Go.Proofs
def AG6{s:St}{t:Bm}{v:PV}:I0 (IJ (.iface t v)) s (.iface t v) s [] []:=by unfold IJ;exact Ns
def tX{s:St}{lp b n:Nat}(h:s.heap lp=some (.box [.LQ b n])):∃q,m8 BW 125 (.G5 lp 0)=some q/\q.run s=some (.LQ b n,s):=by refine⟨_,rfl,?_⟩;simp only[Aw,h];rw[show uu BW 125 [PV.LQ b n] 0=some (.LQ b n) by kernel_rfl]
def AP2:Go.Ab.Rr BW 124 "Len"=some (64,false,some 125):=by kernel_rfl
def AKm:Go.Ab.Rr BW 124 "Less"=some (199,false,some 125):=by kernel_rfl
def AKo:Go.Ab.Rr BW 124 "Swap"=some (202,false,some 125):=by kernel_rfl
def AKn:Go.Ab.Rr BW 124 "Push"=some (201,true,some 125):=by kernel_rfl
def AP3:Go.Ab.Rr BW 124 "Pop"=some (200,true,some 125):=by kernel_rfl
structure im (s:St) (lp b:Nat) (cells:List PV) (xs:List Int):Prop where
 box:s.heap lp=some (.box [.LQ b xs.length])
 LM:s.heap b=some (.LM 1 cells)
 len:xs.length<=cells.length
 HI:∀(i:Nat) (x:Int),xs[i]?=some x->cells[i]?=some (I x)
def im.Ir{s s':St}{lp b:Nat}{cells:LP}{xs:LI}(h:im s lp b cells xs)(h1:s'.heap lp=s.heap lp)(h2:s'.heap b=s.heap b):im s' lp b cells xs:=⟨h1.trans h.box,h2.trans h.LM,h.len,h.HI⟩
def ABg{s:St}(hf:Ha s){lp b:Nat}{cells:LP}{xs:LI}(h:im s lp b cells xs):qn .Lp BW "Len" [.iface 124 (.G5 lp 0)] s λr s'=>r=I xs.length/\s'=s:=by refine⟨124,.G5 lp 0,[],64,Tryz.f64,false,some 125,.LQ b xs.length,rfl,AP2,Tryz.func64,rfl,by kernel_rfl,tX h.box,(AFm (.Im .Lp) _ ?_).sw hf⟩;unfold g64;refine Gu iU ?_;refine Gu Jb ?_;exact Ls (Q:=λr s'=>r=I xs.length/\s'=s) rfl ⟨rfl,rfl⟩
def m6{s:St}(hf:Ha s){lp b:Nat}{cells:LP}{xs:LI}(h:im s lp b cells xs){i j:Nat}{x y:Int}(hi:xs[i]?=some x)(hj:xs[j]?=some y):qn .Lp BW "Less" [.iface 124 (.G5 lp 0),I i,I j] s λr s'=>r=.bool (decide (x<y))/\s'=s:=by have SX:=(Bn.1 hi).1;have WB:=(Bn.1 hj).1;refine⟨124,.G5 lp 0,[I i,I j],199,Tryz.f199,false,some 125,.LQ b xs.length,rfl,AKm,Tryz.func199,rfl,by kernel_rfl,tX h.box,(AJw (.Im .Lp) _ _ _ ?_).sw hf⟩;unfold ASq;refine HA (LA AA Ah) ?_;refine HA (Lw h.LM (h.HI i x hi)) ?_;refine HA (LA AA AcU) ?_;refine HA (Lw h.LM (h.HI j y hj)) ?_;refine HA (Ho (v:=.bool (decide (x<y))) rfl) ?_;refine HA OM ?_;refine⟨?_,Ls (Q:=λr s'=>r=.bool (decide (x<y))/\s'=s) rfl ⟨rfl,rfl⟩⟩;simp[Ih,I6,Jv,It]
def nw{s:St}(hf:Ha s){lp b:Nat}{cells:LP}{xs:LI}(h:im s lp b cells xs){i j:Nat}{x y:Int}(hi:xs[i]?=some x)(hj:xs[j]?=some y):
  qn .Lp BW "Swap" [.iface 124 (.G5 lp 0),I i,I j] s λr s'=>r=.tuple []/\s'.next=s.next/\im s' lp b ((cells.set i (I y)).set j (I x)) ((xs.set i y).set j x)/\∀d,d≠b->s'.heap d=s.heap d:=by
 have SX:=(Bn.1 hi).1;have WB:=(Bn.1 hj).1;have II:=h.len;refine⟨124,.G5 lp 0,[I i,I j],202,Tryz.f202,false,some 125,.LQ b xs.length,rfl,AKo,Tryz.func202,rfl,by kernel_rfl,tX h.box,(AJz (.Im .Lp) _ _ _ ?_).sw hf⟩;have MT:lp≠b:=Ip h.box h.LM AD;unfold ASt;refine HA (LA AA AcU) ?_;refine HA (Lw h.LM (h.HI j y hj)) ?_;refine HA (LA AA Ah) ?_;refine HA (Lw h.LM (h.HI i x hi)) ?_;refine HA (LA AA Ah) ?_;refine HA (SN h.LM rfl AB) ?_;refine HA (LA AA AcU) ?_;refine HA (SN Ay rfl AB) ?_;simp only[Ce];refine⟨?_,Ls (Q:=λr s'=>r=.tuple []/\s'.next=s.next/\im s' lp b ((cells.set i (I y)).set j (I x)) ((xs.set i y).set j x)/\∀d,d≠b->s'.heap d=s.heap d) rfl ⟨rfl,rfl,⟨?_,Ay,by simp;omega,λk z hz=>?_⟩,λd hd=>?_⟩⟩
 .simp[Ih,I6,Jv,It];exact⟨⟨by kernel_rfl,by kernel_rfl⟩,by kernel_rfl,by kernel_rfl,by kernel_rfl⟩
 .rw[Ar MT,Ar MT,h.box];simp
 .rw[DQ]at hz⊢;rw[List.length_set]at hz⊢;by_cases c:j=k
  .simp only[c,if_true]at hz⊢;exact Ain
  .simp only[c,if_false]at hz⊢;rw[DQ]at hz⊢;by_cases c2:i=k
   .simp only[c2,if_true]at hz⊢;exact Ain
   .simp only[c2,if_false]at hz⊢;exact h.HI k z hz
 .rw[Ar hd,Ar hd]
def AHQ{s:St}(hf:Ha s){lp b:Nat}{cells:LP}{xs:LI}(h:im s lp b cells xs)(hn:xs.length<=1000000)(x:Int):
  qn .Lp BW "Push" [.iface 124 (.G5 lp 0),.iface 3 (I x)] s λr s'=>r=.tuple []/\im s' lp s.next (cells.take xs.length++[PVI x]) (xs++[x])/\s'.next=s.next+1/\∀d,d≠lp->d≠b->d<s.next->s'.heap d=s.heap d:=by
 have II:=h.len;have MT:lp≠b:=Ip h.box h.LM AD;have hlp:=HT hf h.box;have hbl:=HT hf h.LM;refine⟨124,.G5 lp 0,[.iface 3 (I x)],201,Tryz.f201,true,some 125,.G5 lp 0,rfl,AKn,Tryz.func201,rfl,by kernel_rfl,rfl,(AJy (.Im .Lp) _ _ ?_).sw hf⟩;obtain⟨s1,L9⟩:∃s1,s1=(s.set b .NY).new (.LM 1 (cells.take xs.length++[I x])):=⟨_,rfl⟩
 have Yz:s1.next=s.next+1:=by rw[L9];rfl
 have MR:s1.heap lp=some (.box [.LQ b xs.length]):=by
  rw[L9];exact(Av (s:=s.set b .NY) (n:=s.next) rfl AA).trans ((Ar MT).trans h.box)
 have Me:s1.heap s.next=some (.LM 1 (cells.take xs.length++[I x])):=by
  rw[L9];exact A3 (s:=s.set b .NY) rfl
 have fin:im (s1.set lp (.box [.LQ s.next (xs.length+[[PVI x]].length)])) lp s.next (cells.take xs.length++[I x]) (xs++[x]):=by
  refine⟨?_,?_,by simp;omega,λk z hz=>?_⟩
  .rw[Ay];simp
  .rw[Ar AA];exact Me
  .rw[GL]at hz⊢;split at hz
   .rename_i hk;rw[Ps AB,Ek hk];exact h.HI k z hz
   .rename_i hk;rw[Ng AB];have Jr:k-(cells.take xs.length).length=k-xs.length:=by simp;omega
    rw[Jr];cases hc:k-xs.length with
    |zero=>rw[hc]at hz;simp at hz;subst hz;rfl
    |succ m=>rw[hc]at hz;simp at hz
 have Ir:∀d,d≠lp->d≠b->d<s.next->(s1.set lp (.box [.LQ s.next (xs.length+[[PVI x]].length)])).heap d=s.heap d:=λd h1 h2 h3=>by
  rw[Ar h1,L9];exact(Av (s:=s.set b .NY) (n:=s.next) rfl AA).trans (Ar h2)
 obtain⟨s2,K9⟩:∃s2,s2=s1.set lp (.box [.LQ s.next (xs.length+[[PVI x]].length)]):=⟨_,rfl⟩
 have fE:s2.next=s.next+1:=by rw[K9];exact Yz
 rw[<- K9]at fin Ir;unfold ASs;refine HA Kg ?_;refine HA (G2 h.box rfl) ?_;refine HA AQC ?_;refine HA (zk (G1:=[[I x]]) rfl) ?_;refine HA (AG8 (n:=xs.length) (x:=.HC [[I x]]) (xs:=[[I x]]) rfl rfl (Jd AB AS) h.LM AA rfl) ?_;rw[show(s.set b .NY).new (.LM 1 (cells.take (xs.length*1)++[[PVI x]].flatten))=s1 by rw[L9,Nat.mul_one];rfl];refine HA Kg ?_;refine HA (Nf (NL:=[.LQ s.next (xs.length+[[PVI x]].length)]) MR rfl rfl rfl) ?_;rw[<- K9];refine⟨?_,Ls (l':=[]) (Q:=λr s'=>r=.tuple []/\im s' lp s.next (cells.take xs.length++[PVI x]) (xs++[x])/\s'.next=s.next+1/\∀d,d≠lp->d≠b->d<s.next->s'.heap d=s.heap d) rfl ⟨rfl,fin,fE,Ir⟩⟩;simp[Ih,I6,Jv,It];exact⟨KU AF,by kernel_rfl,KU AF⟩
def ALC{s:St}(hf:Ha s){lp b:Nat}{cells:LP}{xs:LI}{x:Int}(h:im s lp b cells (xs++[x]))(hn:xs.length<=1000000):
  qn .Lp BW "Pop" [.iface 124 (.G5 lp 0)] s λr s'=>r=.iface 3 (I x)/\im s' lp b cells xs/\s'.next=s.next/\∀d,d≠lp->s'.heap d=s.heap d:=by
 have II:=h.len;simp only[Bf,CZ]at II;have MT:lp≠b:=Ip h.box h.LM AD;have ao:=h.box;simp only[Bf,CZ]at ao;have hx:cells[xs.length]?=some (I x):=h.HI xs.length x AD;refine⟨124,.G5 lp 0,[],200,Tryz.f200,true,some 125,.G5 lp 0,rfl,AP3,Tryz.func200,rfl,by kernel_rfl,rfl,(AJx (.Im .Lp) _ ?_).sw hf⟩;unfold ASr;refine Gu Kg ?_;refine Gu (G2 ao rfl) ?_;refine Gu iU ?_;apply Gu
 .exact Ho (v:=I xs.length) (by
   show some (PVI (IntKind.i64.wrap _))=_;rw[Hr AA AA];simp)
 refine Gu Jb ?_;refine Gu Kg ?_;refine Gu (G2 ao rfl) ?_;refine Gu (LA AA AD) ?_;refine Gu (Lw h.LM (by simpa using hx)) ?_;refine Gu Jb ?_;refine Gu Kg ?_;refine Gu (G2 ao rfl) ?_;refine Gu (AUn AA AD) ?_;refine Gu Kg ?_;refine Gu (Nf (NL:=[.LQ b (Int.toNat xs.length)]) ao rfl rfl rfl) ?_;refine Gu (zl rfl) ?_;refine Gu AG6 ?_;refine Ls (Q:=λr s'=>r=.iface 3 (I x)/\im s' lp b cells xs/\s'.next=s.next/\∀d,d≠lp->s'.heap d=s.heap d) rfl ⟨rfl,⟨?_,?_,AA,λk z hz=>?_⟩,rfl,λd hd=>Ar hd⟩
 .rw[Ay];simp
 .rw[Ar MT.symm];exact h.LM
 .refine h.HI k z ?_;rw[B5 (Bn.1 hz).1];exact hz
end
namespace Hp
def lt(a b:Int):Prop:=a<b
def sy{a b:Int}(h:lt a b):¬lt b a:=by unfold lt at*;omega
def le_trans{a b c:Int}(h1:¬lt b a)(h2:¬lt c b):¬lt c a:=by unfold lt at*;omega
def le_refl(a:Int):¬lt a a:=by unfold lt;omega
abbrev dW:=Nat->Int
def swp(f:dW)(i j:Nat):dW:=λk=>if k=i then f j else if k=j then f i else f k
@[simp]theorem qa(f:dW)(i j:Nat):swp f i j i=f j:=by simp[swp]
@[simp]theorem xG(f:dW)(i j:Nat):swp f i j j=f i:=by unfold swp;split;{rename_i h;rw[h]};simp
def ZZ(f:dW){i j k:Nat}(h1:k≠i)(h2:k≠j):swp f i j k=f k:=by simp[swp,h1,h2]
def Th(n:Nat)(f:dW):Prop:=∀k,0<k->k<n->¬lt (f k) (f ((k-1)/2))
def Th.AYn{n:Nat}{f:dW}(h:Th n f):∀k,k<n->¬lt (f k) (f 0):=by
 intro k
 induction k using Nat.strongRecOn with
 |_ k ih=>
  intro hk;by_cases h0:k=0
  .subst h0;exact le_refl _
  .exact le_trans (ih ((k-1)/2) AA AA) (h k AA hk)
def kS(n:Nat)(f:dW)(j:Nat):Prop:=(∀k,0<k->k<n->k≠j->¬lt (f k) (f ((k-1)/2)))/\(∀k,0<k->k<n->(k-1)/2=j->0<j->¬lt (f k) (f ((j-1)/2)))
def kS.Lp{n:Nat}{f:dW}(h:kS n f 0):Th n f:=λk h0 hk=>h.1 k h0 hk AA
def kS.dO{n:Nat}{f:dW}{j:Nat}(h:kS n f j)(hl:¬lt (f j) (f ((j-1)/2))):Th n f:=λk h0 hk=>by
 by_cases e:k=j
 .rw[e];exact hl
 .exact h.1 k h0 hk e
def kS.step{n:Nat}{f:dW}{j:Nat}(h:kS n f j)(h0:0<j)(hj:j<n)(hl:lt (f j) (f ((j-1)/2))):kS n (swp f ((j-1)/2) j) ((j-1)/2):=by
 obtain⟨i,hi⟩:∃i,i=(j-1)/2:=⟨_,rfl⟩
 rw[<- hi]at hl⊢;have sS:i<j:=AA;constructor
 .intro k k0 kn ki;by_cases e:k=j
  .subst e;rw[<- hi,xG,qa];exact sy hl
  .rw[ZZ f ki e];by_cases e1:(k-1)/2=j
   .rw[e1,xG];have:=h.2 k k0 kn e1 h0;rwa [<- hi]at this
   .by_cases e2:(k-1)/2=i
    .rw[e2,qa];have:=h.1 k k0 kn e;rw[e2]at this;exact le_trans (sy hl) this
    .rw[ZZ f e2 e1];exact h.1 k k0 kn e
 .intro k k0 kn ki i0;have hpi:(i-1)/2≠i:=AA;have hpj:(i-1)/2≠j:=AA;have hii:=h.1 i i0 AA AA;rw[ZZ f hpi hpj];by_cases e:k=j
  .subst e;rw[xG];exact hii
  .rw[ZZ f AA e];have:=h.1 k k0 kn e;rw[ki]at this;exact le_trans hii this
def Uz(n:Nat)(f:dW)(i:Nat):Prop:=(∀k,0<k->k<n->(k-1)/2≠i->¬lt (f k) (f ((k-1)/2)))/\(∀k,0<k->k<n->(k-1)/2=i->0<i->¬lt (f k) (f ((i-1)/2)))
def Uz.AYX{n:Nat}{f:dW}{i:Nat}(h:Uz n f i)(hl:n<=2*i+1):Th n f:=λk h0 hk=>h.1 k h0 hk AA
def U0(n:Nat)(f:dW)(i j:Nat):Prop:=(j-1)/2=i/\0<j/\j<n/\∀k,0<k->k<n->(k-1)/2=i->¬lt (f k) (f j)
def U0.right{n:Nat}{f:dW}{i:Nat}(h2:2*i+2<n)(hl:lt (f (2*i+2)) (f (2*i+1))):U0 n f i (2*i+2):=
 ⟨AA,AA,h2,λk k0 kn ki=>by
  rcases(show k=2*i+1\/k=2*i+2 by omega)with rfl|rfl
  .exact sy hl
  .exact le_refl _⟩
def U0.left{n:Nat}{f:dW}{i:Nat}(h1:2*i+1<n)(hl:¬(2*i+2<n/\lt (f (2*i+2)) (f (2*i+1)))):U0 n f i (2*i+1):=
 ⟨AA,AA,h1,λk k0 kn ki=>by
  rcases(show k=2*i+1\/k=2*i+2 by omega)with rfl|rfl
  .exact le_refl _
  .exactλh=>hl ⟨kn,h⟩⟩
def Uz.dO{n:Nat}{f:dW}{i j:Nat}(h:Uz n f i)(hj:U0 n f i j)(hl:¬lt (f j) (f i)):Th n f:=λk h0 hk=>by
 by_cases e:(k-1)/2=i
 .rw[e];exact le_trans hl (hj.2.2.2 k h0 hk e)
 .exact h.1 k h0 hk e
def Uz.step{n:Nat}{f:dW}{i j:Nat}(h:Uz n f i)(hj:U0 n f i j)(hl:lt (f j) (f i)):Uz n (swp f i j) j:=by
 obtain⟨h1,h2,h3,h4⟩:=hj;have sS:i<j:=AA;constructor
 .intro k k0 kn kj;by_cases e:k=j
  .subst e;rw[h1,xG,qa];exact sy hl
  .by_cases e1:k=i
   .subst e1;rw[qa,ZZ f AA AA];exact h.2 j h2 h3 h1 k0
   .rw[ZZ f e1 e];by_cases e2:(k-1)/2=i
    .rw[e2,qa];exact h4 k k0 kn e2
    .rw[ZZ f e2 kj];exact h.1 k k0 kn e2
 .intro k k0 kn kj _;rw[h1,qa,ZZ f AA AA];have:=h.1 k k0 kn AA;rwa [kj]at this
def Th.AOB{n:Nat}{f:dW}(h:∀k,0<k->k<n->(k-1)/2≠0->¬lt (f k) (f ((k-1)/2))):Uz n f 0:=⟨h,λ_ _ _ _ h=>Zq h AA⟩
def put(f:dW)(n:Nat)(x:Int):dW:=λk=>if k=n then x else f k
def AM1(f:dW){n k:Nat}(x:Int)(h:k≠n):put f n x k=f k:=by simp[put,h]
def kS.put{n:Nat}{f:dW}(h:Th n f)(x:Int):kS (n+1) (put f n x) n:=⟨λk k0 kn e=>by rw[AM1 f x e,AM1 f x AA];exact h k k0 AA,λk k0 kn e _=>by omega⟩
def Th.cut{n:Nat}{f:dW}(h:Th (n+1) f):Uz n (swp f 0 n) 0:=Th.AOB λk k0 kn e=>by rw[ZZ f AA AA,ZZ f e AA];exact h k k0 AA
end Hp
section
open Go.Proofs
def fx(xs:LI):Nat->Int:=λk=>xs.getD k 0
def Qv{xs:LI}{k:Nat}(h:k<xs.length):xs[k]?=some (fx xs k):=by unfold fx;rw[Bq,BZ h];rfl
def mB{xs:LI}{i j:Nat}(hi:i<xs.length)(hj:j<xs.length):fx ((xs.set i (fx xs j)).set j (fx xs i))=Hp.swp (fx xs) i j:=by
 funext k;unfold Hp.swp;by_cases hk:k<xs.length
 .have h1:((xs.set i (fx xs j)).set j (fx xs i))[k]?=some (fx ((xs.set i (fx xs j)).set j (fx xs i)) k):=Qv Ag;rw[DQ,DQ]at h1;simp only[List.length_set]at h1
  have h1:=DM (h1.symm.trans (by
   show _=some (if k=i then fx xs j else if k=j then fx xs i else fx xs k);by_cases c:j=k
   .rw[Ps c,Ps AA];by_cases c2:k=i
    .rw[Ps c2];congr 1;rw[<- c2,c]
    .rw[Ng c2,Ps c.symm]
   .rw[Ng c];by_cases c2:i=k
    .rw[Ps c2,Ps AA,Ps c2.symm]
    .rw[Ng c2,Ng (ER c2),Ng (ER c)];exact Qv hk))
  exact h1
 .have e1:¬k=i:=AA;have e2:¬k=j:=AA;rw[Ng e1,Ng e2];unfold fx;have n1:((xs.set i (xs.getD j 0)).set j (xs.getD i 0))[k]?=none:=CA AB;have n2:xs[k]?=none:=CA AA;rw[Bq (l:=(xs.set i (xs.getD j 0)).set j (xs.getD i 0)),n1,Bq (l:=xs) (i:=k),n2]
def nk{xs:LI}{i j:Nat}(hi:i<xs.length)(hj:j<xs.length):((xs.set i (fx xs j)).set j (fx xs i)).Perm xs:=by
 have h1:fx xs j=xs[j]:=by have:=Qv hj;rw[BZ hj]at this;exact(DM this).symm
 have h2:fx xs i=xs[i]:=by have:=Qv hi;rw[BZ hi]at this;exact(DM this).symm
 rw[h1,h2];exact List.set_set_perm hi hj
end
section
open Go.Proofs
structure kR (s:St) (lp b:Nat) (xs:List Int) (s':St) (Nn:List Int):Prop where
 hp:∃MQ,im s' lp b MQ Nn
 AHO:Nn.Perm xs
 next:s'.next=s.next
 Ir:∀d,d≠b->s'.heap d=s.heap d
 Lq:Ha s'
def AYl{j:Nat}(h:j<=2000000):al BW .quo 3 (I (j:Int)) (I 2)=some (I (j/2:Nat)):=by show(if(2:Int)=0 then none else some (PVI (IntKind.i64.wrap ((j:Int).tdiv 2))))=_;rw[Ng AA,Int.tdiv_eq_ediv_of_nonneg AA,Hr AA AA];rfl
def ACO{lp b:Nat}{Q:F1}:∀(m j:Nat),j<m->∀{s:St} {cells:LP} {xs:LI} (hf:Ha s) (h:im s lp b cells xs) (hn:xs.length<=1000000) (hj:j<xs.length) (hu:Hp.kS xs.length (fx xs) j)
  (hQ:∀s' Nn,kR s lp b xs s' Nn->Hp.Th Nn.length (fx Nn)->Q (.tuple []) s'),gm (.Im .Lp) Q m (.iface 124 (.G5 lp 0)) (I j) s
 |m+1,0,hm,s,cells,xs,hf,h,hn,hj,hu,hQ=>by
  unfold gm rj;refine Gu (Ho (v:=I (-1)) rfl) ?_;refine Gu (Ho (v:=I 0) AF) ?_;refine Gu Jb ?_;refine Gu AeG ?_;refine sN ?_;refine sN ?_;refine sN ?_;refine sN ?_;refine sN ?_;refine Gu Uw ?_;refine ct ?_;exact Ls (Q:=Q) rfl (hQ s xs ⟨⟨cells,h⟩,List.Perm.refl _,rfl,λ_ _=>rfl,hf⟩ hu.Lp)
 |m+1,j+1,hm,s,cells,xs,hf,h,hn,hj,hu,hQ=>by
  have hi:j/2<xs.length:=AA;unfold gm rj;apply Gu
  .exact Ho (v:=I (j:Nat)) (by
    show some (PVI (IntKind.i64.wrap _))=_;rw[Hr AA AA];simp)
  refine Gu (Ho (AYl AA)) ?_;refine Gu Jb ?_;apply Gu
  .exact Ho (v:=.bool false) (by
    show some (BG (((j/2:Nat):Int)==((j+1:Nat):Int)))=_;rw[beq_eq_false_iff_ne.2 AA])
  refine sM ?_;refine sM ?_;refine sM ?_;refine AMy AF ⟨_,m6 hf h (Qv hj) (Qv hi),λv s' _ _ hq=>?_⟩;obtain⟨rfl,UQ⟩:=hq;rw[UQ];refine Mh bX ?_;refine Gu TP ?_;have hji:(j+1-1)/2=j/2:=AD;refine Gw (λhb=>?_) λhb=>?_
  .have hb:¬(fx xs (j+1)<fx xs (j/2)):=by simpa using hb
   exact Ls (Q:=Q) rfl (hQ s xs ⟨⟨cells,h⟩,List.Perm.refl _,rfl,λ_ _=>rfl,hf⟩ (hu.dO (by rw[hji];exact hb)))
  .have hb:fx xs (j+1)<fx xs (j/2):=by simpa using hb
   refine ZR (nw hf h (Qv hi) (Qv hj)) λv s1 _ Nm hq=>?_;obtain⟨rfl,Yz,h1,Mv⟩:=hq;refine Gu Jb ?_;have II:((xs.set (j/2) (fx xs (j+1))).set (j+1) (fx xs (j/2))).length=xs.length:=AD
   refine ACO m (j/2) AA Nm h1 (by rw[II];exact hn) (by rw[II];exact hi) (by
    rw[II,mB hi hj];have:=hu.step AA hj (by rw[hji];exact hb);rwa [hji]at this) λs' Nn hT hH=>?_
   exact hQ s' Nn ⟨hT.hp,hT.AHO.trans (nk hi hj),hT.next.trans Yz,λd hd=>(hT.Ir d hd).trans (Mv d hd),hT.Lq⟩ hH
end
section
open Go.Proofs
attribute [local irreducible] gq aD
def uz{lp b:Nat}{Q:F1}{n i:Nat}{s:St}(hQ:∀c,Q (.bool c) s):gq (.Im .Lp) Q (I 0) (I i) s:=by unfold gq;refine Gu (Ho (v:=.bool (decide ((i:Int)>0))) rfl) ?_;refine Gu OM ?_;exact Ls (Q:=Q) rfl (hQ _)
def pL{lp b:Nat}{Q:F1}{n:Nat}:∀(m i:Nat),n<i+m->∀{s:St} {cells:LP} {xs:LI} (hf:Ha s) (h:im s lp b cells xs) (hn:n<=xs.length) (hx:xs.length<=1000000) (hi:i<=n) (hu:Hp.Uz n (fx xs) i)
  (hQ:∀s' Nn c,kR s lp b xs s' Nn->Hp.Th n (fx Nn)->(∀k,n<=k->fx Nn k=fx xs k)->Q (.bool c) s'),Wp (.Im .Lp) Q m (.iface 124 (.G5 lp 0)) (I 0) (I n) (I i) s
 |0,i,hm,s,cells,xs,hf,h,hn,hx,hi,hu,hQ=>by omega
 |m+1,i,hm,s,cells,xs,hf,h,hn,hx,hi,hu,hQ=>by
  have Kv:kR s lp b xs s xs:=⟨⟨cells,h⟩,List.Perm.refl _,rfl,λ_ _=>rfl,hf⟩
  have go:∀j:Nat,Hp.U0 n (fx xs) i j->aD (.Im .Lp) Q (Wp (.Im .Lp) Q m) (.iface 124 (.G5 lp 0)) (I 0) (I n) (I i) (I j) s:=λj hl=>by
   have hjn:j<n:=hl.2.2.1;have sS:i<j:=by have:=hl.1;have:=hl.2.1;omega
   have hj':j<xs.length:=AA;have VI:i<xs.length:=AA;unfold aD;refine ZR (m6 hf h (Qv hj') (Qv VI)) λv s' _ _ hq=>?_;obtain⟨rfl,UQ⟩:=hq;rw[UQ];refine Gu bX ?_;refine Gw (λhb=>?_) λhb=>?_
   .have hb:¬(fx xs j<fx xs i):=by simpa using hb
    exact uz (lp:=lp) (b:=b) (n:=n) λc=>hQ s xs c Kv (hu.dO hl hb) λ_ _=>rfl
   .have hb:fx xs j<fx xs i:=by simpa using hb
    refine ZR (nw hf h (Qv VI) (Qv hj')) λv s1 _ Nm hq=>?_;obtain⟨rfl,Yz,h1,Mv⟩:=hq;refine Gu Jb ?_;have II:((xs.set i (fx xs j)).set j (fx xs i)).length=xs.length:=AD
    refine pL m j AA Nm h1 (by rw[II];exact hn) (by rw[II];exact hx) AA (by
     rw[mB VI hj'];exact hu.step hl hb) λs' Nn c hT hH hO=>?_
    refine hQ s' Nn c ⟨hT.hp,hT.AHO.trans (nk VI hj'),hT.next.trans Yz,λd hd=>(hT.Ir d hd).trans (Mv d hd),hT.Lq⟩ hH λk hk=>?_;rw[hO k hk,mB VI hj',Hp.ZZ _ AA AA]
  unfold Wp vG;apply Gu
  .exact Ho (v:=I (2*i:Nat)) (by
    show some (PVI (IntKind.i64.wrap _))=_;rw[Hr AA AA];simp)
  apply Gu
  .exact Ho (v:=I (2*i+1:Nat)) (by
    show some (PVI (IntKind.i64.wrap _))=_;rw[Hr AA AA];simp)
  refine Gu Jb ?_;by_cases h1:2*i+1<n
  .apply Gu
   .exact Ho (v:=.bool false) (by
     show some (BG (decide (((2*i+1:Nat):Int)>=(n:Int))))=_;rw[decide_eq_false AA])
   refine sM ?_;refine Mh Ade ?_;refine Gu TP ?_;refine cf ?_;refine Gu Jb ?_;apply Gu
   .exact Ho (v:=I (2*i+2:Nat)) (by
     show some (PVI (IntKind.i64.wrap _))=_;rw[Hr AA AA];simp;omega)
   refine Gu Jb ?_;by_cases h2:2*i+2<n
   .refine Gu Adf ?_;refine mS ?_;refine mS ?_;refine mS ?_;refine AMy AF ⟨_,m6 hf h (Qv (show 2*i+2<xs.length by omega)) (Qv (show 2*i+1<xs.length by omega)),λv s' _ _ hq=>?_⟩;obtain⟨rfl,UQ⟩:=hq;rw[UQ];refine Gu Uw ?_;refine Gw (λhb=>?_) λhb=>?_
    .have hb:fx xs (2*i+2)<fx xs (2*i+1):=by simpa using hb
     refine Gu Jb ?_;exact go (2*i+2) (Hp.U0.right h2 hb)
    .have hb:¬(fx xs (2*i+2)<fx xs (2*i+1)):=by simpa using hb
     exact go (2*i+1) (Hp.U0.left h1 λhc=>hb hc.2)
   .refine Gu Ade ?_;refine iC ?_;refine iC ?_;refine iC ?_;refine iC ?_;refine Gu TP ?_;refine cf ?_;exact go (2*i+1) (Hp.U0.left h1 λhc=>h2 hc.1)
  .apply Gu
   .exact Ho (v:=.bool true) (by
     show some (BG (decide (((2*i+1:Nat):Int)>=(n:Int))))=_;rw[decide_eq_true AA])
   refine sN ?_;refine sN ?_;refine Gu Uw ?_;refine ct ?_;exact uz (lp:=lp) (b:=b) (n:=n) λc=>hQ s xs c Kv (hu.AYX AA) λ_ _=>rfl
end
section
open Go.Proofs
def AOO{xs:LI}{x:Int}:fx (xs++[x])=Hp.put (fx xs) xs.length x:=by
 funext k;unfold fx Hp.put;show(xs++[x]).getD k 0=if k=xs.length then x else xs.getD k 0
 rw[Bq,Bq,GL];by_cases h:k<xs.length
 .rw[Ps h,Ng AA]
 .rw[Ng h];by_cases h2:k=xs.length
  .subst h2;simp
  .rw[Ng h2,CA AB,CA AA]
def ALF{s:St}(hf:Ha s){lp b:Nat}{cells:LP}{xs:LI}(h:im s lp b cells xs)(hn:xs.length<1000000)(hH:Hp.Th xs.length (fx xs))(x:Int):
  SW .Lp BW 63 [.iface 124 (.G5 lp 0),.iface 3 (I x)] s λr s'=>r=.tuple []/\∃b' MQ Nn,im s' lp b' MQ Nn/\Hp.Th Nn.length (fx Nn)/\Nn.Perm (xs++[x])/\s.next<=b'/\∀d,d≠lp->d≠b->d<s.next->s'.heap d=s.heap d:=by
 refine(AOa (.Im .Lp) _ _ ?_).sw hf;unfold g63;refine ZR (AHQ hf h AA x) λv s1 _ Nm hq=>?_;obtain⟨rfl,h1,Yz,Mv⟩:=hq;refine ZR (ABg Nm h1) λv s2 _ _ hq=>?_;obtain⟨rfl,UQ⟩:=hq;rw[UQ];have hl:(xs++[x]).length=xs.length+1:=AD;apply Gu
 .exact Ho (v:=I xs.length) (by
   show some (PVI (IntKind.i64.wrap _))=_;rw[hl,Hr AA AA];simp)
 have key:SW .Lp BW 100 [.iface 124 (.G5 lp 0),I xs.length] s1 λr s'=>r=.tuple []/\∃Nn,kR s1 lp s.next (xs++[x]) s' Nn/\Hp.Th Nn.length (fx Nn):=by
  refine(AJs (.Im .Lp) _ _ ?_).sw Nm;unfold ASm;exact⟨xs.length+1,ACO _ _ AA Nm h1 AA AA (by rw[AOO,hl];exact Hp.kS.put hH x) λs' Nn hT hH'=>⟨rfl,Nn,hT,hH'⟩⟩
 refine UT key λv s' _ _ hq=>?_;obtain⟨rfl,Nn,hT,hH'⟩:=hq;obtain⟨MQ,hp⟩:=hT.hp;refine Ls (Q:=λr s'=>r=.tuple []/\∃b' MQ Nn,im s' lp b' MQ Nn/\Hp.Th Nn.length (fx Nn)/\Nn.Perm (xs++[x])/\s.next<=b'/\∀d,d≠lp->d≠b->d<s.next->s'.heap d=s.heap d) rfl ⟨rfl,s.next,MQ,Nn,hp,hH',hT.AHO,Bd _,λd d1 d2 d3=>?_⟩;rw[hT.Ir d AA,Mv d d1 d2 d3]
end
section
open Go.Proofs
def AAP{xs:LI}{n:Nat}(h:xs.length=n+1):xs=xs.take n++[fx xs n]:=by
 have h1:xs[n]?=some (fx xs n):=Qv AA
 have h2:xs.drop n=[fx xs n]:=by
  rw[Bx AA,CT AA];rw[BZ AA]at h1;rw[DM h1]
 rw[<- h2,CP]
def ABA{xs:LI}{n k:Nat}(hk:k<n):fx (xs.take n) k=fx xs k:=by unfold fx;rw[Bq,Bq,Ek hk]
def AQW{s:St}(hf:Ha s){lp b n:Nat}{cells:LP}{xs:LI}(h:im s lp b cells xs)(hl:xs.length=n+1)(hn:n<1000000)(hH:Hp.Th xs.length (fx xs)):
  SW .Lp BW 65 [.iface 124 (.G5 lp 0)] s λr s'=>r=.iface 3 (I (fx xs 0))/\∃MQ Nn,im s' lp b MQ Nn/\Hp.Th Nn.length (fx Nn)/\(Nn++[fx xs 0]).Perm xs/\s'.next=s.next/\∀d,d≠lp->d≠b->s'.heap d=s.heap d:=by
 have h0:0<xs.length:=AA;have Pz:n<xs.length:=AA;refine(AOb (.Im .Lp) _ ?_).sw hf;unfold g65;refine ZR (ABg hf h) λv s0 _ _ hq=>?_;obtain⟨rfl,UQ⟩:=hq;rw[UQ];apply Gu
 .exact Ho (v:=I n) (by
   show some (PVI (IntKind.i64.wrap _))=_;rw[hl,Hr AA AA];simp)
 refine Gu Jb ?_;refine ZR (nw (i:=0) hf h (Qv h0) (Qv Pz)) λv s1 _ Nm hq=>?_;obtain⟨rfl,Yz,h1,Mv⟩:=hq;have II:((xs.set 0 (fx xs n)).set n (fx xs 0)).length=xs.length:=AD
 have key:SW .Lp BW 101 [.iface 124 (.G5 lp 0),I 0,I n] s1 λ_ s'=>∃Nn,kR s1 lp b ((xs.set 0 (fx xs n)).set n (fx xs 0)) s' Nn/\Hp.Th n (fx Nn)/\fx Nn n=fx xs 0:=by
  refine(AJt (.Im .Lp) _ _ _ ?_).sw Nm;unfold ASn;refine Gu Jb ?_;refine⟨n+1,pL (n+1) 0 AA Nm h1 AA AA AA (by rw[mB h0 Pz];rw[hl]at hH;exact Hp.Th.cut hH) λs' Nn c hT hH' hO=>⟨Nn,hT,hH',?_⟩⟩;rw[hO n (Bd _),mB h0 Pz,Hp.xG]
 refine UT key λv s2 _ OK hq=>?_;obtain⟨xs2,hT,hH2,hx2⟩:=hq;obtain⟨cF,fG⟩:=hT.hp;have jI:xs2.length=n+1:=by rw[hT.AHO.length_eq,II,hl]
 have vk:=AAP jI;rw[hx2]at vk;have ve:im s2 lp b cF (xs2.take n++[fx xs 0]):=by rw[<- vk];exact fG
 refine ZR (ALC OK ve AB) λv s3 _ _ hq=>?_;obtain⟨rfl,h3,hn3,bP⟩:=hq;refine Gu AG6 ?_;have H5:(xs2.take n).length=n:=by simp;omega
 refine Ls (Q:=λr s'=>r=.iface 3 (PVI (fx xs 0))/\∃MQ Nn,im s' lp b MQ Nn/\Hp.Th Nn.length (fx Nn)/\(Nn++[fx xs 0]).Perm xs/\s'.next=s.next/\∀d,d≠lp->d≠b->s'.heap d=s.heap d) rfl ⟨rfl,cF,xs2.take n,h3,?_,?_,?_,λd d1 d2=>?_⟩
 .rw[H5];intro k k0 kn;rw[ABA kn,ABA AA];exact hH2 k k0 kn
 .rw[<- vk];exact hT.AHO.trans (nk h0 Pz)
 .rw[hn3,hT.next,Yz]
 .rw[bP d d1,hT.Ir d d2,Mv d d2]
end
section
open Go.Proofs
structure OnS (s:St) (b:Nat) (os:List (Option Nat×List Int)):Prop where
 LM:s.heap b=some (.LM 1 (os.map IV))
 Hm:∀p,p∈os->LK s p
 nd:(os.filterMap CO).Nodup
def OnS.Ir{s s':St}{b:Nat}{os:List (OLI)}(h:OnS s b os)(h1:s'.heap b=s.heap b)(h2:∀d,d∈os.filterMap CO->s'.heap d=s.heap d):OnS s' b os:=⟨h1.trans h.LM,λp hp=>(h.Hm p hp).Ir λc hc=>h2 c (B6.2 ⟨p,hp,hc⟩),h.nd⟩
def OnS.lt{s:St}(hf:Ha s){b:Nat}{os:List (OLI)}(h:OnS s b os){d:Nat}(hd:d∈os.filterMap CO):∃n,s.heap d=some (.Hm n 1):=by obtain⟨p,hp,hc⟩:=B6.1 hd;have:=h.Hm p hp;unfold LK at this;rw[hc]at this;exact⟨_,this⟩
def ADk{d:Nat}:∀(os:List (OLI)) (i v:Nat) (p q:OLI),os[i]?=some p->os[v]?=some q->p.1=some d->q.1=some d->(os.filterMap CO).Nodup->i=v:=by
 intro os
 induction os with
 |nil=>intro i v p q h;simp at h
 |cons z os ih=>
  intro i v p q hi hv hp hq L6
  have ADE:(os.filterMap CO).Nodup:=by
   cases hz:z.1 with
   |none=>simpa only[List.filterMap_cons,hz]using L6
   |some e=>simp only[List.filterMap_cons,hz,CY]at L6;exact L6.2
  cases i with
  |zero=>
   cases v with
   |zero=>rfl
   |succ v=>
    exact AhW
  |succ i=>
   cases v with
   |zero=>
    exact AhX
   |succ v=>simp at hi hv;rw[ih i v p q hi hv hp hq ADE]
def AHE{s:St}(hf:Ha s){b:Nat}{os:List (OLI)}(hO:OnS s b os){v:Nat}{p:OLI}(hv:os[v]?=some p){x:PV}{xs:LI}(hx:x.G1=some (Ku xs))(hn:p.2.length+xs.length<=1000000000):
  ∃y s1 s2 nP,I0 (IT 1 8 (IV p) x) s y s1 [] p.1.toList/\y.Iu=true/\I0 (HQ 1 y (.G5 b v)) s1 .undef s2 [] [b]/\OnS s2 b nP/\nP.length=os.length/\nP.map Bp=NT (os.map Bp) v xs/\(∀d,d∈nP.filterMap CO->d∈os.filterMap CO\/s.next<=d)/\(∀d,d≠b->d∉os.filterMap CO->d<s.next->s2.heap d=s.heap d)/\IL s s2/\Ha s2/\(∀d,s.heap d≠none->p.1≠some d->s1.heap d=s.heap d):=by
 obtain⟨o,l⟩:=p;have hvl:=(Bn.1 hv).1;have mg:(o,l)∈os:=Bt hv;obtain⟨c,s1,a1,a2,a3,a4,a5,a6⟩:=Zj hf (hO.Hm _ mg) hx hn;have dX:=hO.LM
 have ZC:∀{p:OLI} {d:Nat},p∈os->p.1=some d->s.heap d=some (.Hm p.2.length 1):=λ{p d} hp hd=>by
  have:=hO.Hm p hp;unfold LK at this;rw[hd]at this;exact this
 have hbc:b≠c:=by
  exact AiI
 have MR:s1.heap b=some (.LM 1 (os.map IV)):=(a3 b hbc).trans dX;have ml:(os.map IV).set v (IV (some c,l++xs))=(os.set v (some c,l++xs)).map IV:=by rw[E6]
 have NM:∀d,d≠b->d≠c->(s1.set b (.LM 1 ((os.map IV).set v (IV (some c,l++xs))))).heap d=s.heap d:=λd h1 h2=>by rw[Ar h1,a3 d h2]
 refine⟨_,s1,s1.set b (.LM 1 ((os.map IV).set v (IV (some c,l++xs)))),os.set v (some c,l++xs),a1,M6,SN MR M6 (by simpa using hvl),⟨by rw[Ay,ml],λp hp=>?_,?_⟩,AD,?_,λd hd=>?_,λd h1 h2 h3=>?_,a6.trans (JO AP),JH a5 AP,λd hd hd2=>?_⟩
 .obtain⟨i,hi⟩:∃i,(os.set v (some c,l++xs))[i]?=some p:=Dm.1 hp;rw[DQ]at hi;split at hi
  .exact AjI
  .rename_i MT;have hpo:p∈os:=Bt hi;refine(hO.Hm p hpo).Ir λd hd=>?_;have hdo:=ZC hpo hd;refine NM d (Ip hdo dX AD) ?_;rintro rfl;rcases a4 with⟨h,_⟩|⟨_,h,_⟩
   .exact MT (ADk os i v p (o,l) hi hv hd h hO.nd).symm
   .have:=HT hf hdo;omega
 .refine qA hv hO.nd ?_;exact Agp
 .unfold NT;rw[E6,Bq,CH,hv];rfl
 .exact Agb
 .refine NM d h1 ?_;exact AiX
 .exact Aht
end
section
open Go.Proofs
def zZ(i:Int):iP BW 55 (.i i)=true:=by kernel_rfl
def mw{n:Int}:BF (.i n) (.i n)=true:=by simp[BF]
def AGU{n n':Int}(h:n'≠n):BF (.i n') (.i n)=false:=by simp[BF,h]
def AGT{n:Int}{k:KD}(h:BF (.i n) k=true):k=.i n:=by
 cases k with
 |i m=>simp only[BF,beq_iff_eq]at h;rw[h]
 |s _=>cases h
def nG{n n':Int}{i:Int}:∀{M:ML},Ko (.i n') (Qz (.i n) i M)=if n'=n then some i else Ko (.i n') M
 |[]=>by
  by_cases h:n'=n
  .subst h;simp[Qz,Ko,mw]
  .simp[Qz,Ko,AGU h,h]
 |(k,v)::r=>by
  unfold Qz;cases hk:BF (.i n) k with
  |true=>
   have:=AGT hk;subst this;by_cases h:n'=n
   .subst h;simp[Ko,mw]
   .simp[Ko,AGU h,h]
  |false=>
   simp only[cond_false,Ko];cases Ta:BF (.i n') k with
   |true=>
    have:=AGT Ta;subst this;have h:n'≠n:=by rintro rfl;rw[mw]at hk;cases hk
    simp[h]
   |false=>simp only[cond_false];exact nG
def pz{n:Int}{i:Int}:∀{M:ML},M.all (λp=>(KD.i 0).QV p.1)=true->(Qz (.i n) i M).all (λp=>(KD.i 0).QV p.1)=true
 |[],_=>rfl
 |(k,v)::r,h=>by
  simp only[Cl,Bk]at h;unfold Qz;cases BF (.i n) k with
  |true=>simp only[cond_true,Cl,h.2,Bool.and_true];rfl
  |false=>simp only[cond_false,Cl,h.1,pz h.2,Bool.and_true]
def zV{n n':Int}{M:ML}(h:M.all (λp=>(KD.i n).QV p.1)=true):M.all (λp=>(KD.i n').QV p.1)=true:=by
 rw[CV]at h⊢;intro p hp;have:=h p hp;cases hk:p.1 with
 |i _=>rfl
 |s _=>rw[hk]at this;cases this
def ArI(s:St)(b:Nat)(ws:LI):Prop:=s.heap b=some (.LM 1 (ws.map λi=>I i))
def ArI.HI{ws:LI}{i:Nat}{x:Int}(h:ws[i]?=some x):(ws.map λi=>PVI i)[i]?=some (I x):=by rw[CH,h];rfl
end
section
open Go.Proofs
def ABt{s s0:St}{p:OLI}(hp:LK s0 p){i:Nat}{x:Int}(hx:p.2[i]?=some x):I0 (Jq 1 (IV p) (I i)) s (.M8 [I x] 0) s [] []:=by
 unfold LK at hp;unfold IV;split
 .rename_i he;rw[he]at hp;simp only at hp;rw[hp]at hx;simp at hx
 .exact Ju AA (by simp[Ku,hx]) rfl
def Vt{α:Type}{n v:Nat}{f:Nat->α}{x:α}:((Bw n).map f).set v x=(Bw n).map λk=>if k=v then x else f k:=by
 apply Dc;intro k;rw[DQ];by_cases h:k<n
 .simp[Eg h];by_cases c:v=k
  .simp[c,h]
  .simp[c,ER c]
 .have:(Bw n)[k]?=none:=CA AB;simp only[CH,this,Option.map_none,BX,ES];split<;>simp<;>omega
def ADu{n w:Nat}{f:Nat->LI}{xs:LI}(hw:w<n):NT ((Bw n).map f) w xs=(Bw n).map λk=>if k=w then f k++xs else f k:=by
 unfold NT;rw[Vt];have:((Bw n).map f).getD w []=f w:=by rw[Bq,CH,Eg hw];rfl
 rw[this];apply Ej;intro k _;by_cases c:k=w
 .rw[Ps c,Ps c,c]
 .rw[Ng c,Ng c]
def Si:LI->LI->LI
 |_,[]=>[]
 |QY,x::r=>if QY.contains x then Si QY r else x::Si (QY++[x]) r
def dm(on:LLI)(i w:Nat):LI:=((Bw i).filter λv=>(on.getD v []).contains (w:Int)).map λ(v:Nat)=>(v:Int)
def ak(on:LLI)(v:Nat)(Jp:LI)(w:Nat):LI:=dm on v w++if Jp.contains (w:Int)then[(v:Int)]else[]
end
section
open Go.Proofs
attribute [local irreducible] Up Wr
def eZ:∀{a:LI} {QY:LI} {w:Int},Si QY (a++[w])=if(QY++a).contains w then Si QY a else Si QY a++[w]
 |[],QY,w=>by simp[Si]
 |x::a,QY,w=>by
  simp only[List.cons_append,Si];by_cases h:QY.contains x
  .rw[Ps h,Ps h,eZ]
   have:(QY++x::a).contains w=(QY++a).contains w:=by
    rw[De];simp only[DJ,Bg,Bz]at h⊢;constructor
    .rintro(h1|rfl|h1)
     .exact AiL
     .exact .inl h
     .exact .inr h1
    .rintro(h1|h1)
     .exact AiL
     .exact .inr (.inr h1)
   rw[this]
  .rw[Ng h,Ng h,eZ];have:(QY++[x]++a).contains w=(QY++x::a).contains w:=AD;rw[this];split<;>simp
def UW(on:LLI)(v:Nat)(Jp:LI)(k:Nat):Int:=if k<v then((Si [] (on.getD k [])).length:Int)else if k=v then((Si [] Jp).length:Int)else 0
def AE4{on:LLI}{v:Nat}{Jp:LI}{w:Int}(hw:0<=w)(hp:Jp.contains w=false){k:Nat}:ak on v (Jp++[w]) k=if k=w.toNat then ak on v Jp k++[(v:Int)]else ak on v Jp k:=by
 unfold ak;by_cases c:k=w.toNat
 .have e:(k:Int)=w:=AA;rw[Ps c,e,hp];simp
 .have e:(k:Int)≠w:=AA;rw[Ng c];congr 1
  have:(Jp++[w]).contains (k:Int)=Jp.contains (k:Int):=by
   rw[De];simp[e]
  rw[this]
def ACg{on:LLI}{v:Nat}{Jp:LI}{w:Int}(hp:Jp.contains w=true):ak on v (Jp++[w])=ak on v Jp:=by
 funext k;unfold ak
 have:(Jp++[w]).contains (k:Int)=Jp.contains (k:Int):=by
  rw[De];simp only[DJ,Bg,CS]at hp⊢;exact⟨λh=>h.elim id λh=>h▸hp,.inl⟩
 rw[this]
end
section
open Go.Proofs
attribute [local irreducible] Up Wr
structure XX (s:St) (wb bb:Nat) (on:List (List Int)) (v:Nat) (Jp:List Int) (os:List (Option Nat×List Int)):Prop where
 ws:ArI s wb ((Bw on.length).map (UW on v Jp))
 bh:OnS s bb os
 len:os.length=on.length
 map:os.map Bp=(Bw on.length).map (ak on v Jp)
 ne:wb≠bb
structure AIf (s:St) (mp:Nat) (M:ML) (Jp:List Int):Prop where
 map:s.heap mp=some (.map M)
 QV:M.all (λp=>(KD.i 0).QV p.1)=true
 is:∀x:Int,Ko (.i x) M=if Jp.contains x then some 1 else none
def AE5{on:LLI}{v:Nat}{Jp:LI}{w:Nat}:(ak on v Jp w).length<=v+1:=by
 unfold ak dm;rw[Bf,BX];have:=FA (λv=>(on.getD v []).contains (w:Int)) (Bw v);rw[ES]at this;split
 .simp only[CZ];omega
 .simp only[List.length_nil];omega
def Tj{i:Int}(h:0<=i)(h2:i<=1000000000):al BW .add 3 (I i) (I 1)=some (I (i+1)):=Ajq
def SQ{α:Type}{n k:Nat}{f:Nat->α}(h:k<n):((Bw n).map f)[k]?=some (f k):=by rw[CH,Eg h];rfl
structure Left (s:St) (wb bb mp:Nat) (os:List (Option Nat×List Int)) (s':St) (nP:List (Option Nat×List Int)):Prop where
 Hm:∀d,d∈nP.filterMap CO->d∈os.filterMap CO\/s.next<=d
 Ir:∀d,d≠wb->d≠bb->d≠mp->d∉os.filterMap CO->d<s.next->s'.heap d=s.heap d
 Ki:IL s s'
 Lq:Ha s'
def Left.refl{s:St}{wb bb mp:Nat}{os:List (OLI)}(hf:Ha s):Left s wb bb mp os s os:=⟨λ_ h=> .inl h,λ_ _ _ _ _ _=>rfl,IL.refl s,hf⟩
def Left.trans{s1 s2 s3:St}{wb bb mp:Nat}{o1 o2 o3:List (OLI)}(h:Left s1 wb bb mp o1 s2 o2)(k:Left s2 wb bb mp o2 s3 o3):Left s1 wb bb mp o1 s3 o3:=
 have hn:=h.Ki.next
 ⟨λd hd=>by
  rcases k.Hm d hd with h1|h1
  .exact h.Hm d h1
  .exact .inr AA,λd a b c e f=>by
  rw[k.Ir d a b c (λhm=>by
   rcases h.Hm d hm with h1|h1
   .exact e h1
   .omega) AA]
  exact h.Ir d a b c e f,h.Ki.trans k.Ki,k.Lq⟩
end
section
open Go.Proofs
attribute [local irreducible] Up
def js:∀{a QY:LI},(Si QY a).length<=a.length
 |[],_=>by simp[Si]
 |x::a,QY=>by
  simp only[Si];split
  .have:=@js a QY;simp;omega
  .have:=@js a (QY++[x]);simp;omega
def AAK{s s0:St}(hf:Ha s){wb bb mp:Nat}{on:LLI}{v:Nat}{Jp:LI}{os:List (OLI)}{M:ML}(hS:XX s wb bb on v Jp os)(hM:AIf s mp M Jp){p:OLI}(hp:LK s0 p){j:Nat}{w:Int}(hw:p.2[j]?=some w)(h0:0<=w)(hwn:w<on.length)(hv:v<on.length)(va:on.length<=100000)(au:p.2.length<=1000000000)(sh:Jp.length<=900000000):
  ∃s' nP M',XX s' wb bb on v (Jp++[w]) nP/\AIf s' mp M' (Jp++[w])/\Left s wb bb mp os s' nP/\
   ∀{Q:F1} {AEN:PV->PV->PV->PV->PV->F1} {W:PV->PV->PV->PV->PV->PV->PV->PV->PV->PV->F1} {a b c d:PV},
    W a (.LQ wb on.length) (.LQ bb on.length) (I v) (.map mp) b c d (IV p) (I p.2.length) (I (j+1:Nat)) s'->
    Yp (.Im .Lp) Q AEN W a (.LQ wb on.length) (.LQ bb on.length) (I v) (.map mp) b c d (IV p) (I p.2.length) (I j) s:=by
 have WB:=(Bn.1 hw).1
 have yq:al BW .add 3 (I j) (I 1)=some (I (j+1:Nat)):=by
  have:=Tj (i:=(j:Int)) AA AA;rw[this];rfl
 cases hc:Jp.contains w with
 |true=>
  have oH:Si [] (Jp++[w])=Si [] Jp:=by rw[eZ];simp only[CX,hc,if_true]
  have hws:UW on v (Jp++[w])=UW on v Jp:=by funext k;unfold UW;rw[oH]
  refine⟨s,os,M,⟨by rw[hws];exact hS.ws,hS.bh,hS.len,by rw[ACg hc];exact hS.map,hS.ne⟩,⟨hM.map,hM.QV,λx=>?_⟩,.refl hf,λ{Q AEN W a b c d} hW=>?_⟩
  .rw[hM.is x]
   have:(Jp++[w]).contains x=Jp.contains x:=by
    rw[De];simp only[DJ,Bg,CS]at hc⊢;exact⟨λh=>h.elim id λh=>h▸hc,Or.inl⟩
   rw[this]
  .unfold Yp;refine Gu Adf ?_;refine ct ?_;refine Gu (ABt hp hw) ?_;refine Gu (IM rfl) ?_;refine Gu Jb ?_;refine Gu AeH ?_;refine Gu AeY ?_;refine cf ?_;unfold Wr;refine Gu (Ho yq) ?_;exact hW
 |false=>
  have hvl:v<((Bw on.length).map (UW on v Jp)).length:=by simpa using hv
  have hwl:w.toNat<os.length:=by rw[hS.len];omega
  obtain⟨q,hq⟩:∃q,os[w.toNat]?=some q:=⟨_,BZ hwl⟩
  have hqb:q.2=ak on v Jp w.toNat:=by
   have h1:(os.map Bp)[w.toNat]?=some q.2:=by rw[CH,hq];rfl
   rw[hS.map,SQ AA]at h1;exact(DM h1).symm
  have hmw:mp≠wb:=Ip hM.map hS.ws AD;have hmb:mp≠bb:=Ip hM.map hS.bh.LM AD
  have how:∀d,d∈os.filterMap CO->d≠mp/\d≠wb/\d≠bb:=λd hd=>by
   obtain⟨n,hn⟩:=hS.bh.lt hf hd;exact⟨Ip hn hM.map AD,Ip hn hS.ws AD,Ip hn hS.bh.LM AD⟩
  obtain⟨s1,L9⟩:∃s1,s1=s.set mp (.map (Qz (.i w) 1 M)):=⟨_,rfl⟩
  have Nm:Ha s1:=by rw[L9];exact JH hf (by rw[hM.map];simp)
  have hG1:IL s s1:=by rw[L9];exact JO (by rw[hM.map];simp)
  have TN:s1.heap wb=some (.LM 1 (((Bw on.length).map (UW on v Jp)).map λi=>I i)):=by rw[L9,Ar hmw.symm];exact hS.ws
  obtain⟨s2,K9⟩:∃s2,s2=s1.set wb (.LM 1 ((((Bw on.length).map (UW on v Jp)).map λi=>PVI i).set v (I (UW on v Jp v+1)))):=⟨_,rfl⟩
  have OK:Ha s2:=by rw[K9];exact JH Nm (by rw[TN];simp)
  have sP:IL s1 s2:=by rw[K9];exact JO (by rw[TN];simp)
  have fE:s2.next=s.next:=by rw[K9,L9];rfl
  have Jr:∀d,d≠mp->d≠wb->s2.heap d=s.heap d:=λd h1 h2=>by rw[K9,Ar h2,L9,Ar h1]
  have hO2:OnS s2 bb os:=hS.bh.Ir (Jr bb hmb.symm hS.ne.symm) λd hd=>Jr d (how d hd).1 (how d hd).2.1;have hdl:=@js Jp [];have hwv:UW on v Jp v=((Si [] Jp).length:Int):=by unfold UW;rw[Ng AA,Ps rfl]
  have AXs:q.2.length+[(v:Int)].length<=1000000000:=by
   rw[hqb];have:=@AE5 on v Jp w.toNat
   simp only[CZ];omega
  obtain⟨y,s3,s4,nP,a1,a2,a3,a4,a5,a6,a7,a8,a9,uK,a11⟩:=AHE OK hO2 hq (x:=.HC [[I (v:Int)]]) (xs:=[(v:Int)]) rfl AXs;refine⟨s4,nP,Qz (.i w) 1 M,⟨?_,a4,by rw[a5,hS.len],?_,hS.ne⟩,⟨?_,pz hM.QV,λx=>?_⟩,⟨λd hd=>?_,λd h1 h2 h3 h4 h5=>?_,hG1.trans (sP.trans a9),uK⟩,λ{Q AEN W a b c d} hW=>?_⟩
  .show s4.heap wb=_;rw[a8 wb hS.ne (λh=>(how _ h).2.1 rfl) (by rw[fE];exact HT hf hS.ws),K9,Ay,<- E6 (f:=λi=>PVI i),Vt]
   have:(λk=>if k=v then UW on v Jp v+1 else UW on v Jp k)=UW on v (Jp++[w]):=by
    funext k;by_cases ck:k=v
    .subst ck;rw[Ps rfl,hwv];unfold UW;rw[Ng AA,Ps rfl,eZ];simp only[CX,hc,Ch,if_false,Bf,CZ];omega
    .rw[Ng ck];unfold UW;rw[Ng ck,Ng ck]
   rw[this]
  .rw[a6,hS.map,ADu AA];congr 1;funext k;exact(AE4 h0 hc).symm
  .rw[a8 mp hmb (λh=>(how _ h).1 rfl) (by rw[fE];exact HT hf hM.map),K9,Ar hmw,L9,Ay]
  .rw[nG,hM.is x];by_cases cx:x=w
   .subst cx;simp
   .have:(Jp++[w]).contains x=Jp.contains x:=by
     rw[De];simp[cx]
    rw[Ng cx,this]
  .rcases a7 d hd with h|h
   .exact .inl h
   .exact AiM
  .rw[a8 d h2 h4 AA];exact Jr d h3 h1
  .unfold Yp;refine Gu Adf ?_;refine ct ?_;refine Gu (ABt hp hw) ?_;refine Gu (IM rfl) ?_;refine Gu Jb ?_;refine Gu AeH ?_;refine Gu AeG ?_;refine ct ?_;refine Gu (AMx rfl (zZ w) hM.map (zV hM.QV)) ?_;rw[<- L9];refine Gu (LA AA Acb) ?_;refine Gu (Lw TN (ArI.HI (x:=UW on v Jp v) (SQ hv))) ?_;refine Gu (Ho (Tj (by rw[hwv];omega) (by rw[hwv];omega))) ?_;refine Gu (LA AA Acb) ?_;refine Gu (SN TN rfl Acb) ?_;simp only[Ce];rw[<- K9];refine Gu (LA h0 AA) ?_;refine Gu (Lw hO2.LM (v:=IV q) (by simp[hq])) ?_;refine Gu (ZP (G1:=[[I (v:Int)]]) rfl) ?_;refine Gu a1 ?_;refine Gu (LA h0 AA) ?_;refine Gu a3 ?_;unfold Wr;refine Gu (Ho yq) ?_;exact hW
end
section
open Go.Proofs
attribute [local irreducible] Up Yo
def qU{wb bb mp:Nat}{on:LLI}{v:Nat}{p:OLI}{s0:St}(hp:LK s0 p)(hw:∀w,w∈p.2->0<=w/\w<on.length)(hv:v<on.length)(va:on.length<=100000)(au:p.2.length<=900000000){Q:F1}{AEN:PV->PV->PV->PV->PV->F1}{a b c d:PV}:∀(m j:Nat),p.2.length-j=m->j<=p.2.length->
  ∀{s:St} (hf:Ha s) {os:List (OLI)} {M:ML},XX s wb bb on v (p.2.take j) os->AIf s mp M (p.2.take j)->
   (∀s' nP,XX s' wb bb on v p.2 nP->Left s wb bb mp os s' nP->Up (.Im .Lp) Q AEN a (.LQ wb on.length) (.LQ bb on.length) b c d s')->
   Wt (.Im .Lp) Q AEN (m+1) a (.LQ wb on.length) (.LQ bb on.length) (I v) (.map mp) b c d (IV p) (I p.2.length) (I j) s
 |0,j,hm,hj,s,hf,os,M,hS,hM,hW=>by
  rw[CJ AA]at hS;unfold Wt Yp;exact AjS
 |m+1,j,hm,hj,s,hf,os,M,hS,hM,hW=>by
  have WB:j<p.2.length:=AA;have OA:p.2[j]?=some p.2[j]:=BZ WB;obtain⟨h0,hn⟩:=hw _ (Bl WB);have tz:p.2.take j++[p.2[j]]=p.2.take (j+1):=by rw[GM,OA];rfl
  obtain⟨s',nP,M',h1,h2,h3,h4⟩:=AAK hf hS hM hp OA h0 hn hv va AA AB;rw[tz]at h1 h2;unfold Wt;exact h4 (qU hp hw hv va au m (j+1) AA WB h3.Lq h1 h2 λs2 os2 k1 k2=>hW s2 os2 k1 (h3.trans k2))
def XX.next{s:St}{wb bb:Nat}{on:LLI}{v:Nat}{os:List (OLI)}(h:XX s wb bb on v (on.getD v []) os):XX s wb bb on (v+1) [] os:=by
 have hw:UW on v (on.getD v [])=UW on (v+1) []:=by
  funext k;unfold UW;by_cases c1:k<v
  .rw[Ps c1,Ps AA]
  .rw[Ng c1];by_cases c2:k=v
   .subst c2;rw[Ps rfl,Ps AA]
   .rw[Ng c2,Ng AA];split<;>rfl
 have hb:ak on v (on.getD v [])=ak on (v+1) []:=by
  funext k;unfold ak dm;rw[List.range_succ,List.filter_append,Br];simp only[List.contains_nil,Ch,if_false,CL];congr 1;by_cases c:(on.getD v []).contains (k:Int)=true
  .rw[Ps c];rw[EA Abr];rfl
  .rw[Ng c];rw[EB Abr];rfl
 exact⟨by rw[<- hw];exact h.ws,h.bh,h.len,by rw[<- hb];exact h.map,h.ne⟩
def AQD{s:St}(p:OLI){s0:St}(hp:LK s0 p):∃c s' s1,I0 (IJ (IV p)) s (IV (some c,p.2)) s' [] []/\LK s1 (some c,p.2)/\(s'=s\/s'=s.new (.Hm 0 0)):=by
 obtain⟨o,l⟩:=p;cases o with
 |none=>
  have hl:l=[]:=hp;subst hl;exact⟨s.next,s.new (.Hm 0 0),s.new (.Hm 0 1),AG5 rfl,BN,.inr rfl⟩
 |some c=>exact⟨c,s,s0,RW,hp,.inl rfl⟩
def nn{ab wb bb:Nat}{dB:List (OLI)}{s0:St}(h0:∀p,p∈dB->LK s0 p)(hw:∀p,p∈dB->∀w,w∈p.2->0<=w/\w<dB.length)(va:dB.length<=100000)(au:∀p,p∈dB->p.2.length<=900000000)(hab:ab≠wb/\ab≠bb){Q:F1}:∀(m i:Nat),dB.length-i=m->i<=dB.length->
  ∀{s:St} (hf:Ha s) {os:List (OLI)},s.heap ab=some (.LM 1 (dB.map IV))->XX s wb bb (dB.map Bp) i [] os->
   (∀s' nP,XX s' wb bb (dB.map Bp) dB.length [] nP->Left s wb bb wb os s' nP->Yo (.Im .Lp) Q (.LQ ab dB.length) (.LQ wb dB.length) (.LQ bb dB.length) s')->
   Po (.Im .Lp) Q (m+1) (.LQ ab dB.length) (.LQ wb dB.length) (.LQ bb dB.length) (.LQ ab dB.length) (I dB.length) (I i) s
 |0,i,hm,hi,s,hf,os,hA,hS,hW=>by
  have:i=dB.length:=AA;subst this;unfold Po ej;exact AjS
 |m+1,i,hm,hi,s,hf,os,hA,hS,hW=>by
  have SX:i<dB.length:=AA;have jb:(dB.map Bp).length=dB.length:=AD;obtain⟨p,hp⟩:∃p,dB[i]?=some p:=⟨_,BZ SX⟩
  have mg:=Bt hp;have hpi:(dB.map Bp).getD i []=p.2:=by rw[Bq,CH,hp];rfl
  obtain⟨c,s1,sx,a1,a2,a3⟩:=AQD (s:=s) p (h0 p mg)
  have Mv:∀b,b<s.next->s1.heap b=s.heap b:=λb hb=>by
   rcases a3 with rfl|rfl
   .rfl
   .exact Av rfl AA
  have hG1:IL s s1:=by
   rcases a3 with rfl|rfl
   .exact .refl _
   .exact I9
  have Nm:Ha s1:=by
   rcases a3 with rfl|rfl
   .exact hf
   .exact IW hf
  obtain⟨s2,K9⟩:∃s2,s2=s1.new (.map []):=⟨_,rfl⟩
  have OK:Ha s2:=by rw[K9];exact IW Nm
  have sP:IL s s2:=by rw[K9];exact hG1.trans I9
  have Yz:=hG1.next;have Jr:∀b,b<s.next->s2.heap b=s.heap b:=λb hb=>by rw[K9,Av rfl AA];exact Mv b hb
  have how:∀d,d∈os.filterMap CO->d<s.next:=λd hd=>by
   obtain⟨n,hn⟩:=hS.bh.lt hf hd;exact HT hf hn
  have hS2:XX s2 wb bb (dB.map Bp) i [] os:=⟨(Jr wb (HT hf hS.ws)).trans hS.ws,hS.bh.Ir (Jr bb (HT hf hS.bh.LM)) λd hd=>Jr d (how d hd),hS.len,hS.map,hS.ne⟩
  have hM2:AIf s2 s1.next [] []:=⟨by rw[K9];exact BN,rfl,λx=>by simp[Ko]⟩
  have hL2:Left s wb bb s1.next os s2 os:=⟨λd hd=> .inl hd,λd _ _ _ _ h=>Jr d h,sP,OK⟩
  have II:(Ku p.2).length=p.2.length:=MY;unfold Po ej;refine Gu Adf ?_;refine ct ?_;refine Gu (LA AA Ah) ?_;refine Gu (Lw hA (v:=IV p) Abp) ?_;refine Gu Jb ?_;refine Gu a1 ?_;refine Gu (AMt rfl) ?_;rw[<- K9];refine Gu AG4 ?_;refine Gu (Iy (Wk a2)) ?_;rw[II];have:=@qU wb bb s1.next (dB.map Bp) i (some c,p.2) sx a2 (λw hm=>by rw[jb];exact hw p mg w hm) (by rw[jb];exact SX) (by rw[jb];exact va) (au p mg) Q (Po (.Im .Lp) Q (m+1)) (.LQ ab dB.length) (.LQ ab dB.length) (I dB.length) (I i) p.2.length 0 AD AA s2 OK os [] hS2 hM2;rw[jb]at this;refine⟨_,this λs3 os3 k1 k2=>?_⟩;simp only at k1;rw[<- hpi]at k1;have hL3:Left s wb bb s1.next os s3 os3:=hL2.trans k2;have AS6:Left s wb bb wb os s3 os3:=⟨hL3.Hm,λd h1 h2 _ h4 h5=>hL3.Ir d h1 h2 AA h4 h5,hL3.Ki,hL3.Lq⟩
  have hA3:s3.heap ab=some (.LM 1 (dB.map IV)):=by
   rw[AS6.Ir ab hab.1 hab.2 hab.1 (λhd=>by obtain⟨n,hn⟩:=hS.bh.lt hf hd;rw[hA]at hn;cases hn) (HT hf hA)];exact hA
  unfold Up;refine Gu Adc ?_;exact nn h0 hw va au hab m (i+1) AA SX k2.Lq hA3 k1.next λs4 os4 q1 q2=>hW s4 os4 q1 (AS6.trans q2)
end
def VZ:∀{l QY:LI} {x:Int},x∈Si QY l<->x∈l/\x∉QY
 |[],QY,x=>by simp[Si]
 |y::l,QY,x=>by
  unfold Si;by_cases h:y∈QY
  .rw[Ps AE,VZ];simp only[Bz];constructor
   .rintro⟨h1,h2⟩;exact⟨.inr h1,h2⟩
   .rintro⟨rfl|h1,h2⟩
    .exact Zq h h2
    .exact⟨h1,h2⟩
  .rw[Ng AE,Bz,VZ];simp only[Bz,Bg,DY,or_false,not_or];constructor
   .rintro(rfl|⟨h1,h2,h3⟩)
    .exact⟨.inl rfl,h⟩
    .exact⟨.inr h1,h2⟩
   .rintro⟨rfl|h1,h2⟩
    .exact .inl rfl
    .by_cases c:x=y
     .exact .inl c
     .exact .inr ⟨h1,h2,c⟩
def cJ:∀{l QY:LI},(Si QY l).Nodup
 |[],QY=>by simp[Si]
 |y::l,QY=>by
  unfold Si;split
  .exact cJ
  .refine CY.2 ⟨λh=>?_,cJ⟩;exact(VZ.1 h).2 AD
def fi(on:LLI)(out:LI)(k:Nat):Nat:=((Si [] (on.getD k [])).filter λw=> !out.contains w).length
def eY{on:LLI}{out:LI}{k:Nat}:fi on out k=0<->∀w,w∈on.getD k []->w∈out:=by
 unfold fi;rw[Dd,List.filter_eq_nil_iff];constructor
 .intro h w hw;have:=h w (VZ.2 ⟨hw,AD⟩);exact Afx
 .intro h w hw;have:=h w (VZ.1 hw).1;exact Afx
def lk{v:Int}{out:LI}(hv:v∉out):∀{l:LI},l.Nodup->(l.filter λw=> !(out++[v]).contains w).length+(if v∈l then 1 else 0)=(l.filter λw=> !out.contains w).length
 |[],_=>by simp
 |x::l,h=>by
  obtain⟨h1,h2⟩:=CY.1 h;have ih:=lk hv h2;by_cases c:x=v
  .subst c;rw[Ng h1]at ih;rw[Ps AD,EB AD,EA Acb];simp only[CG];omega
  .by_cases d:x∈out
   .rw[EB (by simp[d]),EB (by simp[d])];rw[<- ih];by_cases e:v∈l
    .rw[Ps e,Ps (by simp[e])]
    .rw[Ng e,Ng (by simp[e,ER c])]
   .rw[EA (by simp[d,c]),EA (by simp[d])];simp only[CG];by_cases e:v∈l
    .rw[Ps e]at ih;rw[Ps (by simp[e])];omega
    .rw[Ng e]at ih;rw[Ng (by simp[e,ER c])];omega
def lT{on:LLI}{out:LI}{v:Int}(hv:v∉out)(k:Nat):fi on (out++[v]) k+(if v∈on.getD k []then 1 else 0)=fi on out k:=by have:=lk hv (l:=Si [] (on.getD k [])) cJ;have e:(v∈Si [] (on.getD k []))=(v∈on.getD k []):=propext (VZ.trans ⟨λh=>h.1,λh=>⟨h,AD⟩⟩);simp only[e]at this;exact this
def AN5{on:LLI}{out:LI}{k:Nat}:fi on out k<=(on.getD k []).length:=CD (FA _ _) js
def Rdy(on:LLI)(out:LI)(v:Nat):Prop:=v<on.length/\(v:Int)∉out/\∀w,w∈on.getD v []->w∈out
inductive RB (on:List (List Int)):List Int->Prop
 |nil:RB on []
 |ta (out:List Int) (v:Nat):RB on out->Rdy on out v->(∀u,u<v->¬Rdy on out u)->RB on (out++[(v:Int)])
def RB.lS{on:LLI}{out:LI}(h:RB on out):∀x,x∈out->∃k:Nat,x=k/\k<on.length/\∀w,w∈on.getD k []->w∈out:=by
 induction h with
 |nil=>intro x hx;simp at hx
 |ta out v _ hr _ ih=>
  intro x hx;rcases Bg.1 hx with h|h
  .obtain⟨k,h1,h2,h3⟩:=ih x h;exact⟨k,h1,h2,λw hw=>Bg.2 (.inl (h3 w hw))⟩
  .simp at h;subst h;exact⟨v,rfl,hr.1,λw hw=>Bg.2 (.inl (hr.2.2 w hw))⟩
def RB.nL{on:LLI}{out:LI}(h:RB on out):out.Nodup:=by
 induction h with
 |nil=>simp
 |ta out v _ hr _ ih=>
  refine B3.2 ⟨ih,AD,λa ha b hb=>?_⟩;simp at hb;subst hb;rintro rfl;exact hr.2.1 ha
def QL:∀{n:Nat} {l:LI},l.Nodup->(∀x,x∈l->∃k:Nat,x=k/\k<n)->l.length<=n
 |0,l,_,h=>by
  cases l with
  |nil=>simp
  |cons x l=>obtain⟨k,_,hk⟩:=h x AD;omega
 |n+1,l,hn,h=>by
  have hl:(l.erase (n:Int)).length<=n:=QL (hn.erase _) λx hx=>by
   have hx2:=(List.Nodup.mem_erase_iff hn).1 hx;obtain⟨k,hk,oY⟩:=h x hx2.2;refine⟨k,hk,?_⟩;have:k≠n:=by rintro rfl;exact hx2.1 hk
   omega
  rw[List.length_erase]at hl;split at hl<;>omega
def RB.len{on:LLI}{out:LI}(h:RB on out):out.length<=on.length:=QL h.nL λx hx=>by
 obtain⟨k,h1,h2,_⟩:=h.lS x hx;exact⟨k,h1,h2⟩
structure ACW (on:List (List Int)) (out:List Int) (wt:Nat->Int) (xs:List Int):Prop where
 nd:xs.Nodup
 is:∀x,x∈xs<->∃k:Nat,x=k/\k<on.length/\x∉out/\wt k=0
def ACW.ALx{on:LLI}{out:LI}{wt:Nat->Int}{xs:LI}(h:ACW on out wt xs):xs.length<=on.length:=QL h.nd λx hx=>by
 obtain⟨k,h1,h2,_⟩:=(h.is x).1 hx;exact⟨k,h1,h2⟩
def fm(on:LLI)(out:LI)(v:Nat)(Jp:LI)(k:Nat):Int:=if Jp.contains (k:Int)then(fi on (out++[(v:Int)]) k:Int)else(fi on out k:Int)
def uN{on:LLI}{i w:Nat}{x:Int}:x∈dm on i w<->∃k:Nat,x=k/\k<i/\(w:Int)∈on.getD k []:=by
 unfold dm;simp only[B8,List.mem_filter,D7,DJ];constructor
 .rintro⟨k,⟨h1,h2⟩,rfl⟩;exact⟨k,rfl,h1,h2⟩
 .rintro⟨k,rfl,h1,h2⟩;exact⟨k,⟨h1,h2⟩,rfl⟩
def xu{on:LLI}{i w:Nat}:(dm on i w).Nodup:=by unfold dm;refine List.Pairwise.map _ (λa b h=>?_) (List.nodup_range.filter _);intro hc;exact h AA
def ALp{on:LLI}{out:LI}{v:Nat}(hv:(v:Int)∉out){k:Nat}(hk:k<on.length):fm on out v (dm on on.length v) k=(fi on (out++[(v:Int)]) k:Int):=by
 unfold fm;split
 .rfl
 .rename_i h;have h2:(v:Int)∉on.getD k []:=λhm=>h (by rw[DJ];exact uN.2 ⟨k,rfl,hk,hm⟩);have:=lT (on:=on) hv k;rw[Ng h2]at this;omega
section
open Go.Proofs
def AQB{s:St}{n:Nat}(h:s.next=n):I0 (some (.LM 1 [] λb=> .LQ b 0)) s (.LQ n 0) (s.new (.LM 1 [])) [] []:=by subst h;unfold I0;exact⟨_,rfl,rfl,rfl,rfl⟩
attribute [local irreducible] gy aK
structure KS (s:St) (wb bb lp b:Nat) (cells:List PV) (xs:List Int) (n:Nat) (wt:Nat->Int) (nQ:List (Option Nat×List Int)):Prop where
 ws:ArI s wb ((Bw n).map wt)
 bh:s.heap bb=some (.LM 1 (nQ.map IV))
 hp:im s lp b cells xs
 heap:Hp.Th xs.length (fx xs)
 ne:wb≠bb
 nb:b≠wb/\b≠bb
def ABe{s:St}(hf:Ha s){wb bb lp b n:Nat}{cells:LP}{xs:LI}{wt:Nat->Int}{nQ:List (OLI)}(h:KS s wb bb lp b cells xs n wt nQ)(hn:xs.length<1000000)(x:Int):
  SW .Lp BW 63 [.iface 124 (.G5 lp 0),.iface 3 (I x)] s λr s'=>r=.tuple []/\∃b' MQ Nn,KS s' wb bb lp b' MQ Nn n wt nQ/\Nn.Perm (xs++[x])/\s.next<=b'/\∀d,d≠lp->d≠b->d<s.next->s'.heap d=s.heap d:=by
 refine(ALF hf h.hp hn h.heap x).mono ?_;rintro r s' ⟨rfl,b',MQ,Nn,h1,h2,h3,h4,h5⟩;have hw:=HT hf h.ws;have hb:=HT hf h.bh;refine⟨rfl,b',MQ,Nn,⟨?_,?_,h1,h2,h.ne,AA,AA⟩,h3,h4,h5⟩
 .show s'.heap wb=_;rw[h5 wb (Ip h.ws h.hp.box AD) h.nb.1.symm hw];exact h.ws
 .rw[h5 bb (Ip h.bh h.hp.box AD) h.nb.2.symm hb];exact h.bh
def iK{wb bb lp n:Nat}{wt:Nat->Int}{nQ:List (OLI)}(hn:n<=100000){Q:F1}{a:PV}:∀(m i:Nat),n-i=m->i<=n->
  ∀{s:St} (hf:Ha s) {b:Nat} {cells:LP} {xs:LI},KS s wb bb lp b cells xs n wt nQ->xs.Nodup->(∀x,x∈xs<->∃k:Nat,x=k/\k<i/\wt k=0)->
   (∀s' b' MQ Nn,Ha s'->IL s s'->KS s' wb bb lp b' MQ Nn n wt nQ->Nn.Nodup->(∀x,x∈Nn<->∃k:Nat,x=k/\k<n/\wt k=0)->(∀d,d≠lp->d≠b->d<s.next->s'.heap d=s.heap d)->(b'=b\/s.next<=b')->gy (.Im .Lp) Q a (.LQ wb n) (.LQ bb n) (.G5 lp 0) s')->
   Ws (.Im .Lp) Q (m+1) a (.LQ wb n) (.LQ bb n) (.G5 lp 0) (.LQ wb n) (I n) (I i) s
 |0,i,hm,hi,s,hf,b,cells,xs,hK,L6,hx,hW=>by
  have:i=n:=AA;subst this;unfold Ws mK;refine Gu Ade ?_;refine cf ?_;exact hW s b cells xs hf (.refl _) hK L6 hx (λ_ _ _ _=>rfl) (.inl rfl)
 |m+1,i,hm,hi,s,hf,b,cells,xs,hK,L6,hx,hW=>by
  have SX:i<n:=AA
  have hbx:xs.length<=i:=QL L6 λx hm=>by
   obtain⟨k,h1,h2,_⟩:=(hx x).1 hm;exact⟨k,h1,h2⟩
  unfold Ws mK;refine Gu Adf ?_;refine ct ?_;refine Gu (LA AA Ah) ?_;refine Gu (Lw hK.ws (ArI.HI (x:=wt i) (SQ Ah))) ?_;refine Gu Jb ?_;refine Gu Jb ?_;refine Gu (Ho (v:=.bool (wt i==0)) rfl) ?_;refine Gw (λh=>?_) λh=>?_
  .have h:wt i=0:=by simpa using h
   refine Gu (zl rfl) ?_;refine Gu (zl rfl) ?_;refine UT (ABe hf hK AA i) λv s1 TM Nm hq=>?_;obtain⟨_,b1,AWF,xs1,h1,h2,h3,h4⟩:=hq;unfold aK;refine Gu Adc ?_;refine iK hn m (i+1) AA SX Nm h1 (h2.nodup_iff.2 (B3.2 ⟨L6,AD,λa ha c hc=>?_⟩)) (λx=>?_) λs2 b2 cF xs2 k0 k1 k2 k3 k4 k5 k6=>hW s2 b2 cF xs2 k0 (TM.trans k1) k2 k3 k4 (λd d1 d2 d3=>?_) (.inr (by have:=TM.next;omega))
   .simp at hc;subst hc;rintro rfl;obtain⟨k,e1,e2,_⟩:=(hx _).1 ha;omega
   .rw[h2.mem_iff,Bg,hx x,CS];constructor
    .rintro(⟨k,e1,e2,e3⟩|rfl)
     .exact⟨k,e1,AA,e3⟩
     .exact⟨i,rfl,AA,h⟩
    .rintro⟨k,e1,e2,e3⟩;by_cases c:k=i
     .subst c;exact .inr e1
     .exact .inl ⟨k,e1,AA,e3⟩
   .have:=TM.next;rw[k5 d d1 AA AA,h4 d d1 d2 d3]
  .have h:wt i≠0:=by simpa using h
   unfold aK;refine Gu Adc ?_;refine iK hn m (i+1) AA SX hf hK L6 (λx=>?_) hW;rw[hx x];constructor
   .rintro⟨k,e1,e2,e3⟩;exact⟨k,e1,AA,e3⟩
   .rintro⟨k,e1,e2,e3⟩;refine⟨k,e1,?_,e3⟩;have:k≠i:=by rintro rfl;exact h e3
    omega
def AGP{wb bb n:Nat}{wt:Nat->Int}{nQ:List (OLI)}(hn:n<=100000){Q:F1}{a:PV}{s:St}(hf:Ha s)(hws:ArI s wb ((Bw n).map wt))(hbh:s.heap bb=some (.LM 1 (nQ.map IV)))(MT:wb≠bb)
  (hW:∀s' lp b cells xs,Ha s'->IL s s'->KS s' wb bb lp b cells xs n wt nQ->xs.Nodup->(∀x,x∈xs<->∃k:Nat,x=k/\k<n/\wt k=0)->s.next<=lp->s.next<=b->(∀d,d<s.next->s'.heap d=s.heap d)->gy (.Im .Lp) Q a (.LQ wb n) (.LQ bb n) (.G5 lp 0) s'):
  Yo (.Im .Lp) Q a (.LQ wb n) (.LQ bb n) s:=by
 have hw:=HT hf hws;have hb:=HT hf hbh;obtain⟨s2,K9⟩:∃s2,s2=(s.new (.LM 1 [])).new (.box [.LQ s.next 0]):=⟨_,rfl⟩
 have Jr:∀d,d<s.next->s2.heap d=s.heap d:=λd hd=>by rw[K9,Av (n:=s.next+1) rfl AA,Av rfl AA]
 have OK:Ha s2:=by rw[K9];exact IW (IW hf)
 have sP:IL s s2:=by rw[K9];exact I9.trans I9
 have hK:KS s2 wb bb (s.next+1) s.next [] [] n wt nQ:=by
  refine⟨(Jr wb hw).trans hws,(Jr bb hb).trans hbh,⟨?_,?_,Bd _,λi x h=>by simp at h⟩,λk h0 hk=>by simp at hk,MT,AA,AA⟩
  .rw[K9];exact A3 rfl
  .rw[K9,Av (n:=s.next+1) rfl AA];exact A3 rfl
 unfold Yo;refine Gu (AQB rfl) ?_;refine Gu (tJ rfl rfl) ?_;rw[<- K9];refine Gu iT ?_;refine Gu iU ?_;refine⟨_,iK hn n 0 AA AA OK hK AD (λx=>by simp) λs' b' MQ Nn h0 h1 h2 h3 h4 h5 h6=>hW s' (s.next+1) b' MQ Nn h0 (sP.trans h1) h2 h3 h4 (show s.next<=s.next+1 by omega) (by have:=sP.next;omega) λd hd=>?_⟩;have:=sP.next;have jK:s2.next=s.next+2:=by rw[K9];rfl
 rw[h5 d (show d≠s.next+1 by omega) (show d≠s.next by omega) AA,Jr d hd]
end
section
open Go.Proofs
attribute [local irreducible] gz
def AZB{i:Int}(h:0<=i)(h2:i<=1000000000):al BW .sub 3 (I i) (I 1)=some (I (i-1)):=Ajq
def ACS{on:LLI}{out:LI}{v:Nat}{Jp:LI}{k:Nat}(hv:(v:Int)∉out)(hk:(v:Int)∈on.getD k [])(hp:(k:Int)∉Jp):(λx=>if x=k then fm on out v Jp k-1 else fm on out v Jp x)=fm on out v (Jp++[(k:Int)]):=by
 funext x;by_cases c:x=k
 .subst c;rw[Ps rfl];unfold fm;rw[Ng (by simpa using hp),Ps AD];have:=lT (on:=on) hv x;rw[Ps hk]at this;omega
 .rw[Ng c];unfold fm
  have:(Jp++[(k:Int)]).contains (x:Int)=Jp.contains (x:Int):=by
   rw[De];simp;omega
  rw[this]
def kV{wb bb lp n:Nat}{on:LLI}(hn:on.length=n)(fE:n<=100000){nQ:List (OLI)}{q:OLI}{sx:St}(hq:LK sx q){out:LI}{v:Nat}(hk:RB on out)(hr:Rdy on out v)(hqe:q.2=dm on n v)(RF:∀k,k<n->fi on out k<=900000000)
  {Q:F1}{w48:PV->PV->PV->PV->F1}{a ov:PV}:∀(m j:Nat),q.2.length-j=m->j<=q.2.length->
  ∀{s:St} (hf:Ha s) {b:Nat} {cells:LP} {xs:LI},KS s wb bb lp b cells xs n (fm on out v (q.2.take j)) nQ->ACW on (out++[(v:Int)]) (fm on out v (q.2.take j)) xs->
   (∀s' b' MQ Nn,Ha s'->IL s s'->KS s' wb bb lp b' MQ Nn n (fm on out v q.2) nQ->ACW on (out++[(v:Int)]) (fm on out v q.2) Nn->(∀d,d≠wb->d≠lp->d≠b->d<s.next->s'.heap d=s.heap d)->(b'=b\/s.next<=b')->w48 a (.LQ wb n) (.LQ bb n) (.G5 lp 0) ov s')->
   cP (.Im .Lp) Q w48 (m+1) a (.LQ wb n) (.LQ bb n) (.G5 lp 0) ov (IV q) (I q.2.length) (I j) s
 |0,j,hm,hj,s,hf,b,cells,xs,hK,hX,hW=>by
  rw[CJ AA]at hK hX;unfold cP sB;refine Gu Ade ?_;refine cf ?_;exact hW s b cells xs hf (.refl _) hK hX (λ_ _ _ _ _=>rfl) (.inl rfl)
 |m+1,j,hm,hj,s,hf,b,cells,xs,hK,hX,hW=>by
  have WB:j<q.2.length:=AA;have OA:q.2[j]?=some q.2[j]:=BZ WB;have tz:q.2.take j++[q.2[j]]=q.2.take (j+1):=by rw[GM,OA];rfl
  have hql:q.2.length<=n:=by
   rw[hqe];unfold dm;rw[BX];exact CD (FA _ _) AD
  have Kk:q.2[j]∈dm on n v:=by rw[<- hqe];exact Bl WB
  obtain⟨k,hke,oY,hkv⟩:=uN.1 Kk
  have L6:(q.2.take (j+1)).Nodup:=by
   have:q.2.Nodup:=by rw[hqe];exact xu
   exact this.sublist (List.take_sublist _ _)
  rw[hke]at tz OA
  have hkp:(k:Int)∉q.2.take j:=by
   rw[<- tz]at L6;exactλhm=>(B3.1 L6).2.2 _ hm _ AD rfl
  have hW0:fm on out v (q.2.take j) k=(fi on out k:Int):=by unfold fm;rw[Ng (by simpa using hkp)]
  have hc:=lT (on:=on) hr.2.1 k;rw[Ps hkv]at hc;have hcn:=RF k oY;have hW1:fm on out v (q.2.take j++[(k:Int)]) k=(fi on (out++[(v:Int)]) k:Int):=by unfold fm;rw[Ps AD]
  have hkw:(((Bw n).map (fm on out v (q.2.take j))).map λi=>PVI i)[k]?=some (I (fi on out k:Int)):=ArI.HI (by rw[SQ oY,hW0]);obtain⟨s1,L9⟩:∃s1,s1=s.set wb (.LM 1 ((((Bw n).map (fm on out v (q.2.take j))).map λi=>PVI i).set k (I ((fi on out k:Int)-1)))):=⟨_,rfl⟩
  have hws:s.heap wb=some (.LM 1 (((Bw n).map (fm on out v (q.2.take j))).map λi=>I i)):=hK.ws;have Nm:Ha s1:=by rw[L9];exact JH hf (by rw[hws];simp)
  have hG1:IL s s1:=by rw[L9];exact JO (by rw[hws];simp)
  have Yz:s1.next=s.next:=by rw[L9];rfl
  have Mv:∀d,d≠wb->s1.heap d=s.heap d:=λd hd=>by rw[L9,Ar hd]
  have TN:ArI s1 wb ((Bw n).map (fm on out v (q.2.take j++[(k:Int)]))):=by
   show s1.heap wb=_;rw[L9,Ay,<- E6 (f:=λi=>PVI i),Vt,<- ACS hr.2.1 hkv hkp,hW0]
  have hlw:lp≠wb:=Ip hK.hp.box hws AD;have hK1:KS s1 wb bb lp b cells xs n (fm on out v (q.2.take j++[(k:Int)])) nQ:=⟨TN,(Mv bb hK.ne.symm).trans hK.bh,hK.hp.Ir (Mv lp hlw) (Mv b hK.nb.1),hK.heap,hK.ne,hK.nb⟩
  have ATr:(k:Int)∉out++[(v:Int)]:=λhm=>by
   rcases Bg.1 hm with h|h
   .obtain⟨k',e1,e2,e3⟩:=hk.lS _ h;have:k'=k:=AA;subst this;exact hr.2.1 (e3 _ hkv)
   .have:k=v:=by simp at h;omega
    subst this;exact hr.2.1 (hr.2.2 _ hkv)
  have sZ:∀k',k'≠k->fm on out v (q.2.take j++[(k:Int)]) k'=fm on out v (q.2.take j) k':=λk' Ta=>by
   rw[<- ACS hr.2.1 hkv hkp];simp[Ta]
  unfold cP sB;refine Gu Adf ?_;refine ct ?_;refine Gu (ABt hq OA) ?_;refine Gu (IM rfl) ?_;refine Gu Jb ?_;refine Gu (LA AA Acd) ?_;refine Gu (Lw hws hkw) ?_;refine Gu (Ho (AZB AA AA)) ?_;refine Gu (LA AA Acd) ?_;refine Gu (SN hws rfl Acd) ?_;simp only[Ce];rw[<- L9];refine Gu (LA AA Acd) ?_;refine Gu (Lw TN (ArI.HI (x:=(fi on (out++[(v:Int)]) k:Int)) (by rw[Ce,SQ oY,hW1]))) ?_;refine Gu (Ho (v:=.bool ((fi on (out++[(v:Int)]) k:Int)==0)) rfl) ?_;refine Gw (λh=>?_) λh=>?_
  .have h:(fi on (out++[(v:Int)]) k:Int)=0:=by simpa using h
   refine Gu (zl rfl) ?_;refine Gu (zl rfl) ?_;have hxl:=hX.ALx;refine UT (ABe Nm hK1 AA k) λr s2 T7 OK UQ=>?_;obtain⟨_,b2,cF,xs2,h1,h2,h3,h4⟩:=UQ;unfold gz;refine Gu Adc ?_;rw[tz]at h1;refine kV hn fE hq hk hr hqe RF m (j+1) AA WB OK h1 ⟨h2.nodup_iff.2 (B3.2 ⟨hX.nd,AD,λx hx c Ro=>?_⟩),λx=>?_⟩ λs' b' MQ Nn k0 k1' k2 k3 k4 k5=>hW s' b' MQ Nn k0 (hG1.trans (T7.trans k1')) k2 k3 (λd d1 d2 d3 d4=>?_) (.inr (by have:=T7.next;omega))
   .simp at Ro;subst Ro;rintro rfl;obtain⟨k',e1,e2,e3,e4⟩:=(hX.is _).1 hx;have:k'=k:=AA;subst this;rw[hW0]at e4;omega
   .rw[<- tz,h2.mem_iff,Bg,hX.is x,CS];constructor
    .rintro(⟨k',e1,e2,e3,e4⟩|rfl)
     .exact Ahn
     .exact⟨k,rfl,AA,ATr,by rw[hW1];exact h⟩
    .rintro⟨k',e1,e2,e3,e4⟩;by_cases c:k'=k
     .subst c;exact .inr e1
     .exact .inl ⟨k',e1,e2,e3,by rw[sZ k' c]at e4;exact e4⟩
   .have:=T7.next;have H5:=HT hf hK.hp.LM;rw[k4 d d1 d2 AA AA,h4 d d2 d3 AA,Mv d d1]
  .have h:(fi on (out++[(v:Int)]) k:Int)≠0:=by simpa using h
   unfold gz;refine Gu Adc ?_;rw[tz]at hK1;refine kV hn fE hq hk hr hqe RF m (j+1) AA WB Nm hK1 ⟨hX.nd,λx=>?_⟩ λs' b' MQ Nn k0 k1' k2 k3 k4 k5=>hW s' b' MQ Nn k0 (hG1.trans k1') k2 k3 (λd d1 d2 d3 d4=>?_) (by rw[Yz]at k5;exact k5)
   .rw[<- tz,hX.is x];constructor
    .rintro⟨k',e1,e2,e3,e4⟩;exact Ahn
    .rintro⟨k',e1,e2,e3,e4⟩;refine⟨k',e1,e2,e3,?_⟩;by_cases c:k'=k
     .subst c;rw[hW1]at e4;exact Zq e4 h
     .rw[sZ k' c]at e4;exact e4
   .rw[k4 d d1 d2 d3 AA,Mv d d1]
end
section
open Go.Proofs
attribute [local irreducible] mJ
structure kQ (on:List (List Int)) (r:PV) (out:List Int):Prop where
 res:∃c,r=.tuple [.H6 c (Ku out),.bool ((out.length:Int)==(on.length:Int))]
 AYQ:RB on out
 stuck:∀u,¬Rdy on out u
def AMo{s:St}(hf:Ha s){b n:Nat}:SW .Lp BW 64 [.LQ b n] s λr s'=>r=I n/\s'=s:=by refine(AFm (.Im .Lp) _ ?_).sw hf;unfold g64;refine Gu iU ?_;refine Gu Jb ?_;exact Ls (Q:=λr s'=>r=I n/\s'=s) rfl ⟨rfl,rfl⟩
def AFh{xs:LI}(h:0<xs.length):fx xs 0∈xs:=Bt (Qv h)
def ADa{N wb bb lp n:Nat}{on:LLI}(hn:on.length=n)(fE:n<=100000){nQ:List (OLI)}(hob:∀v q,nQ[v]?=some q->(∃sx,LK sx q)/\q.2=dm on n v)(jb:nQ.length=n)(RF:∀k,k<n->(on.getD k []).length<=900000000){a0:PV}(ha:∀s,I0 (Hg a0) s (I n) s [] [])(vN:N<=wb)(hNl:N<=lp){Q:F1}
  {h0:HO}(hQ:∀s' r out,Ha s'->kQ on r out->(∀d,d<N->s'.heap d=h0 d)->Q r s'):∀(m:Nat) {out:LI},n-out.length=m->
  ∀{s:St} (hf:Ha s) {b c e:Nat} {cells:LP} {xs:LI},KS s wb bb lp b cells xs n (λk=>(fi on out k:Int)) nQ->ACW on out (λk=>(fi on out k:Int)) xs->RB on out->s.heap c=some (.Hm out.length e)->(out.length=0\/e=1)->
   N<=b->N<=c->(∀d,d<N->s.heap d=h0 d)->Wu (.Im .Lp) Q (m+1) a0 (.LQ wb n) (.LQ bb n) (.G5 lp 0) (.H6 c (Ku out)) s:=by
 intro m
 induction m with
 |zero=>
  intro out hm s hf b c e cells xs hK hX hk hc he hNb hNc hh
  have Uv:xs.length=0:=by
   refine Nat.eq_zero_of_not_pos λh0=>?_;obtain⟨k,e1,e2,e3,e4⟩:=(hX.is _).1 (AFh h0);have hkk:fi on out k=0:=by simpa using e4
   have Jg:(out++[(k:Int)]).length<=on.length:=QL (B3.2 ⟨hk.nL,AD,λx hx y hy=>by
    simp at hy;subst hy;rintro rfl;rw[e1]at e3;exact e3 hx⟩) λx hx=>by
     rcases Bg.1 hx with h|h
     .exact AkF
     .simp at h;exact⟨k,h,e2⟩
   simp at Jg;omega
  unfold Wu sA;refine Gu Kg ?_;refine Gu (G2 hK.hp.box rfl) ?_;refine UT (AMo hf) λv s1 _ _ hq=>?_;obtain⟨rfl,L9⟩:=hq;rw[L9,Uv];refine Gu Aep ?_;refine cf ?_;unfold mJ;refine Gu Ae4 ?_;refine Gu (ha s) ?_;rw[MY];refine Gu AeV ?_;refine Gu RW ?_;refine Gu OM ?_;refine Ls rfl (hQ s _ out hf ⟨⟨c,by rw[hn];rfl⟩,hk,λu hu=>?_⟩ hh);have:(u:Int)∈xs:=(hX.is _).2 ⟨u,rfl,hu.1,hu.2.1,by have:=eY.2 hu.2.2;omega⟩;rw[Dd.1 Uv]at this;simp at this
 |succ m ih=>
  intro out hm s hf b c e cells xs hK hX hk hc he hNb hNc hh;unfold Wu sA;refine Gu Kg ?_;refine Gu (G2 hK.hp.box rfl) ?_;refine UT (AMo hf) λv s1 _ _ hq=>?_;obtain⟨rfl,L9⟩:=hq;rw[L9];by_cases h0:xs.length=0
  .rw[h0];refine Gu Aep ?_;refine cf ?_;unfold mJ;refine Gu Ae4 ?_;refine Gu (ha s) ?_;rw[MY];refine Gu AeV ?_;refine Gu RW ?_;refine Gu OM ?_;refine Ls rfl (hQ s _ out hf ⟨⟨c,by rw[hn];rfl⟩,hk,λu hu=>?_⟩ hh);have:(u:Int)∈xs:=(hX.is _).2 ⟨u,rfl,hu.1,hu.2.1,by have:=eY.2 hu.2.2;omega⟩;rw[Dd.1 h0]at this;simp at this
  .have hxl:=hX.ALx;obtain⟨v,e1,e2,e3,e4⟩:=(hX.is _).1 (AFh (Nat.pos_of_ne_zero h0));have e4:fi on out v=0:=by simpa using e4
   have hr:Rdy on out v:=⟨e2,by rw[<- e1];exact e3,eY.1 e4⟩
   have Jr:RB on (out++[(v:Int)]):=.ta out v hk hr λu hu hru=>by
    have hum:(u:Int)∈xs:=(hX.is _).2 ⟨u,rfl,hru.1,hru.2.1,by have:=eY.2 hru.2.2;omega⟩;obtain⟨i,hi⟩:=Dm.1 hum;have SX:=(Bn.1 hi).1;have:=hK.heap.AYn i SX;rw[Qv SX]at hi;unfold Hp.lt at this;rw[DM hi,e1]at this;omega
   have AMS:=Jr.len;simp only[Bf,CZ]at AMS;apply Gu
   .exact Ho (v:=.bool true) (by
     show some (BG (decide ((xs.length:Int)>0)))=_;rw[decide_eq_true AA])
   refine ct ?_;refine Gu (zl rfl) ?_;refine UT (AQW (n:=xs.length-1) hf hK.hp AA AA hK.heap) λr s2 T7 OK hq=>?_;obtain⟨rfl,cF,xs2,p1,p2,p3,p4,p5⟩:=hq;rw[e1]at p3;have AFy:c≠lp:=Ip hc hK.hp.box AD;have hcb:c≠b:=Ip hc hK.hp.LM AD;have Ro:s2.heap c=some (.Hm out.length e):=(p5 c AFy hcb).trans hc;have APi:s2.heap wb=some (.LM 1 (((Bw n).map λk=>(fi on out k:Int)).map λi=>I i)):=(p5 wb (Ip hK.ws hK.hp.box AD) hK.nb.1.symm).trans hK.ws;have AJ8:s2.heap bb=some (.LM 1 (nQ.map IV)):=(p5 bb (Ip hK.bh hK.hp.box AD) hK.nb.2.symm).trans hK.bh;have hvl:v<nQ.length:=AA;obtain⟨q,hqv⟩:∃q,nQ[v]?=some q:=⟨_,BZ hvl⟩
   obtain⟨⟨sx,hqo⟩,hqe⟩:=hob v q hqv;obtain⟨s3,UA⟩:∃s3,s3=s2.set c (.Hm ((Ku out).length+[[PVI (v:Int)]].length) 1):=⟨_,rfl⟩
   have aO:Ha s3:=by rw[UA];exact JH OK (by rw[Ro];simp)
   have bP:∀d,d≠c->s3.heap d=s2.heap d:=λd hd=>by rw[UA,Ar hd]
   have hn3:s3.next=s2.next:=by rw[UA];rfl
   have hc3:s3.heap c=some (.Hm (out++[(v:Int)]).length 1):=by rw[UA,Ay];simp[Ku]
   have hwM:(λk=>(fi on out k:Int))=fm on out v []:=by funext k;unfold fm;rw[Ng AD]
   have hK3:KS s3 wb bb lp b cF xs2 n (fm on out v (q.2.take 0)) nQ:=by
    refine⟨?_,(bP bb (Ip AJ8 Ro AD)).trans AJ8,p1.Ir (bP lp AFy.symm) (bP b hcb.symm),p2,hK.ne,hK.nb⟩;show s3.heap wb=_;rw[bP wb (Ip APi Ro AD),List.take_zero,<- hwM];exact APi
   have ADE:(xs2++[(v:Int)]).Nodup:=p3.nodup_iff.2 hX.nd
   have hX3:ACW on (out++[(v:Int)]) (fm on out v (q.2.take 0)) xs2:=by
    refine⟨(B3.1 ADE).1,λx=>?_⟩;rw[List.take_zero,<- hwM];have hm:x∈xs<->x∈xs2\/x=(v:Int):=by rw[<- p3.mem_iff];simp
    constructor
    .intro hx;obtain⟨k,f1,f2,f3,f4⟩:=(hX.is x).1 (hm.2 (.inl hx));refine⟨k,f1,f2,λKk=>?_,f4⟩;rcases Bg.1 Kk with h|h
     .exact f3 h
     .exact(B3.1 ADE).2.2 _ hx _ h rfl
    .rintro⟨k,f1,f2,f3,f4⟩;have f3:x∉out/\x≠(v:Int):=by simpa using f3
     exact(hm.1 ((hX.is x).2 ⟨k,f1,f2,f3.1,f4⟩)).resolve_right f3.2
   rw[e1];refine Gu AQC ?_;refine Gu Jb ?_;refine Gu (ZP (G1:=[[I (v:Int)]]) rfl) ?_;have hlr:(Ku out).length=out.length:=MY;refine Gu (KG (G1:=Ku out) (xs:=[[I (v:Int)]]) rfl rfl (Jd (by simp only[hlr,CZ];omega) AA) Vx (by rw[hlr];exact Ro) (by rw[hlr];exact he.imp id λh=>h.symm)) ?_;rw[<- UA];refine Gu RW ?_;refine Gu (LA AA AA) ?_;refine Gu (Lw ((bP bb (Ip AJ8 Ro AD)).trans AJ8) (v:=IV q) (by simp[hqv])) ?_;refine Gu (Iy (Wk hqo)) ?_;rw[MY];have hra:Ku out++[[PVI (v:Int)]]=Ku (out++[(v:Int)]):=by simp[Ku]
   rw[hra];refine⟨_,kV (sx:=sx) hn fE hqo hk hr hqe (λk oY=>CD AN5 (RF k oY)) q.2.length 0 AD AA aO hK3 hX3 λs4 b4 AN3 xs4 k0 k1 k2 k3 k4 k5=>?_⟩;have hwE:∀k,k<n->fm on out v q.2 k=(fi on (out++[(v:Int)]) k:Int):=λk oY=>by rw[hqe,<- hn];exact ALp hr.2.1 AA
   refine ih (out:=out++[(v:Int)]) AB k0 (b:=b4) (c:=c) (e:=1) (cells:=AN3) (xs:=xs4) ⟨?_,k2.bh,k2.hp,k2.heap,k2.ne,k2.nb⟩ ⟨k3.nd,λx=>?_⟩ Jr ?_ (.inr rfl) (by have:=HT hf hK.hp.LM;rcases k5 with h|h<;>omega) hNc λd hd=>?_
   .have:((Bw n).map λk=>(fi on (out++[(v:Int)]) k:Int))=(Bw n).map (fm on out v q.2):=Ej λk hkm=>(hwE k (by simpa using hkm)).symm;rw[this];exact k2.ws
   .rw[k3.is x];constructor
    .rintro⟨k,f1,f2,f3,f4⟩;exact⟨k,f1,f2,f3,by rw[<- hwE k AA];exact f4⟩
    .rintro⟨k,f1,f2,f3,f4⟩;exact⟨k,f1,f2,f3,by rw[hwE k AA];exact f4⟩
   .rw[k4 c (Ip Ro APi AD) AFy hcb (HT aO hc3)];exact hc3
   .have:=HT hf hK.hp.LM;rw[k4 d AA AA AA AA,bP d AA,p5 d AA AA];exact hh d hd
end
section
open Go.Proofs
attribute [local irreducible] Yo
def ARY(s:St)(a0:PV)(os:List (OLI)):Prop:=(a0=.nil/\os=[])\/∃ab,a0=.LQ ab os.length/\s.heap ab=some (.LM 1 (os.map IV))
def xA{n:Nat}{on:LLI}(hn:on.length=n)(fE:n<=100000)(RF:∀k,k<n->(on.getD k []).length<=900000000){a0:PV}(ha:∀s,I0 (Hg a0) s (I n) s [] []){N:Nat}{wb bb:Nat}{os:List (OLI)}{s:St}(hf:Ha s)(hS:XX s wb bb on n [] os)(vN:N<=wb)(hNs:N<=s.next){Q:F1}{h0:HO}(hh:∀d,d<N->s.heap d=h0 d)
  (hQ:∀s' r out,Ha s'->kQ on r out->(∀d,d<N->s'.heap d=h0 d)->Q r s'):Yo (.Im .Lp) Q a0 (.LQ wb n) (.LQ bb n) s:=by
 have hwE:((Bw on.length).map (UW on n []))=(Bw n).map λk=>(fi on [] k:Int):=by
  rw[hn];apply Ej;intro k hk;have hk:k<n:=by simpa using hk
  unfold UW fi;rw[Ps hk];congr 2;symm;rw[List.filter_eq_self];intro a _;rfl
 have hob:∀v q,os[v]?=some q->(∃sx,LK sx q)/\q.2=dm on n v:=λv q hv=>by
  refine⟨⟨s,hS.bh.Hm q (Bt hv)⟩,?_⟩;have h1:(os.map Bp)[v]?=some q.2:=by rw[CH,hv];rfl
  have hvl:=(Bn.1 hv).1;have:=hS.len;rw[hS.map,SQ AA]at h1;rw[<- DM h1];simp[ak]
 refine AGP fE (wt:=λk=>(fi on [] k:Int)) hf (by rw[<- hwE];exact hS.ws) hS.bh.LM hS.ne λs1 lp b cells xs k0 k1 k2 k3 k4 k5 k6 k7=>?_;have Yz:=k1.next;obtain⟨s2,K9⟩:∃s2,s2=s1.new (.Hm 0 0):=⟨_,rfl⟩
 have Jr:∀b,b<s1.next->s2.heap b=s1.heap b:=λb hb=>by rw[K9,Av rfl AA]
 unfold gy;refine Gu (Xd rfl) ?_;rw[<- K9];refine⟨_,ADa hn fE hob (by rw[hS.len,hn]) RF ha vN AA hQ _ (out:=[]) rfl (by rw[K9];exact IW k0) (b:=b) (c:=s1.next) (e:=0) (cells:=cells) (xs:=xs) ⟨?_,(Jr bb (HT k0 k2.bh)).trans k2.bh,k2.hp.Ir (Jr lp (HT k0 k2.hp.box)) (Jr b (HT k0 k2.hp.LM)),k2.heap,k2.ne,k2.nb⟩ ⟨k3,λx=>?_⟩ .nil ?_ (.inl rfl) AA AA λd hd=>?_⟩
 .show s2.heap wb=_;rw[Jr wb (HT k0 k2.ws)];exact k2.ws
 .rw[k4 x];constructor
  .rintro⟨k,e1,e2,e3⟩;exact⟨k,e1,AA,AD,e3⟩
  .rintro⟨k,e1,e2,_,e3⟩;exact⟨k,e1,AA,e3⟩
 .rw[K9];exact BN
 .rw[Jr d AA,k7 d AA];exact hh d hd
def ALU{s:St}(hf:Ha s){a0:PV}{os:List (OLI)}(hA:ARY s a0 os)(ho:∀p,p∈os->LK s p)(hw:∀p,p∈os->∀w,w∈p.2->0<=w/\w<os.length)(hn:os.length<=100000)(hl:∀p,p∈os->p.2.length<=900000000):
  SW .Lp BW 39 [a0] s λr s'=>∃out,kQ (os.map Bp) r out/\∀d,d<s.next->s'.heap d=s.heap d:=by
 refine(AOU (.Im .Lp) _ ?_).sw hf;have jb:(os.map Bp).length=os.length:=AD
 have ha:∀s,I0 (Hg a0) s (I os.length) s [] []:=λs=>by
  rcases hA with⟨rfl,rfl⟩|⟨ab,rfl,_⟩
  .exact AG9
  .exact iU
 have RF:∀k,k<os.length->((os.map Bp).getD k []).length<=900000000:=λk hk=>by
  rw[Bq,CH,BZ hk];exact hl _ (Bl hk)
 obtain⟨s3,UA⟩:∃s3,s3=((s.new (.Hm 0 0)).new (.LM 1 (C2 os.length [PVI 0]).flatten)).new (.LM 1 (C2 os.length [PV.nil]).flatten):=⟨_,rfl⟩
 have aO:Ha s3:=by rw[UA];exact IW (IW (IW hf))
 have hn3:s3.next=s.next+3:=by rw[UA];rfl
 have bP:∀d,d<s.next->s3.heap d=s.heap d:=λd hd=>by
  rw[UA,Av (n:=s.next+2) rfl AA,Av (n:=s.next+1) rfl AA,Av rfl AA]
 have hS3:XX s3 (s.next+1) (s.next+2) (os.map Bp) 0 [] (C2 os.length (none,[])):=by
  refine⟨?_,⟨?_,λp hp=>?_,?_⟩,AD,?_,AA⟩
  .show s3.heap _=_;rw[UA,Av (n:=s.next+2) rfl AA,A3 (n:=s.next+1) rfl,jb];congr 2;rw[Ds];apply Dc;intro i;by_cases hi:i<os.length
   .simp[hi,UW,Si]
   .rw[CA AB,CA AB]
  .rw[UA,A3 (n:=s.next+2) rfl,Ds,GX];rfl
  .rw[El hp];rfl
  .have:(C2 os.length ((none:ON),([]:LI))).filterMap CO=[]:=by
    rw[Fi];intro a ha;rw[El ha]
   rw[this];simp
  .rw[jb,GX];apply Dc;intro i;by_cases hi:i<os.length
   .simp[hi,ak,dm]
   .rw[CA AB,CA AB]
 have jK:(0:Int)<=os.length:=AA;unfold g39;refine Gu (Xd rfl) ?_;refine Gu (ha _) ?_;refine Gu (zm jK (Jd AB AA) rfl) ?_;refine Gu tI ?_;refine Gu (ha _) ?_;refine Gu (zm jK (Jd AB AA) rfl) ?_;refine Gu tI ?_;refine Gu (ha _) ?_;simp only[Ce];rw[<- UA];have oW:∀s' r out,Ha s'->kQ (os.map Bp) r out->(∀d,d<s.next->s'.heap d=s.heap d)->∃out,kQ (os.map Bp) r out/\∀d,d<s.next->s'.heap d=s.heap d:=λs' r out _ h1 h2=>⟨out,h1,h2⟩
 rcases hA with⟨rfl,rfl⟩|⟨ab,rfl,hab⟩
 .refine⟨1,?_⟩;unfold Po ej;refine Gu (Ho (QW AD)) ?_;refine cf ?_;exact xA (N:=s.next) jb hn RF ha aO hS3 (show s.next<=s.next+1 by omega) AA bP oW
 .have AWn:=HT hf hab;refine⟨_,nn (s0:=s) ho hw hn (λp hp=>CD (hl p hp) AA) ⟨show ab≠s.next+1 by omega,show ab≠s.next+2 by omega⟩ os.length 0 AA AA aO ((bP ab AWn).trans hab) hS3 λs4 os4 k1 k2=>?_⟩;refine xA (N:=s.next) jb hn RF ha k2.Lq k1 (show s.next<=s.next+1 by omega) (by have:=k2.Ki.next;omega) (λd hd=>?_) oW;rw[k2.Ir d (show d≠s.next+1 by omega) (show d≠s.next+2 by omega) (show d≠s.next+1 by omega) (λhm=>?_) AA,bP d hd]
  have:(C2 os.length ((none:ON),([]:LI))).filterMap CO=[]:=by
   rw[Fi];intro a ha;rw[El ha]
  rw[this]at hm;simp at hm
end
section
open Go.Proofs
def G8.Hm(n:G8):List HM:=n.Ic++n.Gx
def G8.map(n:G8):ML:=Q6 [] 0 n.Hm
def G8.qE(n:G8):LLI:=zO [(0,0,n.map)] [] (Sh [(0,0,n.map)] n.map (n.Hm.map λ_=>[]) n.Gx) n.HE
def Made.qE{s s':St}{n:G8}{r:PV}{g:Gr}{sp mp:Nat}(h:Made s n r s' g sp mp):g.os.map Bp=n.qE:=h.on
def OO(n:G8)(l:List BA)(ok:Bool):Prop:=
 ((∃x,x∈n.HE/\x.G0≠[])/\l=[]/\ok=false)\/
 ((∀x,x∈n.HE->x.G0=[])/\∃out,RB n.qE out/\(∀u,¬Rdy n.qE out u)/\ok=((out.length:Int)==(n.qE.length:Int))/\l=if ok=true then out.map λi=>(n.Hm.map Ap).getD i.toNat default else[])
attribute [local irreducible] rq
def jP{all:List HM}{out:LI}(ho:∀x,x∈out->∃k:Nat,x=k/\k<all.length)(hl:out.length<=100000){Q:F1}{ca cl:Nat}
  (hQ:∀s c,Q (.tuple [.H6 c ((out.map λi=>(all.map Ap).getD i.toNat default).map Gv),.bool true]) s):∀(m j:Nat),out.length-j=m->j<=out.length->∀{s:St} {c e:Nat} {Jp:List BA},Jp=(out.take j).map (λi=>(all.map Ap).getD i.toNat default)->s.heap c=some (.Hm Jp.length e)->(Jp.length=0\/e=1)->
   gw (.Im .Lp) Q (m+1) (.H6 ca (all.map Ao)) (.H6 c (Jp.map Gv)) (.H6 cl (Ku out)) (I out.length) (I j) s
 |0,j,hm,hj,s,c,e,Jp,hp,hc,he=>by
  rw[CJ AA]at hp;unfold gw rr;refine Gu Ade ?_;refine cf ?_;unfold rq;refine Gu RW ?_;refine Ls rfl ?_;rw[hp];exact hQ _ _
 |m+1,j,hm,hj,s,c,e,Jp,hp,hc,he=>by
  have WB:j<out.length:=AA;have hoj:out[j]?=some out[j]:=BZ WB;obtain⟨k,hk,fk⟩:=ho _ (Bl WB);rw[hk]at hoj;obtain⟨v,hv⟩:∃v,all[k]?=some v:=⟨_,BZ fk⟩
  have tz:(out.take (j+1)).map (λi=>(all.map Ap).getD i.toNat default)=Jp++[v.name]:=by
   rw[GM,hoj,hp,Br];congr 1;simp[Bq,hv]
  have au:Jp.length=j:=by rw[hp];simp;omega
  have mg:(Jp.map Gv).length=Jp.length:=AD;unfold gw rr;refine Gu Adf ?_;refine ct ?_;refine Gu (Ju AA (Gy:=[I (k:Int)]) (by simp[Ku,hoj]) rfl) ?_;refine Gu (IM rfl) ?_;refine Gu Jb ?_;refine Gu (Ju AA (Gy:=v.Gy) Ak rfl) ?_;refine Gu ZQ ?_;refine Gu AeZ ?_;refine Gu Aec ?_;refine Gu (KG (xs:=[[PV.HK v.name]]) rfl rfl (Jd (by simp only[mg,CZ];omega) AA) (by simp[Gv]) (by rw[mg];exact hc) (by rw[mg];exact he.imp id λh=>h.symm)) ?_;refine Gu RW ?_;refine Gu Adc ?_;have hr:Jp.map Gv++[[PV.HK v.name]]=(Jp++[v.name]).map Gv:=by simp[Gv]
  rw[hr];refine jP ho hl hQ m (j+1) AA WB (e:=1) tz.symm ?_ (.inr rfl);rw[Ay];simp
end
section
open Go.Proofs
mutual
theorem nW:∀e:Hh,(O9 e).length<=e.wt
 | .mk form sub name tk tl n m G9 a=>by
  have h1:=AB4 G9;have h2:=AQZ G9;simp only[O9,Hh.wt];split
  .simp
  .rename_i h6;simp only[Bf];split
   .rename_i h;rw[Ng AA];simp only[CZ];split<;>omega
   .simp only[List.length_nil];split<;>omega
theorem AB4:∀l:List Hh,(UG l).length<=Hh.Il l
 |[]=>by simp[UG]
 |k::r=>by
  have h1:=nW k;have h2:=AB4 r;simp only[UG,Hh.Il,Bf];omega
theorem AQZ:∀l:List Hh,(rdH l).length<=Hh.Il l
 |[]=>by simp[rdH]
 |k::r=>by
  have h1:=nW k;simp only[rdH,Hh.Il];omega
end
theorem my:∀{l:List Item} {W:Nat},As l<=W->oe [] l<=As l*W
 |[],W,h=>by simp[oe]
 | .mk G6 e G0 a::r,W,h=>by
  have h1:=nW e;simp only[As,BE]at h;have h2:=my (l:=r) (W:=W) AA;simp only[oe,As,BE,Item.G6,Item.e,List.length_nil,DF];have h3:G6.length*(O9 e).length<=G6.length*W:=Nat.mul_le_mul_left _ AA;simp only[CW];omega
def xS(on:LLI)(m:Nat):Prop:=∀l,l∈on->∀w,w∈l->0<=w/\w<m
theorem fy{on:LLI}{m v:Nat}{xs:LI}(h:xS on m)(hx:∀w,w∈xs->0<=w/\w<m):xS (NT on v xs) m:=λl hl w hw=>by
 rcases Ee hl with h1|rfl
 .exact h l h1 w hw
 .rcases Bg.1 hw with h2|h2
  .by_cases hv:v<on.length
   .rw[Bq,BZ hv]at h2;exact h _ (Bl hv) w h2
   .rw[Bq,CA AA]at h2;simp at h2
  .exact hx w h2
theorem ABU{m:Nat}{i:Int}(h:i<m):∀w,w∈pX i->0<=w/\w<m:=λw hw=>by
 unfold pX at hw;split at hw
 .simp at hw;subst hw;omega
 .simp at hw
section
variable{ch:List Sc} {m:Nat} (hc:∀n,Rq n ch<m)
include hc
theorem jE{k:Nat}:∀{l:List BA} {on:LLI},xS on m->xS (Wv ch k on l) m
 |[],_,h=>h
 |x::l,on,h=>jE (l:=l) (on:=NT on k (pX (Rq x ch))) (fy h (ABU (hc x)))
theorem pH{k:Nat}:∀{l:List Edge} {on:LLI},xS on m->xS (iy ch k on l) m
 |[],_,h=>h
 |x::l,on,h=>pH (l:=l) (on:=NT on k (pX (Rq x.name ch))) (fy h (ABU (hc x.name)))
theorem lR{M:ML}:∀{l:List HM} {on:LLI},xS on m->xS (Sh ch M on l) m
 |[],_,h=>h
 |v::l,on,h=>lR (l:=l) (on:=iy ch (vq M v.name) on v.HH) (pH hc h)
theorem AGt{e:Hh}{on:LLI}{n:BA}(h:xS on m):xS (XL ch [] e on n) m:=by
 unfold XL;split
 .exact h
 .exact fy (jE hc h) AD
theorem ly{e:Hh}:∀{l:List BA} {on:LLI},xS on m->xS (l.foldl (XL ch [] e) on) m
 |[],_,h=>h
 |n::l,on,h=>ly (l:=l) (on:=XL ch [] e on n) (AGt hc h)
theorem wB:∀{l:List Item} {on:LLI},xS on m->xS (zO ch [] on l) m
 |[],_,h=>h
 |x::l,on,h=>wB (l:=l) (on:=x.G6.foldl (XL ch [] x.e) on) (ly hc h)
end
theorem px{ch:List Sc}{JC:LI}:∀{l:List Item} {on:LLI} {T:Nat},Lg on T->Lg (zO ch JC on l) (T+oe JC l)
 |[],_,_,h=>h
 |x::l,on,T,h=>by
  have:=px (ch:=ch) (JC:=JC) (l:=l) (Yn (ch:=ch) (JC:=JC) (e:=x.e) (l:=x.G6) h);exact this.mono (by simp only[oe];omega)
theorem TX{on:LLI}{v:Nat}{xs:LI}:(NT on v xs).length=on.length:=by simp[NT]
theorem ABR{S:List BA}{w:BA}(h:w∈S):Mf S w=true:=SF.2 ⟨w,h,rfl⟩
theorem dg.QF{A B:List BA}(h:dg (A++B)){a b:BA}(ha:a∈A)(hb:b∈B):b≠a:=by
 rintro rfl;obtain⟨j,hj,hjb⟩:=FW.1 hb;have:=h (A.length+j) AB;have he:(A++B)[A.length+j]' AB=b:=by rw[List.getElem_append_right AA];simp[hjb]
 rw[he,List.take_append,CJ AA,ABR (Bg.2 (.inl ha))]at this;cases this
theorem G8.hd{n:G8}(h:dg n.vars):∀v,v∈n.Je->∀u,u∈n.Ic++n.Gx->u.name≠v.name:=λv hv u hu=>by
 have hv':n.vars=n.Je.map Ap++(n.Ic++n.Gx).map Ap:=by simp[G8.vars,BM]
 rw[hv']at h;exact h.QF (B8.2 ⟨v,hv,rfl⟩) (B8.2 ⟨u,hu,rfl⟩)
theorem G8.ABy{n:G8}:n.Hm.length=n.Ic.length+n.Gx.length:=by simp[G8.Hm]
theorem G8.AMp{n:G8}(x:BA):Rq x [(0,0,n.map)]<n.Hm.length:=by
 rcases AGd (sp:=0) (mp:=0) (l:=n.Hm) x (.inr trivial)with h|h
 .exact h
 .have:Rq x [(0,0,n.map)]= -1:=h;omega
theorem G8.ABv{n:G8}:xS n.qE n.Hm.length:=by refine wB (m:=n.Hm.length) G8.AMp (lR G8.AMp λl hl=>?_);obtain⟨_,_,rfl⟩:=B8.1 hl;intro w hw;simp at hw
theorem G8.AHC{n:G8}(hn:n.WF)(Pe:n.wt<=20000):Lg n.qE 900000000:=by have h1:oe [] n.HE<=As n.HE*20000:=my AT;have h2:As n.HE*20000<=20000*20000:=Cf _ AT;refine(px (Yi (T:=0) (λv hv=>(hn.Gx.all v hv).HH) λl hl=>?_)).mono AT;obtain⟨_,_,rfl⟩:=B8.1 hl;simp
end
section
open Go.Proofs
def aB{α β:Type}{f:LLI->α->LLI}(hf:∀on a,(f on a).length=on.length):∀{l:List α} {on:LLI},(l.foldl f on).length=on.length
 |[],_=>rfl
 |a::l,on=>by rw[List.foldl_cons,aB (β:=β) hf,hf]
def AGs{ch:List Sc}{JC:LI}{e:Hh}{on:LLI}{n:BA}:(XL ch JC e on n).length=on.length:=by
 unfold XL;split
 .rfl
 .rw[TX];exact aB (β:=Unit) λ_ _=>TX
def G8.kG{n:G8}:n.qE.length=n.Hm.length:=by have h1:n.qE.length=(Sh [(0,0,n.map)] n.map (n.Hm.map λ_=>[]) n.Gx).length:=aB (β:=Unit) λon a=>aB (β:=Unit) λon a=>AGs;have h2:(Sh [(0,0,n.map)] n.map (n.Hm.map λ_=>[]) n.Gx).length=(n.Hm.map λ_=>([]:LI)).length:=aB (β:=Unit) λon a=>aB (β:=Unit) λon a=>TX;rw[h1,h2,BX]
def GS.AYm{s:St}{g:Gr}(h:GS s g):ARY s (oM g.bo g.os.length) g.os:=by
 have:=h.on;unfold Ti at this;cases hb:g.bo with
 |none=>rw[hb]at this;exact .inl ⟨rfl,this⟩
 |some b=>rw[hb]at this;exact .inr ⟨b,rfl,this⟩
attribute [local irreducible] pS
def qG{n:G8}(hn:n.WF){Q:F1}{bn:Nat}(hQ0:(∃x,x∈n.HE/\x.G0≠[])->∀s c,Q (.tuple [.H6 c [],.bool false]) s)(hQ1:(∀x,x∈n.HE->x.G0=[])->∀s,Ha s->s.heap bn=some (.box n.Gy)->pS (.Im .Lp) Q (.G5 bn 0) s):∀(m i:Nat),n.HE.length-i=m->i<=n.HE.length->
  ∀{s:St} (hf:Ha s),s.heap bn=some (.box n.Gy)->(∀(q:Nat) (h:q<n.HE.length),q<i->n.HE[q].G0=[])->
   aF (.Im .Lp) Q (m+1) (.G5 bn 0) (.HC (n.HE.map Aq)) (I n.HE.length) (I i) s
 |0,i,hm,hi,s,hf,hb,KH=>by
  unfold aF mD;refine Gu Ade ?_;refine cf ?_;refine hQ1 (λx hx=>?_) s hf hb;exact Akb
 |m+1,i,hm,hi,s,hf,hb,KH=>by
  have SX:i<n.HE.length:=AA;have II:=hn.len;obtain⟨x,uA⟩:∃x,x=n.HE[i]:=⟨_,rfl⟩
  have iG:n.HE[i]?=some x:=by rw[uA];exact BZ SX
  have hxm:=Bt iG;obtain⟨s1,L9⟩:∃s1,s1=(s.new (.box [.nil,(I 0),(I 0),(.HK ⟨#[]⟩),(I 0),(I 0),(I 0),(I 0),.nil,(I 0),.nil,(I 0)])).set s.next (.box x.Gy):=⟨_,rfl⟩
  have Mv:∀b,b<s.next->s1.heap b=s.heap b:=λb hb=>by rw[L9,Ar AA,Av rfl AA]
  have Nm:Ha s1:=by rw[L9];exact JH (IW hf) AI
  have hi1:s1.heap s.next=some (.box x.Gy):=by rw[L9];exact Ay
  have jD:x.Gy[10]?=some (.HC (x.G0.map BC)):=by rw[Item.JP,Hh.JP];rfl
  unfold aF mD;refine Gu Adf ?_;refine ct ?_;refine Gu AeJ ?_;refine Gu (Jo x.HJ) ?_;refine Gu (bW rfl) ?_;refine Gu (LY (A3 rfl) x.HJ AdQ rfl) ?_;rw[<- L9];refine Gu JD ?_;refine Gu (G2 hi1 jD) ?_;refine Gu (Iy (G1:=x.G0.map BC) rfl) ?_;rw[BX];refine Gu AeO ?_;refine Gw (λh=>?_) λh=>?_
  .exact Ahz
  .have Uv:x.G0=[]:=by
    cases hs:x.G0 with
    |nil=>rfl
    |cons a l=>rw[hs]at h;simp at h
   refine Gu Adc ?_;refine qG hn hQ0 hQ1 m (i+1) AA SX Nm ((Mv bn (HT hf hb)).trans hb) λq h hq=>?_;exact Ai7
def AQQ{n:G8}(hn:n.WF)(hd:dg n.vars)(Pe:n.wt<=20000)(WA:∀x,x∈n.HE->x.G0=[]){Q:F1}(hQ:∀s c l ok,OO n l ok->Q (.tuple [.H6 c (l.map Gv),.bool ok]) s){bn:Nat}{s:St}(hf:Ha s)(hb:s.heap bn=some (.box n.Gy)):pS (.Im .Lp) Q (.G5 bn 0) s:=by
 have AGK:=Pe;unfold G8.wt at AGK;have hbl:=HT hf hb
 have SX:oe [] n.HE<=400000000:=by
  exact Ahs
 unfold pS;refine Gu (Ii hb n.HJ) ?_;refine UT (AKl hn (G8.hd hd) WA AA SX hf) λv s1 TM Nm hq=>?_;obtain⟨g,sp,mp,hM⟩:=hq;rw[hM.res];have va:=hM.qE;have jb:g.os.length=n.Hm.length:=by rw[<- G8.kG,<- va,BX]
 have Lr:=@G8.ABy n;have AUB:=@G8.ABv n;have AMT:=G8.AHC hn Pe;rw[<- va]at AUB AMT;refine Gu Kg ?_;refine Gu JD ?_;refine Gu (G2 hM.gs.box rfl) ?_;refine UT (ALU Nm hM.gs.AYm hM.gs.Hm (λp hp w hw=>by rw[jb];exact AUB p.2 (B8.2 ⟨p,hp,rfl⟩) w hw) AA λp hp=>AMT p.2 (B8.2 ⟨p,hp,rfl⟩)) λv s2 T7 OK hq=>?_;obtain⟨out,hS,Jr⟩:=hq;obtain⟨c,rfl⟩:=hS.res;have oY:=hS.AYQ;have KH:=hS.stuck;rw[va]at oY KH;have MK:s2.heap bn=some (.box n.Gy):=by rw[Jr bn (by have:=TM.next;omega),hM.Ir bn hbl];exact hb
 have hnr:n.Gy=[.HK n.name,.HC (n.Je.map Ao),.HC (n.Ic.map Ao),.HC (n.Gx.map Ao),.HC (n.HE.map Aq),I n.HI]:=n.ZV;refine Gu (tK rfl) ?_;refine Gu (tK rfl) ?_;refine Gu RW ?_;refine Gu OM ?_;refine Gu bX ?_;rw[va];refine Gw (λh=>?_) λh=>?_
 .refine Gu (Xd rfl) ?_;have h:((out.length:Int)==(n.qE.length:Int))=false:=by simpa using h
  refine Ls rfl (hQ _ _ [] false (.inr ⟨WA,out,oY,KH,h.symm,rfl⟩))
 .have h:((out.length:Int)==(n.qE.length:Int))=true:=by simpa using h
  have hho:∀x,x∈out->∃k:Nat,x=k/\k<(n.Ic++n.Gx).length:=λx hx=>by
   obtain⟨k,h1,h2,_⟩:=oY.lS x hx;rw[G8.kG]at h2;exact⟨k,h1,h2⟩
  have oZ:=oY.len;rw[G8.kG]at oZ;rw[hnr]at MK
  have h5:∀l:List HM,(l.map Ao).all (λr=>Bo r.length 5)=true:=λl=>by
   exact Ah8
  obtain⟨s3,UA⟩:∃s3,s3=s2.new (.Hm (n.Ic.map Ao).length 5):=⟨_,rfl⟩
  have Xp:s3.heap bn=some (.box [.HK n.name,.HC (n.Je.map Ao),.HC (n.Ic.map Ao),.HC (n.Gx.map Ao),.HC (n.HE.map Aq),I n.HI]):=by
   rw[UA,Av rfl (Nat.ne_of_lt (HT OK MK))];exact MK
  have hc3:s3.heap s2.next=some (.Hm (n.Ic.map Ao).length 5):=by rw[UA];exact BN
  refine HA JD ?_;refine HA (G2 MK rfl) ?_;refine HA (Nd (xs:=n.Ic.map Ao) rfl (h5 _) (Jd (by rw[BX];omega) AA) rfl) ?_;rw[<- UA];refine HA JD ?_;refine HA (G2 Xp rfl) ?_;refine HA (KG (xs:=n.Gx.map Ao) rfl (h5 _) (Jd (by rw[BX,BX];omega) AA) (h5 _) hc3 (.inr rfl)) ?_;refine HA RW ?_;refine⟨?_,?_⟩
  .have MT:bn≠s2.next:=Nat.ne_of_lt (HT OK MK);simp[Ih,I6,Jv,It];have H5:=HT OK MK;have hn3:s3.next=s2.next+1:=by rw[UA];rfl
   exact⟨KU AF,λ_ x h1 h2=>by omega,KU AF,KU AF,KU AF⟩
  .obtain⟨s4,bQ⟩:∃s4,s4=s3.set s2.next (.Hm ((n.Ic.map Ao).length+(n.Gx.map Ao).length) 5):=⟨_,rfl⟩
   rw[<- bQ];refine Gu (Xd rfl) ?_;refine Gu Ae4 ?_;rw[MY];have API:n.Ic.map Ao++n.Gx.map Ao=(n.Ic++n.Gx).map Ao:=by rw[Br]
   rw[API];refine⟨_,jP (Jp:=[]) (e:=0) hho AA (λs c=>hQ s c _ true (.inr ⟨WA,out,oY,KH,h.symm,by rw[Ps rfl];rfl⟩)) out.length 0 AA AA AD ?_ (.inl rfl)⟩;exact BN
def AHJ{N:List G8}{n:G8}(hn:n.WF)(hd:dg n.vars)(Pe:n.wt<=20000){s:St}(hf:Ha s):
  SW .Lp BW 22 [.agg [.HC (N.map A2)],.agg n.Gy] s λr _=>∃c l ok,r=.tuple [.H6 c (l.map Gv),.bool ok]/\OO n l ok:=by
 refine(AOQ (.Im .Lp) _ _ ?_).sw hf;obtain⟨s1,L9⟩:∃s1,s1=(s.new (.box [.HC (N.map A2)])).new (.box n.Gy):=⟨_,rfl⟩
 have Nm:Ha s1:=by rw[L9];exact IW (IW hf)
 have MR:s1.heap (s.next+1)=some (.box n.Gy):=by rw[L9];exact A3 rfl
 obtain⟨s2,K9⟩:∃s2,s2=s1.new (.Hm 0 0):=⟨_,rfl⟩
 have Yz:s1.next=s.next+2:=by rw[L9];rfl
 have OK:Ha s2:=by rw[K9];exact IW Nm
 have MK:s2.heap (s.next+1)=some (.box n.Gy):=by rw[K9,Av rfl AA];exact MR
 unfold g22;refine Gu Ae6 ?_;refine Gu (Ny (l:=n.Gy) AdR rfl) ?_;rw[<- L9];refine Gu (Xd rfl) ?_;rw[<- K9];refine Gu JD ?_;refine Gu (G2 MK (v:=.HC (n.HE.map Aq)) AdR) ?_;refine Gu Aen ?_;rw[BX];refine⟨_,qG (Q:=λr _=>∃c l ok,r=.tuple [.H6 c (l.map Gv),.bool ok]/\OO n l ok) hn (λh s c=>⟨c,[],false,rfl,.inl ⟨h,rfl,rfl⟩⟩) (λh s3 aO Xp=>AQQ hn hd Pe h (λs c l ok ho=>⟨c,l,ok,rfl,ho⟩) aO Xp) n.HE.length 0 AA AA OK MK λq h hq=>by omega⟩
end
end Go.Vi
