/- Part of the proof of CauseOrders (own work, made small). -/
import Derived.Test.YtlonlfiaclacdaaGreatB3
import Derived.Test.YtlonlfiaclacdaaGreatC1
import Derived.IntWalk
set_option linter.all false
set_option maxRecDepth 100000
open Bool renaming and_eq_true->Bk,or_eq_true->DU
open Go renaming BinOp->EP,FuncId->CE,Program->Cc,TypeId->Bm
open Go.Proofs.Tryz renaming prog->BW
open Go.Vi.KC renaming run->Aw
open Go.Vi.PV renaming bool->BG
open Go.Vi.St renaming new->BB,set->BL
open Int renaming le_refl->C3,not_le->EF
open List renaming all_cons->Cl,all_eq_true->CV,append_nil->CL,getD_eq_getElem?_getD->Bq,getElem?_eq_getElem->BZ,getElem?_eq_none->CA,length_append->Bf,length_cons->CG,length_map->BX,map_append->Br,mem_append->Bg,mem_map->B8,mem_singleton->CS,nil_append->CX,range->Bw
open List.cons renaming injEq->GC
open Nat renaming beq->Bo,beq_refl->Fb,ble->Ct,ble_eq_true_of_le->EO,blt->C5,eq_of_beq_eq_true->Bu
open Option.some renaming injEq->Ba
open Prod renaming snd->Bp
namespace Go.Vi
section
def I0(x:Option KC)(s:St)(v:PV)(s':St)(rd wr:LN):Prop:=∃q,x=some q/\q.run s=some (v,s')/\q.rd=rd/\q.wr=wr
section
variable{P:Program} {s s' s0 s1:St} {k:PV->St->Prop} {kl:KL} {v:PV} {x:Option KC} {rd wr:LN}
def Gu(h:I0 x s v s' rd wr)(hk:k v s'):pQ x s k:=by obtain⟨q,h1,h2,_⟩:=h;exact AYk h1 h2 hk
def HA(h:I0 x s v s' rd wr)(hk:kl v s' rd wr):Jy x s kl:=by obtain⟨q,h1,h2,rfl,rfl⟩:=h;exact AUq h1 h2 hk
def mS(hk:kl v s1 [] []):JZ (.bool true) true (λk=>k v s1 [] []) kl s0:=hk
def sM(hk:kl v s1 [] []):JZ (.bool false) false (λk=>k v s1 [] []) kl s0:=hk
def OJ(h1:I0 x s v s' rd wr)(hk:kl v s' rd wr):JZ (.bool true) true (λk=>Jy x s k) kl s0:=HA h1 hk
def Mh(h1:I0 x s v s' rd wr)(hk:kl v s' rd wr):JZ (.bool false) false (λk=>Jy x s k) kl s0:=HA h1 hk
def AJ0{f:CE}{vs:LP}(h1:HP P f vs s kl):JZ (.bool true) true (λk=>HP P f vs s k) kl s0:=h1
def AOh{f:CE}{vs:LP}(h1:HP P f vs s kl):JZ (.bool false) false (λk=>HP P f vs s k) kl s0:=h1
def sN{X:(KL)->Prop}(hk:kl .undef s [] []):JZ (.bool true) false X kl s:=hk
def iC{X:(KL)->Prop}(hk:kl .undef s [] []):JZ (.bool false) true X kl s:=hk
def ASu{QZ:Bool}{X:(KL)->Prop}(hk:kl .undef s [] []):JZ .undef QZ X kl s:=hk
def ct{A B:Prop}(h:A):He (.bool true) A B:=cI rfl h
def cf{A B:Prop}(h:B):He (.bool false) A B:=cH rfl h
def Gw{b:Bool}{A B:Prop}(h:b=true->A)(h':b=false->B):He (.bool b) A B:=⟨h,h'⟩
def HB{l:Option (LP)}{l':LP}{e n:Nat}{r:PV}{c:LLP}{Q:PV->LLP->Prop}(h0:l=some l')(h:(bif Bo e 0 then QG (NF l')else VO e s (NF l'))=some r)(h2:HZ s (Bw n)=some c)(hk:Q r c):
  H2 l λl=>IN e n (NF l) s Q:=by
 subst h0;exact AQU h h2 hk
end
section
variable{P:Program} {s:St} {v x y:PV} {b o n off size:Nat} {cs NL Gy l:LP} {G1:LLP} {i:Int} {kk:IntKind}
def Ns{v:PV}:I0 (some (.val v)) s v s [] []:=⟨_,rfl,rfl,rfl,rfl⟩
def bW(h:s.next=n):I0 (some (.box cs λb=> .G5 b 0)) s (.G5 n 0) (s.new (.box cs)) [] []:=by subst h;exact⟨_,rfl,rfl,rfl,rfl⟩
def Xd(h:s.next=n):I0 (some (.Hm 0 0 λb=> .H6 b [])) s (.H6 n []) (s.new (.Hm 0 0)) [] []:=by subst h;exact⟨_,rfl,rfl,rfl,rfl⟩
def Ny(hx:l.all PV.Iu=true)(h:s.next=n):I0 (Ij (.agg l)) s (.G5 n 0) (s.new (.box l)) [] []:=by subst h;refine⟨.box l λb=> .G5 b 0,?_,rfl,rfl,rfl⟩;show(bif l.all PV.Iu then _ else _)=_;rw[hx];rfl
def AQJ(h:s.next=n):I0 (Ij (.int kk i)) s (.G5 n 0) (s.new (.box [.int kk i])) [] []:=by subst h;exact⟨_,rfl,rfl,rfl,rfl⟩
def Kg:I0 (IA (.G5 b o)) s (.G5 b o) s [] []:=Ns
def AQM:I0 (IA (.M8 Gy o)) s (.M8 Gy o) s [] []:=Ns
def JD:I0 (Iz off (.G5 b o)) s (.G5 b (o+off)) s [] []:=Ns
def ZQ:I0 (Iz off (.M8 Gy o)) s (.M8 Gy (o+off)) s [] []:=Ns
def G2(h:s.heap b=some (.box cs))(h2:cs[o]?=some v):I0 (G3 (.G5 b o)) s v s [b] []:=⟨_,rfl,by simp only[Aw,h,h2],rfl,rfl⟩
def IM(h2:Gy[o]?=some v):I0 (G3 (.M8 Gy o)) s v s [] []:=⟨.val v,by simp only[G3,h2],rfl,rfl,rfl⟩
def Ii(h:s.heap b=some (.box cs))(h2:cs.length=n):I0 (G4 n (.G5 b 0)) s (.agg cs) s [b] []:=by subst h2;refine⟨_,rfl,?_,rfl,rfl⟩;simp[Aw,h,Yk]
def Ph(h:s.heap b=some (.box cs))(h2:Yk n cs o=some v):I0 (G4 n (.G5 b o)) s v s [b] []:=⟨_,rfl,by simp only[Aw,h,h2],rfl,rfl⟩
def Jo(h2:Gy.length=n):I0 (G4 n (.M8 Gy 0)) s (.agg Gy) s [] []:=by subst h2;refine⟨.val (.agg Gy),?_,rfl,rfl,rfl⟩;simp[G4,Yk]
def OD(h2:Yk n Gy o=some v):I0 (G4 n (.M8 Gy o)) s v s [] []:=⟨.val v,by simp only[G4,h2],rfl,rfl,rfl⟩
def ACH{cs:LP}{o:Nat}{x:PV}(h:o<cs.length):NR cs o [x]=some (cs.set o x):=by unfold NR;rw[Ps AB,List.set_eq_take_append_cons_drop,Ps h];simp
def Nf(h:s.heap b=some (.box cs))(hx:x.Iu=true)(ho:C5 o cs.length=true)(hs:cs.set o x=NL):I0 (HQ 1 x (.G5 b o)) s .undef (s.set b (.box NL)) [] [b]:=by
 subst hs;have hc:x.cells=[x]:=by cases x<;>first|rfl|cases hx
 refine⟨.store b λcs=>NR cs o x.cells,?_,?_,rfl,rfl⟩
 .exact AiH
 .simp only[Aw,h,hc];rw[ACH (by simp[C5]at ho;omega)]
def LY(h:s.heap b=some (.box cs))(hl:l.length=n)(hx:l.all PV.Iu=true)(ho:cs.length=n):I0 (HQ n (.agg l) (.G5 b 0)) s .undef (s.set b (.box l)) [] [b]:=by
 subst hl;refine⟨.store b λcs=>NR cs 0 l,?_,?_,rfl,rfl⟩
 .exact AiZ
 .simp[Aw,h,NR,ho,List.drop_eq_nil_of_le (Nat.le_of_eq ho)]
def wS(h:s.heap b=some (.box cs))(hl:l.length=n)(hx:l.all PV.Iu=true)(ho:NR cs o l=some NL):I0 (HQ n (.agg l) (.G5 b o)) s .undef (s.set b (.box NL)) [] [b]:=by
 subst hl;refine⟨.store b λcs=>NR cs o l,?_,?_,rfl,rfl⟩
 .exact AiZ
 .simp only[Aw,h,ho]
def Jb:I0 (IJ (.int kk i)) s (.int kk i) s [] []:=Ns
def OM{c:Bool}:I0 (IJ (.bool c)) s (.bool c) s [] []:=Ns
def zj{c:BA}:I0 (IJ (.HK c)) s (.HK c) s [] []:=Ns
def tH:I0 (IJ (.HC G1)) s (.HC G1) s [] []:=Ns
def RW:I0 (IJ (.H6 b G1)) s (.H6 b G1) s [] []:=Ns
def AQF:I0 (IJ (.agg l)) s (.agg l) s [] []:=Ns
def AQH:I0 (IJ (.tuple l)) s (.tuple l) s [] []:=Ns
def iT:I0 (IJ (.G5 b o)) s (.G5 b o) s [] []:=Ns
def AQE:I0 (IJ (.M8 Gy o)) s (.M8 Gy o) s [] []:=Ns
def AG5(h:s.next=n):I0 (IJ .nil) s (.H6 n []) (s.new (.Hm 0 0)) [] []:=Xd h
def Ho{op:EP}{t:Bm}(h:al P op t x y=some v):I0 (H7 P op t x y) s v s [] []:=⟨.val v,by simp only[H7,h],rfl,rfl,rfl⟩
def Uw:I0 (Hf (.bool true) x y) s x s [] []:=Ns
def TP:I0 (Hf (.bool false) x y) s y s [] []:=Ns
def AK5{c d e:Bool}:I0 (Hf (.bool c) (.bool d) (.bool e)) s (.bool (bif c then d else e)) s [] []:=by cases c<;>exact Ns
def bX{c:Bool}:I0 (KV .not (.bool c)) s (.bool !c) s [] []:=Ns
def AUl:I0 (KV .neg (.int kk i)) s (.int kk (kk.wrap (0-i))) s [] []:=Ns
def AG7{k2:IntKind}:I0 (Hx kk (.int k2 i)) s (.int kk (kk.wrap i)) s [] []:=Ns
def Iy(h:x.G1=some G1):I0 (Hg x) s (.int .i64 G1.length) s [] []:=⟨.val _,by
 unfold Hg;cases x with
 |LQ _ _=>cases h
 |_=>simp only[h],rfl,rfl,rfl⟩
def AQK{t:BA}:I0 (Hw (.HK t)) s (.int .i64 t.size) s [] []:=Ns
def AYa(h:l[off]?=some v):I0 (LH off (.agg l)) s v s [] []:=⟨.val v,by simp only[LH,h],rfl,rfl,rfl⟩
def AYb(h:Yk n l off=some v):I0 (LS off n (.agg l)) s v s [] []:=⟨.val v,by simp only[LS,h],rfl,rfl,rfl⟩
def tK{ix:Nat}(h:l[ix]?=some v):I0 (LG ix (.tuple l)) s v s [] []:=⟨.val v,by simp only[LG,h],rfl,rfl,rfl⟩
def ZP(h:ACA size l=some G1):I0 (Ik size l) s (.HC G1) s [] []:=⟨.val _,by simp only[Ik,h],rfl,rfl,rfl⟩
def kF{z:LP}{Iv:List (Option (Nat×Nat)×PV)}(h:(Iv.map Bp).all PV.w9=true)(h2:AA7 z Iv=some l):I0 (HS z Iv) s (.agg l) s [] []:=⟨.val _,by simp only[HS,h,h2];rfl,rfl,rfl,rfl⟩
def wu{sz:Nat}{G1:LLP}{i:Nat}{Gy:LP}(h:G1[i]?=some Gy)(hl:Gy.length=sz):fW sz G1 i=some (.M8 Gy 0):=by unfold fW;rw[h];simp[hl]
def HU(h0:0<=i)(h:G1[i.toNat]?=some Gy)(hl:Gy.length=size):I0 (Jq size (.HC G1) (.int kk i)) s (.M8 Gy 0) s [] []:=⟨.val (.M8 Gy 0),by unfold Jq;simp only[M0];rw[Ps h0];simp only[wu h hl],rfl,rfl,rfl⟩
def Ju(h0:0<=i)(h:G1[i.toNat]?=some Gy)(hl:Gy.length=size):I0 (Jq size (.H6 b G1) (.int kk i)) s (.M8 Gy 0) s [] []:=⟨.val (.M8 Gy 0),by unfold Jq;simp only[M0];rw[Ps h0];simp only[wu h hl],rfl,rfl,rfl⟩
def VF{t:BA}{c:UInt8}(h0:0<=i)(h:t[i.toNat]?=some c):I0 (Kp (.HK t) (.int kk i)) s (.int .u8 c.toNat) s [] []:=⟨.val _,by unfold Kp;simp only[M0];rw[Ps h0];simp only[h],rfl,rfl,rfl⟩
def KG{bytes:Nat}{xs:LLP}{e':Nat}(hx:x.G1=some xs)(ha:xs.all (λr=>Bo r.length size)=true)(hf:Go.Ab.JE (G1.length+xs.length) bytes=true)(hr:G1.all (λr=>Bo r.length size)=true)
  (hb:s.heap b=some (.Hm G1.length e'))(he:G1.length=0\/size=e'):I0 (IT size bytes (.H6 b G1) x) s (.H6 b (G1++xs)) (s.set b (.Hm (G1.length+xs.length) size)) [] [b]:=by
 refine⟨.push b G1.length size xs.length (.H6 b (G1++xs)),?_,?_,rfl,rfl⟩
 .simp only[IT,hx,ha,hf,hr];rfl
 .simp only[Aw,hb]
  have:(Bo G1.length G1.length&&(Bo G1.length 0||Bo size e'))=true:=by
   rcases he with h|h<;>simp[h]
  rw[this];rfl
def Nd{bytes:Nat}{xs:LLP}(hx:x.G1=some xs)(ha:xs.all (λr=>Bo r.length size)=true)(hf:Go.Ab.JE xs.length bytes=true)
  (h:s.next=n):I0 (IT size bytes .nil x) s (.H6 n xs) (s.new (.Hm xs.length size)) [] []:=by
 subst h;refine⟨.Hm xs.length size λb=> .H6 b xs,?_,rfl,rfl,rfl⟩;simp only[IT,hx,ha,hf];rfl
def AMw{lo hi:Bool}{t:BA}{r r2:LP}{r1:LP}{a c:ON}(h1:SV lo r=some (a,r1))(h2:SV hi r1=some (c,r2))(h3:c.getD t.size<=t.size)(h4:a.getD 0<=c.getD t.size):
  I0 (Ig lo hi (.HK t) r) s (.HK (t.extract (a.getD 0) (c.getD t.size))) s [] []:=
 ⟨.val _,by simp only[Ig,h1,h2,AM5];rw[Ps ⟨h3,h4⟩],rfl,rfl,rfl⟩
def ABu{lo hi:Bool}{r r2:LP}{r1:LP}{a c:ON}(hx:x.G1=some G1)(h1:SV lo r=some (a,r1))(h2:SV hi r1=some (c,r2))(h3:c.getD G1.length<=G1.length)(h4:a.getD 0<=c.getD G1.length)(h5:G1.all (λr=>Bo r.length size)=true):
  I0 (Ie size lo hi x r) s (.HC ((G1.drop (a.getD 0)).take (c.getD G1.length-a.getD 0))) s [] []:=
 ⟨.val _,by
 simp only[Ie,h1,h2];cases x with
 |LQ _ _=>cases hx
 |_=>simp only[AHi,hx];rw[Ps ⟨h3,h4,h5⟩],rfl,rfl,rfl⟩
end
def SU(l:List Obj)(hp:HO)(n:Nat):St:=⟨λb=>(l[b]?).or (hp b),n⟩
def tc{s:St}{l:List Obj}{n:Nat}(h:∀i,i<l.length->s.heap i=l[i]?)(hn:s.next=n):s=SU l s.heap n:=by
 subst hn;cases s with|mk hp n=>
 simp only[SU,St.mk.injEq,and_true];funext b;by_cases hb:b<l.length
 .rw[show hp b=l[b]? from h b hb];simp
 .rw[CA AA];rfl
def ALV{s:St}{o0:Obj}{n:Nat}(h0:s.heap 0=some o0)(hn:s.next=n):s=SU [o0] s.heap n:=tc (λi hi=>by
 match i,hi with
 |0,_=>exact h0) hn
def ALW{s:St}{o0 o1:Obj}{n:Nat}(h0:s.heap 0=some o0)(h1:s.heap 1=some o1)(hn:s.next=n):s=SU [o0,o1] s.heap n:=tc (λi hi=>by
 match i,hi with
 |0,_=>exact h0
 |1,_=>exact h1) hn
def ALX{s:St}{o0 o1 o2:Obj}{n:Nat}(h0:s.heap 0=some o0)(h1:s.heap 1=some o1)(h2:s.heap 2=some o2)(hn:s.next=n):s=SU [o0,o1,o2] s.heap n:=tc (λi hi=>by
 match i,hi with
 |0,_=>exact h0
 |1,_=>exact h1
 |2,_=>exact h2) hn
def ALY{s:St}{o0 o1 o2 o3:Obj}{n:Nat}(h0:s.heap 0=some o0)(h1:s.heap 1=some o1)(h2:s.heap 2=some o2)(h3:s.heap 3=some o3)(hn:s.next=n):s=SU [o0,o1,o2,o3] s.heap n:=tc (λi hi=>by
 match i,hi with
 |0,_=>exact h0
 |1,_=>exact h1
 |2,_=>exact h2
 |3,_=>exact h3) hn
def Mc(C:St->Prop){s:St}{o0 o1 o2 o3:Obj}{n:Nat}(h0:s.heap 0=some o0)(h1:s.heap 1=some o1)(h2:s.heap 2=some o2)(h3:s.heap 3=some o3)(hn:s.next=n)(h:∀hp,C (SU [o0,o1,o2,o3] hp n)):C s:=by rw[ALY h0 h1 h2 h3 hn];exact h _
def TV(C:St->Prop){s:St}{o0:Obj}{n:Nat}(h0:s.heap 0=some o0)(hn:s.next=n)(h:∀hp,C (SU [o0] hp n)):C s:=by rw[ALV h0 hn];exact h _
def XR(C:St->Prop){s:St}{o0 o1:Obj}{n:Nat}(h0:s.heap 0=some o0)(h1:s.heap 1=some o1)(hn:s.next=n)(h:∀hp,C (SU [o0,o1] hp n)):C s:=by rw[ALW h0 h1 hn];exact h _
def I3(C:St->Prop){s:St}{o0 o1 o2:Obj}{n:Nat}(h0:s.heap 0=some o0)(h1:s.heap 1=some o1)(h2:s.heap 2=some o2)(hn:s.next=n)(h:∀hp,C (SU [o0,o1,o2] hp n)):C s:=by rw[ALX h0 h1 h2 hn];exact h _
def St.IB{s:St}{b:Nat}{o:Obj}:(s.set b o).heap b=some o:=by simp[BL]
def St.LW{s:St}{o:Obj}:(s.new o).heap s.next=some o:=by simp[BB]
def St.JW{s:St}{o:Obj}{n:Nat}(h:s.next=n):(s.new o).heap n=some o:=by subst h;exact St.LW
def St.AHh{s:St}{b b':Nat}{o:Obj}(h:Bo b' b=false):(s.set b o).heap b'=s.heap b':=by simp only[BL,h,cond_false]
def St.AGp{s:St}{b':Nat}{o:Obj}(h:Bo b' s.next=false):(s.new o).heap b'=s.heap b':=by simp only[BB,h,cond_false]
def AUe{a b:Nat}(h:a≠b):Bo a b=false:=by
 cases h2:Bo a b
 .rfl
 .exact Zq (Bu h2) h
def St.HY{s:St}{b b':Nat}{o:Obj}(h:b'≠b):(s.set b o).heap b'=s.heap b':=St.AHh (AUe h)
def St.Hn{s:St}{b' n:Nat}{o:Obj}(hn:s.next=n)(h:b'≠n):(s.new o).heap b'=s.heap b':=St.AGp (by rw[hn];exact AUe h)
def Hk{x:Option KC}{s s':St}{v:PV}{rd wr:LN}(h:I0 x s v s' rd wr):I8 x s=some v:=by obtain⟨q,h1,h2,_⟩:=h;simp only[I8,h1,h2]
def JK{r:Option PV}{v:PV}(h:r=some v):So [r]=some [v]:=by subst h;rfl
def OG{l:LP}{s:St}:JV (.agg l) s=(.agg l,s):=rfl
def Hu{l:LP}{s:St}:JV (.tuple l) s=(.tuple l,s):=rfl
def Oo{c:Bool}{s:St}:JV (.bool c) s=(.bool c,s):=rfl
def Ni{k:IntKind}{i:Int}{s:St}:JV (.int k i) s=(.int k i,s):=rfl
def qI{c:BA}{s:St}:JV (.HK c) s=(.HK c,s):=rfl
def Mk{l:LLP}{s:St}:JV (.HC l) s=(.HC l,s):=rfl
def LZ{e:Nat}{l:LLP}{s:St}:JV (.H6 e l) s=(.H6 s.next l,s.new (.Hm l.length e)):=rfl
def NN{b:Nat}{c:LP}{s:St}:IF s [b] [c]=s.set b (.box c):=rfl
def Lu{s:St}:IF s [] []=s:=rfl
def Hj{o:Obj}{s:St}:(s.new o).next=s.next+1:=rfl
def Hz{b:Nat}{o:Obj}{s:St}:(s.set b o).next=s.next:=rfl
def AHk{l:List Obj}{hp:HO}{n:Nat}:(SU l hp n).next=n:=rfl
def I4{c:LLP}:(Ol c).next=c.length:=rfl
def Hr{n:Int}(h: -9223372036854775808<=n)(h':n<=9223372036854775807):IntKind.i64.wrap n=n:=IntWalk.i64_in n ⟨h,h'⟩
def zn{p:Prop}(h:p:=by dsimp only[I4,AHk,Hj,Hz,OG,Hu,Oo,Ni,qI,Mk,LZ,NN,Lu,CG,List.length_nil]<;>rfl):p:=h
def zs{p:Prop}(h:p:=by dsimp only[cells,PT.Gy,List.set_cons_zero,List.set_cons_succ]<;>rfl):p:=h
def zh{p:Prop}(h:p:=by repeat(first|exact St.IB|exact St.JW rfl|refine(St.AHh rfl).trans ?_|refine(St.AGp rfl).trans ?_|refine(St.HY AA).trans ?_|refine(St.Hn zn AA).trans ?_|rfl|assumption)):p:=h
def zo{p:Prop}(h:p:=by first|exact Kg|exact JD|exact G2 rfl rfl|exact Ho rfl|exact bW zn|exact Ny rfl zn|exact AQJ zn|exact Nf rfl rfl rfl zs|exact Uw|exact TP|exact AK5|exact Jb|exact OM|exact zj|exact tH|exact RW|exact AQF|exact AQH|exact iT|exact AQE|exact AG5 zn|exact AYa rfl|exact Ii rfl rfl|exact LY rfl rfl rfl rfl|exact Xd zn|exact AQM|exact ZQ|exact IM rfl|exact Jo rfl|exact bX|exact AUl|exact AQK|exact Iy rfl|exact tK rfl|exact kF rfl (by dsimp only[AA7,NR,PV.cells]<;>rfl)|exact ZP (by dsimp only[ACA,KR,PV.cells,PV.data]<;>rfl)|exact AYb rfl|exact Ph rfl rfl|exact OD rfl|exact AG7|exact wS rfl rfl rfl rfl|exact G2 zh rfl|exact Ii zh rfl|exact Nf zh rfl rfl zs|exact LY zh rfl rfl rfl|exact LY zh rfl rfl (by assumption)|exact wS zh rfl rfl rfl):p:=h
def OC(a:Nat):It a a=[]:=by simp[It]
def Pf(a:Nat):It a (a+1)=[a]:=by simp[It]
def zc{p:Prop}(h:p:=by simp only[Hj,Hz,I4,OG,Hu,LZ,Ni,Oo,qI,Mk,Lu,NN,dN,OC,Pf,CX,CL]<;>kernel_rfl):p:=h
structure ZH (B:Prop):Prop where
 out:B
def zv{A B:Prop}(h:B)(k:ZH B->A:=by intro zq;(repeat(first|(apply Gu;· exact zo)|refine ct ?_|refine cf ?_|(apply HA;· exact zo)|refine sN ?_|refine iC ?_|refine ASu ?_|refine mS ?_|refine sM ?_|(apply OJ;· exact zo)|(apply Mh;· exact zo)|refine AJ0 ?_|refine AOh ?_));exact zq.out):A:=k ⟨h⟩
def zi{A B:Prop}(k:ZH B->A:=by intro zq;refine zv ?_;exact zq.out):ZH B->A:=k
section
variable{P:Program} {s s' s0 s1:St} {k:PV->St->Prop} {kl:KL} {v:PV} {x:Option KC} {rd wr:LN} {B:Prop}
def pQ_v(h:I0 x s v s' rd wr)(hB:B)(z:ZH B->k v s':=by exact zi):pQ x s k:=Gu h (z ⟨hB⟩)
def Aba(h:I0 x s v s' rd wr)(hB:B)(z:ZH B->kl v s' rd wr:=by exact zi):Jy x s kl:=HA h (z ⟨hB⟩)
def Aah(h:I0 x s v s' rd wr)(hB:B)(z:ZH B->kl v s' rd wr:=by exact zi):JZ (.bool true) true (λk=>Jy x s k) kl s0:=OJ h (z ⟨hB⟩)
def Aag(h:I0 x s v s' rd wr)(hB:B)(z:ZH B->kl v s' rd wr:=by exact zi):JZ (.bool false) false (λk=>Jy x s k) kl s0:=Mh h (z ⟨hB⟩)
def AVt{f:CE}{vs args:LP}{IC Hs:LLP}{r:PV}{bs:LN}(h:PC P f args IC r Hs)(h1:Js vs 0=some (args,bs))(h2:Mq bs=true)(h3:HZ s bs=some IC)(h4:Hs.length=bs.length)
 (hB:B)(z:ZH B->k (JV r (IF s bs Hs)).1 (JV r (IF s bs Hs)).2:=by exact zi):Hb P f vs s k:=Gz h h1 h2 h3 h4 (z ⟨hB⟩)
def AUp{f:CE}{vs args:LP}{IC Hs:LLP}{r:PV}{bs:LN}(h:PC P f args IC r Hs)(h1:Js vs 0=some (args,bs))(h2:Mq bs=true)(h3:HZ s bs=some IC)(h4:Hs.length=bs.length)
 (hB:B)(z:ZH B->kl (JV r (IF s bs Hs)).1 (JV r (IF s bs Hs)).2 [] bs:=by exact zi):HP P f vs s kl:=Hq h h1 h2 h3 h4 (z ⟨hB⟩)
end
def Abg(j:Int)(h: -9223372036854775808<=j+1:=by omega)(h':j+1<=9223372036854775807:=by omega):IntKind.i64.wrap (j+1)=j+1:=Hr h h'
def AWG{b:Bool}{A B:Prop}(h:A)(h':B):He (.bool b) A B:=⟨λ_=>h,λ_=>h'⟩
def AWH{b:Bool}{A B:Prop}(h:A)(h':b=false->B):He (.bool b) A B:=⟨λ_=>h,h'⟩
def AWI{b:Bool}{A B:Prop}(h:b=true->A)(h':B):He (.bool b) A B:=⟨h,λ_=>h'⟩
section
variable{P:Program} {s:St} {k:PV->St->Prop} {kl:KL} {f:FuncId} {vs args:LP} {IC Hs:LLP} {r:PV} {bs:LN} {B:Prop}
def AbY(h:PC P f args IC r Hs)(hk:k (JV r (IF s bs Hs)).1 (JV r (IF s bs Hs)).2)(h1:Js vs 0=some (args,bs):=by rfl)(h2:Mq bs=true:=by rfl)(h3:HZ s bs=some IC:=by rfl)(h4:Hs.length=bs.length:=by rfl):Hb P f vs s k:=Gz h h1 h2 h3 h4 hk
def AYi(h:PC P f args IC r Hs)(hk:kl (JV r (IF s bs Hs)).1 (JV r (IF s bs Hs)).2 [] bs)(h1:Js vs 0=some (args,bs):=by rfl)(h2:Mq bs=true:=by rfl)(h3:HZ s bs=some IC:=by rfl)(h4:Hs.length=bs.length:=by rfl):HP P f vs s kl:=Hq h h1 h2 h3 h4 hk
def AbZ(h:PC P f args IC r Hs)(hB:B)(h1:Js vs 0=some (args,bs):=by rfl)(h2:Mq bs=true:=by rfl)(h3:HZ s bs=some IC:=by rfl)(h4:Hs.length=bs.length:=by rfl)(z:ZH B->k (JV r (IF s bs Hs)).1 (JV r (IF s bs Hs)).2:=by exact zi):Hb P f vs s k:=Gz h h1 h2 h3 h4 (z ⟨hB⟩)
def AYj(h:PC P f args IC r Hs)(hB:B)(h1:Js vs 0=some (args,bs):=by rfl)(h2:Mq bs=true:=by rfl)(h3:HZ s bs=some IC:=by rfl)(h4:Hs.length=bs.length:=by rfl)(z:ZH B->kl (JV r (IF s bs Hs)).1 (JV r (IF s bs Hs)).2 [] bs:=by exact zi):HP P f vs s kl:=Hq h h1 h2 h3 h4 (z ⟨hB⟩)
end
end
attribute [local irreducible] Iq IJ Hf Ij HS Ik G3 G4 HQ IA H7 KV Hx Ig Ie Iz LH LS Jq Kp LG Hw Hg IT pQ Jy JZ Hb HP He H2 IN I0 Int.instDecidableEq Int.decEq instBEqOfDecidableEq
section
open Go.Proofs
structure PT where
 kind:Int
 Q7:ByteArray
 n:Int
 tk:Int
 tl:Int
 HI:Int
instance:Inhabited PT:=⟨⟨5,⟨#[]⟩,0,0,0,0⟩⟩
def PT.Gy(t:PT):LP:=[I t.kind,.HK t.Q7,I t.n,I t.tk,I t.tl,I t.HI]
def cells(L:List PT)(a e b n:Int):LP:=[.HC (L.map PT.Gy),I a,I e,I b,I n]
def At(L:List PT)(a:Int):Prop:=0<=a/\a<L.length
@[irreducible]def IG(L:List PT)(a:Int):PT:=L.getD a.toNat default
def mu(L:List PT)(a e:Int):Int:=if e=0 then L.length-a else 0
def ACK{L:List PT}{a:Int}(h:At L a):(L.map PT.Gy)[a.toNat]?=some (IG L a).Gy:=by obtain⟨h0,h1⟩:=h;have H5:a.toNat<L.length:=AA;unfold IG;simp[Bq,BZ H5]
structure JM (L:List PT):Prop where
 pos:0<L.length
 le:L.length<=20000
 QS:∀a,At L a->(IG L a).kind≠5->a+1<L.length
 tk:∀a,At L a->0<=(IG L a).tk/\(IG L a).tk<=9
 tl:∀a,At L a->(IG L a).tl=0
section
variable{L:List PT} {a e b n:Int}
def SL(h:At L a):0<=mu L a e:=by unfold mu;unfold At at h;split<;>omega
def P9(h:At L a)(he:e=0):0<mu L a e:=by unfold mu;unfold At at h;rw[Ps he];omega
def Lk(he:e≠0):mu L a e=0:=by unfold mu;rw[Ng he]
def IE(he:e=0):mu L a e=L.length-a:=by unfold mu;rw[Ps he]
def At.QS(hL:JM L):At L (L.length-1):=by have:=hL.pos;constructor<;>omega
def At.lt(hL:JM L)(h:At L a):a<20000:=by have:=hL.le;unfold At at h;omega
end
def VC(L:List PT)(a e:Int)(w:BA):Bool:=(e==0)&&((IG L a).kind==3||(IG L a).kind==4)&&((IG L a).Q7.toList==w.toList)
def v9{L:List PT}{a e:Int}{w:BA}(h:VC L a e w=true):e=0/\((IG L a).kind=3\/(IG L a).kind=4)/\(IG L a).Q7.toList=w.toList:=by simp only[VC,Bk,DU,beq_iff_eq]at h;exact⟨h.1.1,h.1.2,h.2⟩
def NA{L:List PT}{a e:Int}{w:BA}(hL:JM L)(ha:At L a)(h:VC L a e w=true):e=0/\At L (a+1):=by obtain⟨h1,h2,_⟩:=v9 h;have:=hL.QS a ha AA;exact⟨h1,by unfold At at*;omega⟩
def PF(L:List PT)(f:Nat)(args:LP)(a e b n:Int)(Q:PV->Int->Int->Int->Int->Prop):Prop:=PQ BW f (.G5 0 0::args) [cells L a e b n] λr c=>∃a' e' b' n',c=[cells L a' e' b' n']/\Q r a' e' b' n'
section
variable{L:List PT} {a e b n:Int} {s:St} {k:F1} {kl:KL} {args vs:LP} {f:Nat} {Q:PV->Int->Int->Int->Int->Prop}
def PF.call(h:PF L f args a e b n Q)(h1:Js vs 0=some (.G5 0 0::args,[0]))(h3:HZ s [0]=some [cells L a e b n])
  (hk:∀r a' e' b' n',Q r a' e' b' n'->k (JV r (s.set 0 (.box (cells L a' e' b' n')))).1 (JV r (s.set 0 (.box (cells L a' e' b' n')))).2):Hb BW f vs s k:=by
 obtain⟨r,c,I5,a',e',b',n',rfl,hq⟩:=h;exact Gz I5 h1 rfl h3 rfl (hk r a' e' b' n' hq)
def PF.lP(h:PF L f args a e b n Q)(h1:Js vs 0=some (.G5 0 0::args,[0]))(h3:HZ s [0]=some [cells L a e b n])
  (hk:∀r a' e' b' n',Q r a' e' b' n'->kl (JV r (s.set 0 (.box (cells L a' e' b' n')))).1 (JV r (s.set 0 (.box (cells L a' e' b' n')))).2 [] [0]):HP BW f vs s kl:=by
 obtain⟨r,c,I5,a',e',b',n',rfl,hq⟩:=h;exact Hq I5 h1 rfl h3 rfl (hk r a' e' b' n' hq)
end
section
variable{L:List PT} {a e b n:Int}
def ti(ha:At L a):PF L 119 [] a e b n (λr a' e' b' n'=>r=.agg (IG L a).Gy/\a'=a/\e'=e/\b'=b/\n'=n):=by refine AIy 0 rfl _ ?_;unfold ARp;refine zv ?_;refine Aba (HU ha.1 (ACK ha) rfl) ?_;refine⟨by kernel_rfl,HB AdY rfl rfl ⟨a,e,b,n,rfl,rfl,rfl,rfl,rfl,rfl⟩⟩
def Of{s:St}{k:F1}(h3:HZ s [0]=some [cells L a e b n])(ha:At L a)(hk:k (.agg (IG L a).Gy) (s.set 0 (.box (cells L a e b n)))):Hb BW 119 [.G5 0 0] s k:=(ti ha).call rfl h3 λr a' e' b' n' h=>by obtain⟨rfl,rfl,rfl,rfl,rfl⟩:=h;exact hk
def ACi{s:St}{k:KL}(h3:HZ s [0]=some [cells L a e b n])(ha:At L a)(hk:k (.agg (IG L a).Gy) (s.set 0 (.box (cells L a e b n))) [] [0]):HP BW 119 [.G5 0 0] s k:=(ti ha).lP rfl h3 λr a' e' b' n' h=>by obtain⟨rfl,rfl,rfl,rfl,rfl⟩:=h;exact hk
def AMm(ha:At L a)(w:BA):PF L 120 [.HK w] a e b n (λr a' e' b' n'=>r=.bool (VC L a e w)/\a'=a/\e'=e/\b'=b/\n'=n):=by
 refine AIz 0 rfl _ _ ?_;unfold ARq;refine Of rfl ha ?_;refine zv ?_;cases h:e==0
 .refine zv ?_;refine HB rfl rfl rfl ⟨a,e,b,n,rfl,?_,rfl,rfl,rfl,rfl⟩;simp only[VC,h];rfl
 .refine zv ?_;cases h1:(IG L a).kind==3
  .refine zv ?_;cases h2:(IG L a).kind==4
   .exact Ahh
   .exact Ahh
  .refine zv ?_;refine HB rfl rfl rfl ⟨a,e,b,n,rfl,?_,rfl,rfl,rfl,rfl⟩;simp only[VC,h,h1];rfl
def Qo{s:St}{k:F1}{w:BA}(h3:HZ s [0]=some [cells L a e b n])(ha:At L a)(hk:k (.bool (VC L a e w)) (s.set 0 (.box (cells L a e b n)))):Hb BW 120 [.G5 0 0,.HK w] s k:=(AMm ha w).call rfl h3 λr a' e' b' n' h=>by obtain⟨rfl,rfl,rfl,rfl,rfl⟩:=h;exact hk
def Z0(hL:JM L)(ha:At L a){x:Int}(hx:x≠0):PF L 121 [I x] a e b n (λr a' e' b' n'=>r=.tuple []/\a'=L.length-1/\e'≠0/\n'=n):=by
 have hp:=hL.pos;have hle:=hL.le;have hw:IntKind.i64.wrap (↑(L.map PT.Gy).length-1)=L.length-1:=by rw[BX];exact Hr AA AA
 refine AI0 0 rfl _ _ ?_;unfold ARr;refine zv ?_;cases h:e==0
 .refine zv ?_;refine HB rfl rfl rfl ⟨_,e,b,n,rfl,rfl,hw,by simpa using h,rfl⟩
 .refine zv ?_;refine Aba (HU ha.1 (ACK ha) rfl) ?_;refine⟨by kernel_rfl,?_⟩;refine zv ?_;refine HB rfl rfl rfl ⟨_,x,_,n,rfl,rfl,hw,hx,rfl⟩
def K5{s:St}{k:F1}{x:Int}(hL:JM L)(hx:x≠0)(h3:HZ s [0]=some [cells L a e b n])(ha:At L a)(hk:∀e' b',e'≠0->k (.tuple []) (s.set 0 (.box (cells L (L.length-1) e' b' n)))):Hb BW 121 [.G5 0 0,I x] s k:=(Z0 hL ha hx).call rfl h3 λr a' e' b' n' h=>by obtain⟨rfl,rfl,h,rfl⟩:=h;exact hk e' b' h
def Adv(L:List PT)(a e a' e':Int):Prop:=At L a'/\mu L a' e'<=mu L a e
def WD(L:List PT)(a e a' e':Int):Prop:=At L a'/\(e=0->mu L a' e'<mu L a e)/\(e≠0->e'≠0)
def QC(hL:JM L)(ha:At L a):IntKind.i64.wrap (a+1)=a+1:=by have:=ha.lt hL;exact Hr (by unfold At at ha;omega) AA
def Ov(hL:JM L)(ha:At L a){e':Int}(h:e'≠0):WD L a e (L.length-1) e':=⟨At.QS hL,λhe=>by rw[Lk h];exact P9 ha he,λ_=>h⟩
def Zi(oE:At L (a+1))(he:e=0):WD L a e (a+1) e:=⟨oE,λ_=>by rw[IE he,IE he];omega,λh=>Zq he h⟩
def ACJ(hL:JM L)(ha:At L a)(w:BA):PF L 145 [.HK w] a e b n (λr a' e' b' n'=>r=.tuple []/\n'=n/\WD L a e a' e'):=by
 refine AJB 0 rfl _ _ ?_;unfold AR3;refine Qo rfl ha ?_;cases h:VC L a e w
 .refine zv ?_;refine K5 hL AA rfl ha λe' b' he=>?_;refine HB rfl rfl rfl ⟨_,_,_,_,rfl,rfl,rfl,Ov hL ha he⟩
 .obtain⟨he,oE⟩:=NA hL ha h;refine zv ?_;refine HB rfl rfl rfl ⟨_,_,_,_,rfl,rfl,rfl,?_⟩;rw[QC hL ha];exact Zi oE he
def Ib{s:St}{k:F1}{w:BA}(hL:JM L)(h3:HZ s [0]=some [cells L a e b n])(ha:At L a)(hk:∀a' e' b',WD L a e a' e'->k (.tuple []) (s.set 0 (.box (cells L a' e' b' n)))):Hb BW 145 [.G5 0 0,.HK w] s k:=(ACJ hL ha w).call rfl h3 λr a' e' b' n' h=>by obtain⟨rfl,rfl,h⟩:=h;exact hk a' e' b' h
def nF(hL:JM L)(ha:At L a)(w:BA):PF L 148 [.HK w] a e b n (λr a' e' b' n'=>n'=n/\b'=b/\e'=e/\((r=.bool false/\VC L a e w=false/\a'=a)\/(r=.bool true/\VC L a e w=true/\e=0/\a'=a+1/\At L (a+1)))):=by
 refine AJD 0 rfl _ _ ?_;unfold AR5;refine Qo rfl ha ?_;cases h:VC L a e w
 .refine zv ?_;refine HB rfl rfl rfl ⟨_,_,_,_,rfl,rfl,rfl,rfl,.inl ⟨rfl,rfl,rfl⟩⟩
 .obtain⟨he,oE⟩:=NA hL ha h;refine zv ?_;refine HB rfl rfl rfl ⟨_,_,_,_,rfl,rfl,rfl,rfl,.inr ⟨rfl,rfl,he,QC hL ha,oE⟩⟩
def Mp{s:St}{k:F1}{w:BA}(hL:JM L)(h3:HZ s [0]=some [cells L a e b n])(ha:At L a)(h0:VC L a e w=false->k (.bool false) (s.set 0 (.box (cells L a e b n))))
  (h1:VC L a e w=true->e=0->At L (a+1)->k (.bool true) (s.set 0 (.box (cells L (a+1) e b n)))):Hb BW 148 [.G5 0 0,.HK w] s k:=
 (nF hL ha w).call rfl h3 λr a' e' b' n' h=>by
  obtain⟨rfl,rfl,rfl,⟨rfl,h,rfl⟩|⟨rfl,h,he,rfl,h'⟩⟩:=h
  .exact h0 h
  .exact h1 h he h'
def ABl(hL:JM L)(ha:At L a):PF L 146 [] a e b n (λr a' e' b' n'=>n'=n/\(∃w,r=.HK w)/\WD L a e a' e'):=by
 refine AJC 0 rfl _ ?_;unfold AR4;refine Of rfl ha ?_;refine zv ?_;cases h:e !=0
 .have he:e=0:=by simpa using h
  refine zv ?_;cases h1:(IG L a).kind !=1
  .have hk:(IG L a).kind=1:=by simpa using h1
   have oE:=hL.QS a ha AA;exact Ahm
  .exact AfS
 .exact AfS
def O1{s:St}{k:F1}(hL:JM L)(h3:HZ s [0]=some [cells L a e b n])(ha:At L a)(hk:∀w a' e' b',WD L a e a' e'->k (.HK w) (s.set 0 (.box (cells L a' e' b' n)))):Hb BW 146 [.G5 0 0] s k:=(ABl hL ha).call rfl h3 λr a' e' b' n' h=>by obtain⟨rfl,⟨w,rfl⟩,h⟩:=h;exact hk w a' e' b' h
def ACG(hL:JM L)(ha:At L a):PF L 164 [] a e b n (λr a' e' b' n'=>n'=n/\(∃w,r=I w)/\WD L a e a' e'):=by
 refine AJN 0 rfl _ ?_;unfold ASF;refine Of rfl ha ?_;refine zv ?_;cases h:e !=0
 .have he:e=0:=by simpa using h
  refine zv ?_;cases h1:(IG L a).kind !=2
  .have hk:(IG L a).kind=2:=by simpa using h1
   have oE:=hL.QS a ha AA;refine zv ?_;cases h2:(IG L a).tk !=0
   .exact Ahm
   .exact AfS
  .exact AfS
 .exact AfS
def gV{s:St}{k:F1}(hL:JM L)(h3:HZ s [0]=some [cells L a e b n])(ha:At L a)(hk:∀w a' e' b',WD L a e a' e'->k (I w) (s.set 0 (.box (cells L a' e' b' n)))):Hb BW 164 [.G5 0 0] s k:=(ACG hL ha).call rfl h3 λr a' e' b' n' h=>by obtain⟨rfl,⟨w,rfl⟩,h⟩:=h;exact hk w a' e' b' h
def AA9(hL:JM L)(ha:At L a)(x y:Int):PF L 122 [I x,I y] a e b n (λr a' e' b' n'=>n'=n/\((r=.bool false/\x<y/\a'=a/\e'=e/\b'=b)\/(r=.bool true/\y<=x/\a'=L.length-1/\e'≠0))):=by
 refine AI1 0 rfl _ _ _ ?_;unfold ARt;refine zv ?_;refine Gw (λh=>?_) λh=>?_
 .refine K5 hL AA rfl ha λe' b' he=>?_;refine HB rfl rfl rfl ⟨_,_,_,_,rfl,rfl,.inr ⟨rfl,by simpa using h,rfl,he⟩⟩
 .refine HB rfl rfl rfl ⟨_,_,_,_,rfl,rfl,.inl ⟨rfl,by simpa using h,rfl,rfl,rfl⟩⟩
def AK8(hL:JM L)(ha:At L a):PF L 169 [] a e b n (λr a' e' b' n'=>(r=.bool true/\a'=a/\e'=e)\/(r=.bool false/\a'=L.length-1/\e'≠0)):=by
 refine AJS 0 rfl _ ?_;unfold ASK;refine zv ?_;refine Gw (λh=>?_) λh=>?_
 .refine K5 hL AA rfl ha λe' b' he=>?_;refine HB rfl rfl rfl ⟨_,_,_,_,rfl,.inr ⟨rfl,rfl,he⟩⟩
 .refine HB rfl rfl rfl ⟨_,_,_,_,rfl,.inl ⟨rfl,rfl,rfl⟩⟩
def pB{s:St}{k:F1}(hL:JM L)(h3:HZ s [0]=some [cells L a e b n])(ha:At L a)(h0:∀b' n',k (.bool true) (s.set 0 (.box (cells L a e b' n'))))
  (h1:∀e' b' n',e'≠0->k (.bool false) (s.set 0 (.box (cells L (L.length-1) e' b' n')))):Hb BW 169 [.G5 0 0] s k:=
 (AK8 hL ha).call rfl h3 λr a' e' b' n' h=>by
  obtain⟨rfl,rfl,rfl⟩|⟨rfl,rfl,h⟩:=h
  .exact h0 b' n'
  .exact h1 e' b' n' h
end
end
section
structure Edge where
 name:ByteArray
 on:Bool
def Edge.Gy(g:Edge):LP:=[.HK g.name,.bool g.on]
structure HM where
 name:ByteArray
 tk:Int
 tl:Int
 HH:List Edge
 HI:Int
def HM.Gy(v:HM):LP:=[.HK v.name,I v.tk,I v.tl,.HC (v.HH.map Edge.Gy),I v.HI]
inductive Hh where
 |mk (form sub:Int) (name:ByteArray) (tk tl n m:Int) (G9:List Hh) (HI:Int)
mutual
def Hh.Gy:Hh->List PV
 | .mk form sub name tk tl n m G9 a=>[.int .i64 form,.int .i64 sub,.HK name,.int .i64 tk,.int .i64 tl,.int .i64 n,.int .i64 m,.HC (Hh.G1 G9),.int .i64 a]
def Hh.G1:List Hh->List (List PV)
 |[]=>[]
 |k::r=>k.Gy::Hh.G1 r
end
structure Hc where
 cond:Hh
 to:ByteArray
 ACq:Bool
 HI:Int
def Hc.Gy(t:Hc):LP:=t.cond.Gy++[.HK t.to,.bool t.ACq,I t.HI]
mutual
inductive Item where
 |mk (G6:List ByteArray) (e:Hh) (G0:List HF) (HI:Int)
inductive HF where
 |mk (name:ByteArray) (Lm LR:List Hc) (Gx:List HM) (HE:List Item) (HI:Int)
end
def Gv(n:BA):LP:=[.HK n]
mutual
def Item.Gy:Item->List PV
 | .mk G6 e G0 a=>[.HC (G6.map Gv)]++e.Gy++[.HC (HF.G1 G0),.int .i64 a]
def Item.G1:List Item->List (List PV)
 |[]=>[]
 |k::r=>k.Gy::Item.G1 r
def HF.Gy:HF->List PV
 | .mk name Lm LR Gx HE a=>[.HK name,.HC (Lm.map Hc.Gy),.HC (LR.map Hc.Gy),.HC (Gx.map HM.Gy),.HC (Item.G1 HE),.int .i64 a]
def HF.G1:List HF->List (List PV)
 |[]=>[]
 |k::r=>k.Gy::HF.G1 r
end
structure G8 where
 name:ByteArray
 Je:List HM
 Ic:List HM
 Gx:List HM
 HE:List Item
 HI:Int
def G8.Gy(n:G8):LP:=[.HK n.name,.HC (n.Je.map HM.Gy),.HC (n.Ic.map HM.Gy),.HC (n.Gx.map HM.Gy),.HC (Item.G1 n.HE),I n.HI]
def Hh.form:Hh->Int| .mk f _ _ _ _ _ _ _ _=>f
def Hh.sub:Hh->Int| .mk _ s _ _ _ _ _ _ _=>s
def Hh.name:Hh->BA| .mk _ _ n _ _ _ _ _ _=>n
def Hh.tk:Hh->Int| .mk _ _ _ t _ _ _ _ _=>t
def Hh.tl:Hh->Int| .mk _ _ _ _ t _ _ _ _=>t
def Hh.n:Hh->Int| .mk _ _ _ _ _ n _ _ _=>n
def Hh.m:Hh->Int| .mk _ _ _ _ _ _ m _ _=>m
def Hh.G9:Hh->List Hh| .mk _ _ _ _ _ _ _ k _=>k
def Hh.HI:Hh->Int| .mk _ _ _ _ _ _ _ _ a=>a
def Item.G6:Item->List BA| .mk n _ _ _=>n
def Item.e:Item->Hh| .mk _ e _ _=>e
def Item.G0:Item->List HF| .mk _ _ s _=>s
def Item.HI:Item->Int| .mk _ _ _ a=>a
def HF.name:HF->BA| .mk n _ _ _ _ _=>n
def HF.Lm:HF->List Hc| .mk _ u _ _ _ _=>u
def HF.LR:HF->List Hc| .mk _ _ u _ _ _=>u
def HF.Gx:HF->List HM| .mk _ _ _ l _ _=>l
def HF.HE:HF->List Item| .mk _ _ _ _ i _=>i
def HF.HI:HF->Int| .mk _ _ _ _ _ a=>a
def Hh.Jc:∀l:List Hh,Hh.G1 l=l.map Hh.Gy
 |[]=>by simp[Hh.G1]
 |k::r=>by simp[Hh.G1,Hh.Jc r]
def Item.Jc:∀l:List Item,Item.G1 l=l.map Item.Gy
 |[]=>by simp[Item.G1]
 |k::r=>by simp[Item.G1,Item.Jc r]
def HF.Jc:∀l:List HF,HF.G1 l=l.map HF.Gy
 |[]=>by simp[HF.G1]
 |k::r=>by simp[HF.G1,HF.Jc r]
def Hh.JP(x:Hh):x.Gy=[I x.form,I x.sub,.HK x.name,I x.tk,I x.tl,I x.n,I x.m,.HC (x.G9.map Hh.Gy),I x.HI]:=by cases x;simp only[Hh.Gy,Hh.Jc];rfl
def Item.JP(x:Item):x.Gy=[.HC (x.G6.map Gv)]++x.e.Gy++[.HC (x.G0.map HF.Gy),I x.HI]:=by cases x;simp only[Item.Gy,HF.Jc];rfl
def HF.JP(x:HF):x.Gy=[.HK x.name,.HC (x.Lm.map Hc.Gy),.HC (x.LR.map Hc.Gy),.HC (x.Gx.map HM.Gy),.HC (x.HE.map Item.Gy),I x.HI]:=by cases x;simp only[HF.Gy,Item.Jc];rfl
def Hh.HJ(x:Hh):x.Gy.length=9:=by rw[Hh.JP];rfl
def Item.HJ(x:Item):x.Gy.length=12:=by rw[Item.JP];simp[Hh.HJ]
def HF.HJ(x:HF):x.Gy.length=6:=by rw[HF.JP];rfl
def Hc.HJ(x:Hc):x.Gy.length=12:=by simp[Hc.Gy,Hh.HJ]
mutual
def Hh.wt:Hh->Nat
 | .mk form _ _ _ _ _ _ G9 _=>(if form=0 then 0 else 1)+Hh.Il G9
def Hh.Il:List Hh->Nat
 |[]=>0
 |k::r=>k.wt+Hh.Il r
end
def Hc.wt(t:Hc):Nat:=1+t.cond.wt
def Hc.Il:List Hc->Nat
 |[]=>0
 |t::r=>t.wt+Hc.Il r
mutual
def Item.wt:Item->Nat
 | .mk G6 e G0 _=>G6.length+e.wt+HF.Il G0
def Item.Il:List Item->Nat
 |[]=>0
 |k::r=>k.wt+Item.Il r
def HF.wt:HF->Nat
 | .mk _ Lm LR Gx HE _=>1+Hc.Il Lm+Hc.Il LR+Gx.length+Item.Il HE
def HF.Il:List HF->Nat
 |[]=>0
 |k::r=>k.wt+HF.Il r
end
def G8.wt(n:G8):Nat:=1+n.Je.length+n.Ic.length+n.Gx.length+Item.Il n.HE
def G8.Il:List G8->Nat
 |[]=>0
 |k::r=>k.wt+G8.Il r
def Hh.Io:∀(l k:List Hh),Hh.Il (l++k)=Hh.Il l+Hh.Il k
 |[],k=>by simp[Hh.Il]
 |x::l,k=>by simp[Hh.Il,Hh.Io l k];omega
def Hc.Io:∀(l k:List Hc),Hc.Il (l++k)=Hc.Il l+Hc.Il k
 |[],k=>by simp[Hc.Il]
 |x::l,k=>by simp[Hc.Il,Hc.Io l k];omega
def Item.Io:∀(l k:List Item),Item.Il (l++k)=Item.Il l+Item.Il k
 |[],k=>by simp[Item.Il]
 |x::l,k=>by simp[Item.Il,Item.Io l k];omega
def HF.Io:∀(l k:List HF),HF.Il (l++k)=HF.Il l+HF.Il k
 |[],k=>by simp[HF.Il]
 |x::l,k=>by simp[HF.Il,HF.Io l k];omega
def G8.Io:∀(l k:List G8),G8.Il (l++k)=G8.Il l+G8.Il k
 |[],k=>by simp[G8.Il]
 |x::l,k=>by simp[G8.Il,G8.Io l k];omega
section
variable{f s tk tl i m HI p q:Int} {nm:BA} {x y z:Hh} {l:List Hh}
def jV:(Hh.mk f s nm tk tl i m l HI).wt<=1+Hh.Il l:=by simp only[Hh.wt];split<;>omega
def AQx:(Hh.mk f s nm tk tl i m [x,y] HI).wt<=1+x.wt+y.wt:=by have:=@jV f s tk tl i m HI nm [x,y];simp only[Hh.Il]at this;omega
def AQw:(Hh.mk f s nm tk tl i m [x] HI).wt<=1+x.wt:=by have:=@jV f s tk tl i m HI nm [x];simp only[Hh.Il]at this;omega
def AQv:(Hh.mk f s nm tk tl i m [] HI).wt<=1:=by have:=@jV f s tk tl i m HI nm [];simp only[Hh.Il]at this;omega
def wlz(h:p<=q):((Hh.mk 0 s nm tk tl i m [] HI).wt:Int)+p<=q:=by simp[Hh.wt,Hh.Il];omega
def wl0(h:1+p<=q):((Hh.mk f s nm tk tl i m [] HI).wt:Int)+p<=q:=by have:=@jV f s tk tl i m HI nm [];simp only[Hh.Il]at this;omega
def wl1(h:1+x.wt+p<=q):((Hh.mk f s nm tk tl i m [x] HI).wt:Int)+p<=q:=by have:=@jV f s tk tl i m HI nm [x];simp only[Hh.Il]at this;omega
def wl2(h:1+x.wt+y.wt+p<=q):((Hh.mk f s nm tk tl i m [x,y] HI).wt:Int)+p<=q:=by have:=@jV f s tk tl i m HI nm [x,y];simp only[Hh.Il]at this;omega
def wl3(h:1+x.wt+y.wt+z.wt+p<=q):((Hh.mk f s nm tk tl i m [x,y,z] HI).wt:Int)+p<=q:=by have:=@jV f s tk tl i m HI nm [x,y,z];simp only[Hh.Il]at this;omega
def wlL(h:1+Hh.Il l+p<=q):((Hh.mk f s nm tk tl i m l HI).wt:Int)+p<=q:=by have:=@jV f s tk tl i m HI nm l;omega
end
def TI:∀{l k:LP},KR l=some l->KR k=some k->KR (l++k)=some (l++k)
 |[],k,_,h=>h
 |v::l,k,h,h'=>by
  simp only[KR]at h;split at h
  .rename_i x hx;split at h
   .rename_i r hr;simp only[Ba,GC]at h;obtain⟨rfl,rfl⟩:=h;simp only[List.cons_append,KR,hx,TI hr h']
   .cases h
  .cases h
def Hh.KR(x:Hh):KR x.Gy=some x.Gy:=by rw[Hh.JP];rfl
def Hc.KR(x:Hc):Vi.KR x.Gy=some x.Gy:=TI x.cond.KR rfl
def Item.KR(x:Item):Vi.KR x.Gy=some x.Gy:=by rw[Item.JP];exact TI (TI rfl x.e.KR) rfl
def HF.KR(x:HF):Vi.KR x.Gy=some x.Gy:=by rw[HF.JP];rfl
def G8.KR(x:G8):Vi.KR x.Gy=some x.Gy:=rfl
def qw(f:Int)(k:Nat):Prop:=(f=3\/f=6\/f=9\/f=11\/f=16\/f=17->k=1)/\(f=4\/f=7\/f=8\/f=10\/f=19->k=2)/\(f=5->k=3)/\(f=14->1<=k)/\k<=100000
inductive Hh.WF:Hh->Prop
 |mk (form sub:Int) (name:ByteArray) (tk tl n m:Int) (G9:List Hh) (HI:Int) (Sr:qw form G9.length) (hf:0<=form/\form<=19) (hs:form=3->sub=1\/sub=2) (vj:form=4->3<=sub/\sub<=19) (ht:0<=tk/\tk<=9)
  (hk:∀k∈G9,Hh.WF k):Hh.WF (.mk form sub name tk tl n m G9 HI)
structure HM.WF (v:HM):Prop where
 tk:0<=v.tk/\v.tk<=9
 HH:v.HH.length<=17
structure fu.WF (l:List HM):Prop where
 len:l.length<=100000
 all:∀v∈l,v.WF
structure U2.WF (l:List Hc):Prop where
 len:l.length<=100000
 all:∀t∈l,t.cond.WF
mutual
inductive Item.WF:Item->Prop
 |mk (G6:List ByteArray) (e:Hh) (G0:List HF) (HI:Int) (hn:G6.length<=100000) (he:e.WF) (hl:G0.length<=100000) (hs:∀s∈G0,HF.WF s):Item.WF (.mk G6 e G0 HI)
inductive HF.WF:HF->Prop
 |mk (name:ByteArray) (Lm LR:List Hc) (Gx:List HM) (HE:List Item) (HI:Int) (h1:U2.WF Lm) (h2:U2.WF LR) (h3:fu.WF Gx) (h4:HE.length<=100000) (h5:∀i∈HE,Item.WF i):HF.WF (.mk name Lm LR Gx HE HI)
end
structure G8.WF (n:G8):Prop where
 Je:fu.WF n.Je
 Ic:fu.WF n.Ic
 Gx:fu.WF n.Gx
 len:n.HE.length<=100000
 HE:∀i∈n.HE,i.WF
 clin:∀v∈n.Je,v.HH=[]
 ASX:∀v∈n.Ic,v.HH=[]
end
section
open Go.Proofs
section
variable{L:List PT} {a e b n:Int}
def PE(L:List PT)(f:Nat)(args:LP)(a e b n:Int):Prop:=PF L f args a e b n λr a' e' b' n'=>
 ∃f s nm tk tl k m G9 HI,r=.agg [I f,I s,.HK nm,I tk,I tl,I k,I m,.HC (Hh.G1 G9),I HI]/\(Hh.mk f s nm tk tl k m G9 HI).WF/\At L a'/\((Hh.mk f s nm tk tl k m G9 HI).wt:Int)+mu L a' e'<=mu L a e
def PE.call{f:Nat}{args vs:LP}{s:St}{k:F1}(h:PE L f args a e b n)(h1:Js vs 0=some (.G5 0 0::args,[0]))(h3:HZ s [0]=some [cells L a e b n])
  (hk:∀f s1 nm tk tl i m G9 HI a' e' b' n',(Hh.mk f s1 nm tk tl i m G9 HI).WF->At L a'->((Hh.mk f s1 nm tk tl i m G9 HI).wt:Int)+mu L a' e'<=mu L a e->
   k (.agg [I f,I s1,.HK nm,I tk,I tl,I i,I m,.HC (Hh.G1 G9),I HI]) (s.set 0 (.box (cells L a' e' b' n')))):Hb BW f vs s k:=
 PF.call h h1 h3 λr a' e' b' n' h=>by
  exact Af9
def PI{HI:Int}:(Hh.mk 0 0 ⟨#[]⟩ 0 0 0 0 [] HI).WF:=by refine .mk _ _ _ _ _ _ _ _ _ ?_ AA AA AA AA AD;simp[qw]
def Rz(hL:JM L){e':Int}(ha:At L a)(h:e'≠0){s tk tl i m HI:Int}{nm:BA}:At L (L.length-1)/\((Hh.mk 0 s nm tk tl i m [] HI).wt:Int)+mu L (L.length-1) e'<=mu L a e:=⟨At.QS hL,wlz (by rw[Lk h];exact SL ha)⟩
def uI(L:List PT)(f:Nat)(args:LP)(M:Int):Prop:=∀a e b n,At L a->mu L a e<M->PE L f args a e b n
def RH(L:List PT)(f:Nat)(args:LP)(M:Int):Prop:=∀a e b n,At L a->mu L a e<=M->PE L f args a e b n
def AOK(hL:JM L){M:Int}(AOt:RH L 170 [] M):RH L 167 [] M:=by
 intro a e b n ha hm;refine AJQ 0 rfl _ ?_;unfold ASI;refine zv ?_;refine pB hL rfl ha (λb' n'=>?_) λe' b' n' he=>?_
 .refine zv ?_;refine(AOt a e b' n' ha hm).call rfl rfl λf s1 nm tk tl i m G9 HI a' e' b' n' hw oE pg=>?_;exact AgS
 .exact Ahu
def AQk(f s:Int)(x y:Hh):PQ BW 172 [I f,I s,.agg x.Gy,.agg y.Gy] [] (λr c=>r=.agg (Hh.mk f s ⟨#[]⟩ 0 0 0 0 [x,y] x.HI).Gy/\c=[]):=by
 refine AJV 0 rfl _ _ _ _ ?_;unfold ASN;cases x with|mk f1 s1 wO xH xI i1 m1 SJ Nx=>
 cases y with|mk f2 s2 ax az bA i2 m2 MV OV=>
 simp only[Hh.Gy];refine zv ?_;refine HB AdY rfl rfl ⟨rfl,rfl⟩
def n9{f s:Int}{x y:Hh}{nm:BA}{HI:Int}(hf:f=4\/f=7\/f=8)(hs:f=4->3<=s/\s<=19)(hx:x.WF)(hy:y.WF):(Hh.mk f s nm 0 0 0 0 [x,y] HI).WF:=by
 refine .mk _ _ _ _ _ _ _ _ _ ⟨?_,?_,?_,?_,?_⟩ AA AA hs AA (by simp[hx,hy])
 all_goals simp
 all_goals omega
def Ye{f s:Int}{st:St}{k:F1}{f1 s1 xH xI i1 m1 Nx f2 s2 az bA i2 m2 OV:Int}{wO ax:BA}{SJ MV:List Hh}
  (hk:k (.agg [I f,I s,.HK ⟨#[]⟩,I 0,I 0,I 0,I 0,.HC (Hh.G1 [.mk f1 s1 wO xH xI i1 m1 SJ Nx,.mk f2 s2 ax az bA i2 m2 MV OV]),I Nx]) st):
  Hb BW 172 [I f,I s,.agg [I f1,I s1,.HK wO,I xH,I xI,I i1,I m1,.HC (Hh.G1 SJ),I Nx],
   .agg [I f2,I s2,.HK ax,I az,I bA,I i2,I m2,.HC (Hh.G1 MV),I OV]] st k:=by
 obtain⟨r,c,I5,rfl,rfl⟩:=AQk f s (.mk f1 s1 wO xH xI i1 m1 SJ Nx) (.mk f2 s2 ax az bA i2 m2 MV OV);simp only[Hh.Gy]at I5;exact Gz I5 rfl rfl rfl rfl hk
def AE1(hL:JM L){M:Int}(AGD:RH L 171 [] M)(fJ:uI L 170 [] M):RH L 170 [] M:=by
 intro a e b n ha hm;refine AJT 0 rfl _ ?_;unfold ASL;refine zv ?_;refine(AGD a e b n ha hm).call rfl rfl λf s1 nm tk tl i m G9 HI a1 e1 b1 n1 hw Me pg=>?_;refine zv ?_;refine Mp hL rfl Me (λYx=>?_) λYx he My=>?_
 .exact Afr
 .refine zv ?_;have H5:mu L (a1+1) e1<mu L a1 e1:=by rw[IE he,IE he];omega
  refine(fJ (a1+1) e1 b1 n1 My AA).call rfl rfl λf2 s2 ax az bA i2 m2 MV OV a2 e2 b2 n2 Uu UP NZ=>?_;refine zv ?_;refine Ye ?_;refine zv ?_;refine HB AdY rfl rfl ⟨_,_,_,_,rfl,7,0,_,_,_,_,_,_,_,rfl,n9 AA AA hw Uu,UP,wl2 AA⟩
def AOL(hL:JM L){M:Int}(AGD:RH L 173 [] M)(fJ:uI L 171 [] M):RH L 171 [] M:=by
 intro a e b n ha hm;refine AJU 0 rfl _ ?_;unfold ASM;refine zv ?_;refine(AGD a e b n ha hm).call rfl rfl λf s1 nm tk tl i m G9 HI a1 e1 b1 n1 hw Me pg=>?_;refine zv ?_;refine Mp hL rfl Me (λYx=>?_) λYx he My=>?_
 .exact Afr
 .refine zv ?_;have H5:mu L (a1+1) e1<mu L a1 e1:=by rw[IE he,IE he];omega
  refine(fJ (a1+1) e1 b1 n1 My AA).call rfl rfl λf2 s2 ax az bA i2 m2 MV OV a2 e2 b2 n2 Uu UP NZ=>?_;refine zv ?_;refine Ye ?_;refine zv ?_;refine HB AdY rfl rfl ⟨_,_,_,_,rfl,8,0,_,_,_,_,_,_,_,rfl,n9 AA AA hw Uu,UP,wl2 AA⟩
def APr(hL:JM L){M:Int}(AGD:RH L 174 [I 0] M)(fJ:uI L 173 [] M):RH L 173 [] M:=by
 intro a e b n ha hm;refine AJW 0 rfl _ ?_;unfold ASO;refine zv ?_;refine(AGD a e b n ha hm).call rfl rfl λf s1 nm tk tl i m G9 HI a1 e1 b1 n1 hw Me pg=>?_;refine zv ?_;refine Mp hL rfl Me (λYx=>?_) λYx he My=>?_
 .exact Afr
 .refine zv ?_;have H5:mu L (a1+1) e1<mu L a1 e1:=by rw[IE he,IE he];omega
  refine(fJ (a1+1) e1 b1 n1 My AA).call rfl rfl λf2 s2 ax az bA i2 m2 MV OV a2 e2 b2 n2 Uu UP NZ=>?_;refine zv ?_;refine Ye ?_;refine zv ?_;refine HB AdY rfl rfl ⟨_,_,_,_,rfl,4,11,_,_,_,_,_,_,_,rfl,n9 AA AA hw Uu,UP,wl2 AA⟩
def AH1(hL:JM L){M:Int}(AUF:RH L 177 [] M):RH L 175 [] M:=by
 intro a e b n ha hm;refine AJX 0 rfl _ ?_;unfold ASP;refine zv ?_;refine Qo rfl ha ?_;refine zv ?_;refine Qo rfl ha ?_;refine zv ?_;refine Qo rfl ha ?_;refine zv ?_;cases h1:VC L a e ⟨#[110,111,116]⟩<;>cases h2:VC L a e ⟨#[45]⟩<;>cases h3:VC L a e ⟨#[112,114,101]⟩<;>refine zv ?_
 .refine(AUF a e b n ha hm).call rfl rfl λf s1 nm tk tl i m G9 HI a' e' b' n' hw oE pg=>?_;exact AgS
 all_goals
  refine pB hL rfl ha (λb' n'=>?_) λe' b' n' he=>?_
  .refine zv ?_;refine(AUF a e b' n' ha hm).call rfl rfl λf s1 nm tk tl i m G9 HI a' e' b' n' hw oE pg=>?_;exact AgS
  .exact Ahu
def AGO(hL:JM L)(ha:At L a)(l:Int):PF L 176 [I l] a e b n (λr a' e' b' n'=>(∃op,r=I op/\(op=0\/(3<=op/\op<=19/\e=0/\At L (a+1))))/\a'=a/\e'=e/\b'=b/\n'=n):=by
 refine AJY 0 rfl _ _ ?_;unfold ASQ;refine Of rfl ha ?_
 have AJn:∀{s:St} {Q:PV->LLP->Prop},HZ s (Bw 1)=some [cells L a e b n]->(∀r c,(∃a' e' b' n',c=[cells L a' e' b' n']/\(∃op,r=I op/\(op=0\/(3<=op/\op<=19/\e=0/\At L (a+1))))/\a'=a/\e'=e/\b'=b/\n'=n)->Q r c)->
   H2 (So [some (I 0)]) λl=>IN 0 1 (NF l) s Q:=λhs hq=>HB rfl rfl hs (hq _ _ ⟨_,_,_,_,rfl,⟨0,rfl,.inl rfl⟩,rfl,rfl,rfl,rfl⟩)
 have ASi:∀{op:Int} {s:St} {Q:PV->LLP->Prop},(3<=op/\op<=19)->(e=0/\At L (a+1))->HZ s (Bw 1)=some [cells L a e b n]->(∀r c,(∃a' e' b' n',c=[cells L a' e' b' n']/\(∃op,r=I op/\(op=0\/(3<=op/\op<=19/\e=0/\At L (a+1))))/\a'=a/\e'=e/\b'=b/\n'=n)->Q r c)->
   H2 (So [some (I op)]) λl=>IN 0 1 (NF l) s Q:=λho he hs hq=>HB rfl rfl hs (hq _ _ ⟨_,_,_,_,rfl,⟨_,rfl,.inr ⟨ho.1,ho.2,he.1,he.2⟩⟩,rfl,rfl,rfl,rfl⟩)
 have go:∀{C:Bool} {X Y:Prop},(C=true->X)->(C=false->Y)->He (.bool C) X Y:=λh1 h2=>Gw h1 h2;refine zv ?_;cases h:e !=0
 .have he:e=0:=by simpa using h
  refine zv ?_
  have hk:∀k,(IG L a).kind=k->k≠5->At L (a+1):=λk hk hk5=>by
   have:=hL.QS a ha AA;unfold At at*;omega
  cases h1:(IG L a).kind !=3
  .have h2:e=0/\At L (a+1):=⟨he,hk 3 (by simpa using h1) AA⟩
   exact Agu
  .refine zv ?_;cases h3:(IG L a).kind !=4
   .have h2:e=0/\At L (a+1):=⟨he,hk 4 (by simpa using h3) AA⟩
    exact Agu
   .refine zv ?_;exact AJn rfl λ_ _ h=>h
 .refine zv ?_;exact AJn rfl λ_ _ h=>h
end
end
section
open Go.Proofs
section
variable{L:List PT} {a e b n:Int}
def AGN(hL:JM L)(ha:At L a)(l:Int):∃op,PC BW 176 [.G5 0 0,I l] [cells L a e b n] (I op) [cells L a e b n]/\(op=0\/(3<=op/\op<=19/\e=0/\At L (a+1))):=by obtain⟨r,c,I5,a',e',b',n',hc,⟨op,hr,pj⟩,h1,h2,h3,h4⟩:=AGO (b:=b) (n:=n) (e:=e) hL ha l;rw[h1,h2,h3,h4]at hc;rw[hr,hc]at I5;exact⟨op,I5,pj⟩
def zU(hL:JM L){M lv:Int}(hn:RH L 174 [I (IntKind.i64.wrap (lv+1))] M){Q:PV->Int->Int->Int->Int->Prop}:
  ∀(c:Nat) {a e b n:Int} (ha:At L a) (hm:mu L a e<=M) (hc:mu L a e<=c) {f s1:Int} {nm:BA} {tk tl i m:Int} {G9:List Hh} {HI:Int} (hw:(Hh.mk f s1 nm tk tl i m G9 HI).WF)
   (hQ:∀r a' e' b' n',(∃f' s' nm' tk' tl' k' m' Vn gB,r=.agg [I f',I s',.HK nm',I tk',I tl',I k',I m',.HC (Hh.G1 Vn),I gB]/\(Hh.mk f' s' nm' tk' tl' k' m' Vn gB).WF/\At L a'/\((Hh.mk f' s' nm' tk' tl' k' m' Vn gB).wt:Int)+mu L a' e'<=((Hh.mk f s1 nm tk tl i m G9 HI).wt:Int)+mu L a e)->Q r a' e' b' n'),
   ∃k,∀{cs:LP} (Jw:cs.length=9) (hp:HO) (nx:Nat),Zo 0 1 (λr c=>∃a' e' b' n',c=[cells L a' e' b' n']/\Q r a' e' b' n') k (.G5 0 0) (I lv) (.G5 1 0) (.G5 2 0)
    (SU [.box (cells L a e b n),.box cs,.box [I f,I s1,.HK nm,I tk,I tl,I i,I m,.HC (Hh.G1 G9),I HI]] hp (nx+3)):=by
 intro c
 induction c with
 |zero=>
  intro a e b n ha hm hc f s1 nm tk tl i m G9 HI hw hQ;have he:e≠0:=λh=>by have:=P9 ha h;omega
  exact Akm
 |succ c ih=>
  intro a e b n ha hm hc f s1 nm tk tl i m G9 HI hw hQ;by_cases he:e=0
  case neg=>
   exact Akm
  case pos=>
   obtain⟨op,I5,pj⟩:=AGN (b:=b) (n:=n) (e:=e) hL ha lv;rcases pj with rfl|⟨AXk,AXl,_,Me⟩
   .refine⟨1,λ{cs} Jw hp nx=>?_⟩;show Oe _ _ _ _ _ _ _ _ _;unfold Oe;refine zv ?_;refine Gw (λh=>?_) Ada;refine AbZ I5 ?_;refine Gw (λh=>?_) (λh=>by simp at h);refine zv ?_;exact AfZ
   .have hs:=QC hL ha;have H5:mu L (a+1) e<mu L a e:=by rw[IE he,IE he];omega
    obtain⟨r,cc,Jh,a2,e2,b2,n2,rfl,f2,s2,ax,az,bA,i2,m2,MV,OV,rfl,Uu,My,NZ⟩:=hn (IntKind.i64.wrap (a+1)) e b n AM AN;rw[hs]at NZ;by_cases hlv:lv=2
    .refine⟨1,λ{cs} Jw hp nx=>?_⟩;show Oe _ _ _ _ _ _ _ _ _;unfold Oe;refine zv ?_;refine Gw (λh=>?_) Ada;refine AbZ I5 ?_;refine Gw Aew λh=>?_;refine zv ?_;refine AbZ Jh ?_;refine Ye ?_;refine zv ?_;refine Gw (λh=>?_) (λh=>Zq hlv AE);refine zv ?_;refine HB AdY rfl rfl ⟨_,_,_,_,rfl,hQ _ _ _ _ _ ⟨4,op,_,_,_,_,_,_,_,rfl,n9 AA AA hw Uu,My,wl2 AA⟩⟩
    .obtain⟨k,hk⟩:=ih (e:=e2) My AA AA (n9 (s:=op) (HI:=HI) (nm:=⟨#[]⟩) (.inl rfl) (λ_=>⟨AXk,AXl⟩) hw Uu) (b:=b2) (n:=n2) λr a' e' b' n' ⟨f',s',nm',tk',tl',k',m',Vn,gB,hr,Qy,h2,h3⟩=>hQ r a' e' b' n' ⟨f',s',nm',tk',tl',k',m',Vn,gB,hr,Qy,h2,by have:=AQx (f:=4) (s:=op) (nm:=⟨#[]⟩) (tk:=0) (tl:=0) (i:=0) (m:=0) (HI:=HI) (x:=.mk f s1 nm tk tl i m G9 HI) (y:=.mk f2 s2 ax az bA i2 m2 MV OV);omega⟩;refine⟨k+1,λ{cs} Jw hp nx=>?_⟩;show Oe _ _ _ _ _ _ _ _ _;unfold Oe;refine zv ?_;refine Gw (λh=>?_) Ada;refine AbZ I5 ?_;refine Gw Aew λh=>?_;refine zv ?_;refine AbZ Jh ?_;refine Ye ?_;refine zv ?_;refine Gw (λh=>Zq AE hlv) λh=>?_;exact I3 (Zo 0 1 _ k _ _ _ _) rfl rfl rfl rfl λK3=>hk Jw K3 (nx+1)
def AGa(hL:JM L){M:Int}(hun:RH L 175 [] M):∀(d:Nat) (lv:Int),lv=8-d->d<=8->RH L 174 [I lv] M:=by
 intro d
 induction d with
 |zero=>
  intro lv hlv _ a e b n ha hm;have hlv:lv=8:=AA;refine AAk 0 rfl _ _ ?_;unfold ANR;refine zv ?_;refine Gw (λh=>?_) (λh=>Zq hlv AE);refine(hun a e b n ha hm).call rfl rfl λf s1 nm tk tl i m G9 HI a1 e1 b1 n1 hw Me pg=>?_;exact Afr
 |succ d ih=>
  intro lv hlv hd a e b n ha hm;have AXT:¬lv=8:=AA;have zK:=Abg lv
  have hn:RH L 174 [I (IntKind.i64.wrap (lv+1))] M:=by
   rw[zK];exact ih (lv+1) AA AA
  obtain⟨r,cc,I5,a1,e1,b1,n1,rfl,f,s1,nm,tk,tl,i,m,G9,HI,rfl,hw,Me,pg⟩:=hn a e b n ha hm
  obtain⟨k,hk⟩:=zU hL hn (mu L a1 e1).toNat (a:=a1) (e:=e1) (b:=b1) (n:=n1) Me AA (by have:=SL (e:=e1) Me;omega) hw
   (Q:=λr a' e' b' n'=>∃f s nm tk tl k m G9 HI,r=.agg [I f,I s,.HK nm,I tk,I tl,I k,I m,.HC (Hh.G1 G9),I HI]/\(Hh.mk f s nm tk tl k m G9 HI).WF/\At L a'/\((Hh.mk f s nm tk tl k m G9 HI).wt:Int)+mu L a' e'<=mu L a e)
   λr a' e' b' n' ⟨f',s',nm',tk',tl',k',m',Vn,gB,hr,Qy,h2,h3⟩=>⟨f',s',nm',tk',tl',k',m',Vn,gB,hr,Qy,h2,AA⟩
  refine AAk 0 rfl _ _ ?_;unfold ANR;refine zv ?_;refine Gw (λh=>Zq AE AXT) λh=>?_;refine zv ?_;refine AbZ I5 ?_;refine⟨k,?_⟩;exact I3 (Zo 0 1 _ k _ _ _ _) rfl rfl rfl rfl λK3=>hk (by rfl) K3 0
end
end
section
open Go.Proofs
section
variable{L:List PT} {a e b n:Int}
def aY(hL:JM L)(ha:At L a)(w:BA):∃a' e' b',PC BW 145 [.G5 0 0,.HK w] [cells L a e b n] (.tuple []) [cells L a' e' b' n]/\WD L a e a' e':=by obtain⟨r,c,I5,a',e',b',n',hc,hr,hn,sQ⟩:=ACJ (b:=b) (n:=n) (e:=e) hL ha w;rw[hn]at hc;rw[hr,hc]at I5;exact⟨a',e',b',I5,sQ⟩
def kE(hL:JM L)(ha:At L a):∃w a' e' b',PC BW 146 [.G5 0 0] [cells L a e b n] (.HK w) [cells L a' e' b' n]/\WD L a e a' e':=by obtain⟨r,c,I5,a',e',b',n',hc,hn,⟨w,hr⟩,sQ⟩:=ABl (b:=b) (n:=n) (e:=e) hL ha;exact Ajs
def ACF(hL:JM L)(ha:At L a):∃w a' e' b',PC BW 164 [.G5 0 0] [cells L a e b n] (I w) [cells L a' e' b' n]/\WD L a e a' e':=by obtain⟨r,c,I5,a',e',b',n',hc,hn,⟨w,hr⟩,sQ⟩:=ACG (b:=b) (n:=n) (e:=e) hL ha;exact Ajs
def jM(ha:At L a)(w:BA):PC BW 120 [.G5 0 0,.HK w] [cells L a e b n] (.bool (VC L a e w)) [cells L a e b n]:=by obtain⟨r,c,I5,a',e',b',n',hc,hr,h1,h2,h3,h4⟩:=AMm (b:=b) (n:=n) (e:=e) ha w;exact Age
def O5(hL:JM L)(ha:At L a){w:BA}(h:VC L a e w=false):PC BW 148 [.G5 0 0,.HK w] [cells L a e b n] (.bool false) [cells L a e b n]:=by
 obtain⟨r,c,I5,a',e',b',n',hc,h1,h2,h3,⟨hr,_,h4⟩|⟨hr,h5,_⟩⟩:=nF (b:=b) (n:=n) (e:=e) hL ha w
 .exact Age
 .rw[h]at h5;cases h5
def O6(hL:JM L)(ha:At L a){w:BA}(h:VC L a e w=true):PC BW 148 [.G5 0 0,.HK w] [cells L a e b n] (.bool true) [cells L (a+1) e b n]:=by
 obtain⟨r,c,I5,a',e',b',n',hc,h1,h2,h3,⟨hr,h5,h4⟩|⟨hr,h5,_,h4,_⟩⟩:=nF (b:=b) (n:=n) (e:=e) hL ha w
 .rw[h]at h5;cases h5
 .exact Age
def Oi(hL:JM L)(ha:At L a){x y:Int}(h:x<y):PC BW 122 [.G5 0 0,I x,I y] [cells L a e b n] (.bool false) [cells L a e b n]:=by
 obtain⟨r,c,I5,a',e',b',n',hc,h1,⟨hr,h2,h3,h4,h5⟩|⟨hr,h2,_⟩⟩:=AA9 (b:=b) (n:=n) (e:=e) hL ha x y
 .rw[h1,h3,h4,h5]at hc;rw[hr,hc]at I5;exact I5
 .omega
def Oj(hL:JM L)(ha:At L a){x y:Int}(h:y<=x):∃e' b',e'≠0/\PC BW 122 [.G5 0 0,I x,I y] [cells L a e b n] (.bool true) [cells L (L.length-1) e' b' n]:=by
 obtain⟨r,c,I5,a',e',b',n',hc,h1,⟨hr,h2,h3,h4,h5⟩|⟨hr,h2,h3,h4⟩⟩:=AA9 (b:=b) (n:=n) (e:=e) hL ha x y
 .omega
 .rw[h1,h3]at hc;rw[hr,hc]at I5;exact⟨e',b',h4,I5⟩
def WD.le{a' e':Int}(h:WD L a e a' e')(ha:At L a):mu L a' e'<=mu L a e:=by
 by_cases he:e=0
 .have:=h.2.1 he;omega
 .rw[Lk he,Lk (h.2.2 he)];omega
def AH7{f s tk tl i m HI w:Int}{nm:BA}{G9:List Hh}{OV:Int}(h:(Hh.mk f s nm tk tl i m G9 HI).WF):(Hh.mk 16 0 ⟨#[]⟩ 0 0 w 0 [.mk f s nm tk tl i m G9 HI] OV).WF:=by
 refine .mk _ _ _ _ _ _ _ _ _ ⟨?_,?_,?_,?_,?_⟩ AA AA AA AA Al
 all_goals simp
def sk(hL:JM L){Q:PV->Int->Int->Int->Int->Prop}:∀(c:Nat) {a e b n:Int} (ha:At L a) (hc:mu L a e<=c) {f s1:Int} {nm:BA} {tk tl i m:Int} {G9:List Hh} {HI:Int} (hw:(Hh.mk f s1 nm tk tl i m G9 HI).WF)
   (hQ:∀r a' e' b' n',(∃f' s' nm' tk' tl' k' m' Vn gB,r=.agg [I f',I s',.HK nm',I tk',I tl',I k',I m',.HC (Hh.G1 Vn),I gB]/\(Hh.mk f' s' nm' tk' tl' k' m' Vn gB).WF/\At L a'/\((Hh.mk f' s' nm' tk' tl' k' m' Vn gB).wt:Int)+mu L a' e'<=((Hh.mk f s1 nm tk tl i m G9 HI).wt:Int)+mu L a e)->Q r a' e' b' n'),
   ∃k,∀{cs:LP} (Jw:cs.length=9) (hp:HO),gI 0 1 (λr c=>∃a' e' b' n',c=[cells L a' e' b' n']/\Q r a' e' b' n') k (.G5 0 0) (.G5 1 0) (.G5 2 0)
    (SU [.box (cells L a e b n),.box [I f,I s1,.HK nm,I tk,I tl,I i,I m,.HC (Hh.G1 G9),I HI],.box cs] hp 3):=by
 intro c
 induction c with
 |zero=>
  intro a e b n ha hc f s1 nm tk tl i m G9 HI hw hQ;have he:e≠0:=λh=>by have:=P9 ha h;omega
  refine⟨1,λ{cs} Jw hp=>?_⟩;show WS _ _ _ _ _ _ _ _;unfold WS;refine Mp hL rfl ha (λYx=>?_) λYx oV My=>Zq oV he;refine zv ?_;exact AfZ
 |succ c ih=>
  intro a e b n ha hc f s1 nm tk tl i m G9 HI hw hQ;cases hm:VC L a e ⟨#[91]⟩with
  |false=>
   refine⟨1,λ{cs} Jw hp=>?_⟩;show WS _ _ _ _ _ _ _ _;unfold WS;refine AbZ (O5 hL ha hm) ?_;exact AfZ
  |true=>
   obtain⟨he,Me⟩:=NA hL ha hm;have H5:mu L (a+1) e<mu L a e:=by rw[IE he,IE he];omega
   obtain⟨w,a2,e2,b2,Jh,Us⟩:=ACF (b:=b) (n:=n) (e:=e) hL Me;obtain⟨a3,e3,b3,VA,Yt⟩:=aY (b:=b2) (n:=n) (e:=e2) hL Us.1 ⟨#[93]⟩;have jI:=Us.le Me;have sU:=Yt.le Us.1;obtain⟨k,hk⟩:=ih (e:=e3) Yt.1 AA (AH7 (w:=w) (OV:=HI) hw) (b:=b3) (n:=n) λr a' e' b' n' ⟨f',s',nm',tk',tl',k',m',Vn,gB,hr,Qy,h2,h3⟩=>hQ r a' e' b' n' ⟨f',s',nm',tk',tl',k',m',Vn,gB,hr,Qy,h2,by have:=AQw (f:=16) (s:=0) (nm:=⟨#[]⟩) (tk:=0) (tl:=0) (i:=w) (m:=0) (HI:=HI) (x:=.mk f s1 nm tk tl i m G9 HI);omega⟩;refine⟨k+1,λ{cs} Jw hp=>?_⟩;show WS _ _ _ _ _ _ _ _;unfold WS;refine AbZ (O6 hL ha hm) ?_;refine AbZ Jh ?_;refine AbZ VA ?_;exact I3 (gI 0 1 _ k _ _ _) rfl rfl rfl rfl λK3=>hk Jw K3
def PEx(L:List PT)(f:Nat)(args:LP)(W a e b n:Int):Prop:=PF L f args a e b n λr a' e' b' n'=>
 ∃f s nm tk tl k m G9 HI,r=.agg [I f,I s,.HK nm,I tk,I tl,I k,I m,.HC (Hh.G1 G9),I HI]/\(Hh.mk f s nm tk tl k m G9 HI).WF/\At L a'/\((Hh.mk f s nm tk tl k m G9 HI).wt:Int)+mu L a' e'<=W+mu L a e
def PEx.call{f:Nat}{args vs:LP}{s:St}{k:F1}{W:Int}(h:PEx L f args W a e b n)(h1:Js vs 0=some (.G5 0 0::args,[0]))(h3:HZ s [0]=some [cells L a e b n])
  (hk:∀f s1 nm tk tl i m G9 HI a' e' b' n',(Hh.mk f s1 nm tk tl i m G9 HI).WF->At L a'->((Hh.mk f s1 nm tk tl i m G9 HI).wt:Int)+mu L a' e'<=W+mu L a e->
   k (.agg [I f,I s1,.HK nm,I tk,I tl,I i,I m,.HC (Hh.G1 G9),I HI]) (s.set 0 (.box (cells L a' e' b' n')))):Hb BW f vs s k:=
 PF.call h h1 h3 λr a' e' b' n' h=>by
  exact Af9
def mr(hL:JM L)(ha:At L a){f s1:Int}{nm:BA}{tk tl i m:Int}{G9:List Hh}{HI:Int}(hw:(Hh.mk f s1 nm tk tl i m G9 HI).WF):
  PEx L 178 [.agg [I f,I s1,.HK nm,I tk,I tl,I i,I m,.HC (Hh.G1 G9),I HI]] ((Hh.mk f s1 nm tk tl i m G9 HI).wt) a e b n:=by
 obtain⟨k,hk⟩:=sk hL (mu L a e).toNat (a:=a) (e:=e) (b:=b) (n:=n) ha AK hw λr a' e' b' n' h=>h;refine AJa 0 rfl _ _ ?_;unfold ASS;refine zv ?_;refine⟨k,?_⟩;exact I3 (gI 0 1 _ k _ _ _) rfl rfl rfl rfl λK3=>hk rfl K3
end
end
section
open Go.Proofs
def JN{s:St}{b e eo:Nat}{G1:LLP}(h:s.heap b=some (.Hm G1.length eo))(he:G1=[]\/eo=e+1)(hr:∀r∈G1,r.length=e+1):VO (e+1) s (.H6 b G1)=some (.H6 (e+1) G1):=by
 cases G1 with
 |nil=>rfl
 |cons r l=>
  have he:eo=e+1:=by simpa using he
  subst he;simp only[VO,h];have:(r::l).all (λr=>Bo r.length (e+1))=true:=CV.2 λx hx=>by rw[hr x hx];exact Fb _
  rw[this];simp only[Fb,Bool.and_true,Bool.true_and,C5];rw[show Ct (Nat.succ 0) (e+1)=true from EO AA];rfl
def Hh.SS{l:List Hh}:∀r∈Hh.G1 l,r.length=9:=by intro r hr;rw[Hh.Jc]at hr;exact Ahx
def H8{G1:LLP}{n:Nat}(h:∀r∈G1,r.length=n):G1.all (λr=>Bo r.length n)=true:=CV.2 λx hx=>by rw[h x hx];exact Fb _
def Hl{n b:Nat}(h:n<=100000)(hb:b<=200):Go.Ab.JE n b=true:=by unfold Go.Ab.JE;have h1:n*b<=100000*200:=Nat.mul_le_mul h hb;rw[EO AA,EO AA];rfl
section
variable{L:List PT} {a e b n:Int}
def ACz(hL:JM L){M n0:Int}(xW:0<=n0)(ATv:n0<=16)(Sk:RH L 167 [] M){Q:PV->Int->Int->Int->Int->Prop}:∀(c:Nat) {a e b n:Int} (ha:At L a) (hm:mu L a e<=M) (hc:mu L a e<=c) (l:List Hh) (hw:∀x∈l,x.WF) (II:l.length<=16) {eo:Nat} (XA:Hh.G1 l=[]\/eo=9)
   (hQ:∀l' a' e' b' n',(∀x∈l',x.WF)->l'.length<=16->At L a'->(Hh.Il l':Int)+mu L a' e'<=Hh.Il l+mu L a e->Q (.H6 9 (Hh.G1 l')) a' e' b' n'),
   ∃k,∀(hp:HO) (o1:Obj),gJ 9 1 (λr c=>∃a' e' b' n',c=[cells L a' e' b' n']/\Q r a' e' b' n') k (.G5 0 0) (I n0) (.H6 2 (Hh.G1 l))
    (SU [.box (cells L a e b n),o1,.Hm (Hh.G1 l).length eo] hp 3):=by
 intro c
 induction c with
 |zero=>
  intro a e b n ha hm hc l hw II eo XA hQ;have he:e≠0:=λh=>by have:=P9 ha h;omega
  exact AgP
 |succ c ih=>
  intro a e b n ha hm hc l hw II eo XA hQ;by_cases he:e=0
  case neg=>
   exact AgP
  case pos=>
   have tx:(Hh.G1 l).length=l.length:=by rw[Hh.Jc,BX]
   have zK:IntKind.i64.wrap (n0+↑(Hh.G1 l).length)=n0+l.length:=by rw[tx];exact Hr AA AA
   by_cases LL:(16:Int)<=IntKind.i64.wrap (n0+↑(Hh.G1 l).length)
   .obtain⟨e1,b1,OR,K4⟩:=Oj (b:=b) (n:=n) (e:=e) hL ha LL;refine⟨1,λhp o1=>?_⟩;show Ql _ _ _ _ _ _ _ _;unfold Ql;refine zv ?_;refine Gw (λh=>?_) Ada;refine zv ?_;refine AbZ K4 ?_;refine HB rfl AfD rfl ⟨_,_,_,_,rfl,hQ _ _ _ _ _ hw II (At.QS hL) AG⟩
   .have K4:=Oi (b:=b) (n:=n) (e:=e) hL ha (EF.1 LL);have hl15:l.length<16:=by rw[zK]at LL;omega
    obtain⟨r,cc,Jh,a2,e2,b2,n2,rfl,f2,s2,ax,az,bA,i2,m2,MV,OV,rfl,Uu,My,NZ⟩:=Sk a e b n ha hm
    have Nq:Hh.G1 (l++[.mk f2 s2 ax az bA i2 m2 MV OV])=Hh.G1 l++[[I f2,I s2,.HK ax,I az,I bA,I i2,I m2,.HC (Hh.G1 MV),I OV]]:=by
     rw[Hh.Jc,Hh.Jc,Br];rfl
    have fK:Hh.Il (l++[.mk f2 s2 ax az bA i2 m2 MV OV])=Hh.Il l+(Hh.mk f2 s2 ax az bA i2 m2 MV OV).wt:=by rw[Hh.Io];simp[Hh.Il]
    have Qy:∀x∈l++[.mk f2 s2 ax az bA i2 m2 MV OV],Hh.WF x:=by
     intro x hx;exact Afq
    have vV:(l++[Hh.mk f2 s2 ax az bA i2 m2 MV OV]).length<=16:=by simp;omega
    have hf:Go.Ab.JE ((Hh.G1 l).length+1) 96=true:=Hl AA AA;cases cV:VC L a2 e2 ⟨#[44]⟩with
    |false=>
     refine⟨1,λhp o1=>?_⟩;show Ql _ _ _ _ _ _ _ _;unfold Ql;refine zv ?_;refine Gw (λh=>?_) Ada;refine zv ?_;refine AbZ K4 ?_;refine AbZ Jh ?_;refine pQ_v Ady ?_;refine AbZ (O5 hL My cV) ?_;rw[<- Nq];refine HB rfl (JN (eo:=9) AcC (.inr rfl) Hh.SS) rfl ⟨_,_,_,_,rfl,hQ _ _ _ _ _ Qy vV My AdS⟩
    |true=>
     obtain⟨ar,UP⟩:=NA hL My cV;have H5:mu L (a2+1) e2<mu L a2 e2:=by rw[IE ar,IE ar];omega
     obtain⟨k,hk⟩:=ih (e:=e2) (b:=b2) (n:=n2) UP AA AA _ Qy vV (eo:=9) (.inr rfl) λl' a' e' b' n' h1 h2 h3 h4=>hQ l' a' e' b' n' h1 h2 h3 Acp;refine⟨k+1,λhp o1=>?_⟩;show Ql _ _ _ _ _ _ _ _;unfold Ql;refine zv ?_;refine Gw (λh=>?_) Ada;refine zv ?_;refine AbZ K4 ?_;refine AbZ Jh ?_;refine pQ_v Ady ?_;refine AbZ (O6 hL My cV) ?_;rw[<- Nq];exact I3 (gJ 9 1 _ k _ _ _) rfl rfl AcC rfl λK3=>hk K3 _
def PXs(L:List PT)(f:Nat)(args:LP)(a e b n:Int):Prop:=PF L f args a e b n λr a' e' b' n'=>∃l:List Hh,r=.H6 9 (Hh.G1 l)/\(∀x∈l,x.WF)/\l.length<=16/\At L a'/\(Hh.Il l:Int)+mu L a' e'<=mu L a e
def rh(hL:JM L){M n0:Int}(xW:0<=n0)(ATv:n0<=16)(Sk:RH L 167 [] M)(ha:At L a)(hm:mu L a e<=M):PXs L 181 [I n0] a e b n:=by
 obtain⟨k,hk⟩:=ACz hL xW ATv Sk (mu L a e).toNat (a:=a) (e:=e) (b:=b) (n:=n) ha hm AK [] AD AD (eo:=0) (.inl rfl)
  (Q:=λr a' e' b' n'=>∃l:List Hh,r=.H6 9 (Hh.G1 l)/\(∀x∈l,x.WF)/\l.length<=16/\At L a'/\(Hh.Il l:Int)+mu L a' e'<=mu L a e) λl' a' e' b' n' h1 h2 h3 h4=>⟨l',rfl,h1,h2,h3,by simpa[Hh.Il]using h4⟩
 refine AJd 9 rfl _ _ ?_;unfold ASV;refine zv ?_;refine⟨k,?_⟩;exact I3 (gJ 9 1 _ k _ _ _) rfl rfl rfl rfl λK3=>hk K3 _
def AAw(hL:JM L){M:Int}(Sk:RH L 167 [] M)(ha:At L a)(hm:mu L a e<=M):PXs L 180 [] a e b n:=by
 refine AJc 9 rfl _ ?_;unfold ASU;refine zv ?_;refine Ib hL rfl ha λa1 e1 b1 h1=>?_;have sT:=h1.le ha;refine zv ?_;refine Qo rfl h1.1 ?_;refine zv ?_;cases hi:VC L a1 e1 ⟨#[41]⟩
 .refine zv ?_;refine(rh hL AA AA Sk h1.1 AA).call rfl rfl λr a2 e2 b2 n2 h2=>?_;obtain⟨l,rfl,hw,II,My,NZ⟩:=h2;refine zv ?_;unfold eE;refine Ib hL rfl My λa3 e3 b3 h3=>?_;refine zv ?_;refine HB rfl (JN (eo:=9) rfl (.inr rfl) Hh.SS) rfl ⟨_,_,_,_,rfl,l,rfl,hw,II,h3.1,by have:=h3.le My;omega⟩
 .refine zv ?_;unfold eE;refine Ib hL rfl h1.1 λa3 e3 b3 h3=>?_;refine zv ?_;refine HB rfl rfl rfl ⟨_,_,_,_,rfl,[],rfl,AD,AD,h3.1,by have:=h3.le h1.1;simp only[Hh.Il];omega⟩
end
end
section
open Go.Proofs
def AUm{P:Cc}{s:St}{t:Bm}{k:IntKind}{x y:Int}(h:y≠0):I0 (H7 P .rem t (.int k x) (.int k y)) s (.int k (x.tmod y)) s [] []:=Ho (by simp[al,AGR,h])
def AMv{P:Cc}{s:St}{t:Bm}{k:IntKind}{x y:Int}(h:y≠0):I0 (H7 P .quo t (.int k x) (.int k y)) s (.int k (k.wrap (x.tdiv y))) s [] []:=Ho (by simp[al,AGR,h])
def xP(k:Int):∃w:Int,PC BW 152 [I k] [] (I w) []/\0<=w/\(w<=32\/w=64):=by
 have:PQ BW 152 [I k] [] (λr c=>c=[]/\∃w:Int,r=I w/\0<=w/\(w<=32\/w=64)):=by
  refine AJG 0 rfl _ ?_;unfold AR8
  repeat' first
   |exact HB rfl rfl rfl ⟨rfl,_,rfl,AA,AA⟩
   |(refine AWG ?_ ?_)
   |(unfold rD)
   |(unfold rE)
   |(unfold jn)
   |(unfold jo)
   |refine zv ?_
 exact AkA
def dL(k:Int):∃w:Bool,PC BW 155 [I k] [] (.bool w) []:=by
 have:PQ BW 155 [I k] [] (λr c=>c=[]/\∃w:Bool,r=.bool w):=by
  refine AJI 0 rfl _ ?_;unfold ASA;refine zv ?_;cases h:decide (k>=2)
  .exact Akv
  .exact Akv
 exact Agh
def z5{N:Int}(hN:N<=32)(h0:0<=N){Q:PV->LLP->Prop}(hQ:Q (I (2^N.toNat)) []):∀(c:Nat) {i p:Int},0<=i->i<=N->p=2^i.toNat->N-i<=c->∃k,∀s,rG 0 0 Q k (I N) (I p) (I i) s:=by
 intro c
 induction c with
 |zero=>
  intro i p hi hiN hp hc;have he:i=N:=AA;subst he;refine⟨1,λs=>?_⟩;show WQ _ _ _ _ _ _ _ _;unfold WQ;refine zv ?_;refine Gw Ad2 λh=>?_;exact Ajc
 |succ c ih=>
  intro i p hi hiN hp hc;by_cases H5:i<N
  .have hs:=Abg i
   have h2:(2:Int)^i.toNat<=2^32:=by
    exact_mod_cast Nat.pow_le_pow_right AA (show i.toNat<=32 by omega)
   have h3:(0:Int)<2^i.toNat:=by exact_mod_cast Nat.pow_pos AA
   have fG:IntKind.i64.wrap (2*p)=2^(IntKind.i64.wrap (i+1)).toNat:=by
    rw[hs,Hr AA AA,hp,show(i+1).toNat=i.toNat+1 by omega,Int.pow_succ];omega
   obtain⟨k,hk⟩:=ih (i:=IntKind.i64.wrap (i+1)) (p:=IntKind.i64.wrap (2*p)) AA AA fG AA;refine⟨k+1,λs=>?_⟩;show WQ _ _ _ _ _ _ _ _;unfold WQ;refine zv ?_;refine Gw (λh=>?_) λh=>Zq H5 (Zy h);refine zv ?_;exact hk _
  .have he:i=N:=AA;subst he;refine⟨1,λs=>?_⟩;show WQ _ _ _ _ _ _ _ _;unfold WQ;refine zv ?_;refine Gw Ae7 λh=>?_;exact Ajc
def AHP{N:Int}(hN:N<=32)(h0:0<=N):PC BW 154 [I N] [] (I (2^N.toNat)) []:=by
 have:PQ BW 154 [I N] [] (λr c=>r=I (2^N.toNat)/\c=[]):=by
  obtain⟨k,hk⟩:=z5 hN h0 (Q:=λr c=>r=I (2^N.toNat)/\c=[]) ⟨rfl,rfl⟩ N.toNat (i:=0) (p:=1) AA h0 (by rfl) AA;refine AJH 0 rfl _ ?_;unfold AR9;exact⟨k,hk _⟩
 exact Afg
def ACR(k i:Int):∃w:Int,PC BW 128 [I k,I i] [] (I w) []:=by
 obtain⟨w,hw,hw0,zJ⟩:=xP k;obtain⟨sg,hsg⟩:=dL k
 have:PQ BW 128 [I k,I i] [] (λr c=>c=[]/\∃w:Int,r=I w):=by
  refine AI4 0 rfl _ _ ?_;unfold ARw;refine AbZ hw ?_;refine Gw (λh=>?_) λh=>?_
  .exact Af7
  refine zv ?_;refine Gw (λh=>?_) λh2=>?_
  .exact Akv
  have AYD:w<=32:=by
   rcases zJ with h3|h3
   .exact h3
   .exact Zq h3 AcT
  refine AbY (AHP AYD hw0) ?_
  have hp:(2:Int)^w.toNat≠0:=by
   have:(0:Int)<2^w.toNat:=by exact_mod_cast Nat.pow_pos AA
   omega
  have AUV:∀(x:Int) (s:St),HZ s (Bw 0)=some []->dx 0 0 (λr c=>c=[]/\∃w:Int,r=I w) (I k) (I (2^w.toNat)) (I x) s:=by
   intro x s hs;unfold dx;refine AbY hsg ?_;cases sg
   .refine zv ?_;exact AgQ
   .refine zv ?_;refine Aah (AMv AA) ?_;refine Gw (λh=>?_) λh=>?_
    .refine zv ?_;exact AgQ
    .refine zv ?_;exact AgQ
  refine zv ?_;refine pQ_v (AUm hp) ?_;refine Gw (λh=>?_) λh=>?_
  .refine zv ?_;exact AUV _ _ rfl
  .exact AUV _ _ rfl
 exact Agh
end
section
open Go.Proofs
section
variable{L:List PT} {a e b n:Int}
def Zg{f s tk tl i m HI:Int}{x:Hh}{nm:BA}(hf:f=3/\(s=1\/s=2)\/f=6\/f=9\/f=11\/f=17)(ht:0<=tk/\tk<=9)(h:x.WF):(Hh.mk f s nm tk tl i m [x] HI).WF:=by
 refine .mk _ _ _ _ _ _ _ _ _ ⟨?_,?_,?_,?_,?_⟩ AA AA AA ht Al
 all_goals simp
 all_goals omega
def Uy{f s tk tl i m HI:Int}{nm:BA}(hf:f=0\/f=1\/f=2\/f=12)(ht:0<=tk/\tk<=9):(Hh.mk f s nm tk tl i m [] HI).WF:=by
 refine .mk _ _ _ _ _ _ _ _ _ ⟨?_,?_,?_,?_,?_⟩ AA AA AA ht AD
 all_goals simp
 all_goals omega
def AD5(hL:JM L){M:Int}(hun:uI L 175 [] M)(AT6:RH L 179 [] M):RH L 177 [] M:=by
 intro a e b n ha hm;refine AJZ 0 rfl _ ?_;unfold ASR;refine zv ?_;refine Of rfl ha ?_;refine zv ?_;refine Mp hL rfl ha (λYx=>?_) λYx he Me=>?_
 .refine zv ?_;refine Mp hL rfl ha (λsW=>?_) λsW he Me=>?_
  .refine zv ?_;refine Mp hL rfl ha (λcV=>?_) λcV he Me=>?_
   .refine zv ?_;refine(AT6 a e b n ha hm).call rfl rfl λf s1 nm tk tl i m G9 HI a1 e1 b1 n1 hw Me pg=>?_;refine zv ?_;refine(mr hL Me hw).call rfl rfl λf s1 nm tk tl i m G9 HI a2 e2 b2 n2 Uu My NZ=>?_;exact Ah2
   .have H5:mu L (a+1) e<mu L a e:=by rw[IE he,IE he];omega
    refine zv ?_;refine Of rfl Me ?_;refine zv ?_;cases h0:e==0
    .exact Zq he (by simpa using h0)
    refine zv ?_
    have ABx:∀(s:St) (k:F1),HZ s [0]=some [cells L (a+1) e b n]->(∀f s1 nm tk tl i m G9 HI a' e' b' n',(Hh.mk f s1 nm tk tl i m G9 HI).WF->At L a'->((Hh.mk f s1 nm tk tl i m G9 HI).wt:Int)+mu L a' e'<=mu L (a+1) e->
     k (.agg [I f,I s1,.HK nm,I tk,I tl,I i,I m,.HC (Hh.G1 G9),I HI]) (s.set 0 (.box (cells L a' e' b' n'))))->Hb BW 175 [.G5 0 0] s k:=λs k h3 hk=>(hun (a+1) e b n Me AA).call rfl h3 hk
    cases h1:(IG L (a+1)).kind==2
    .exact Af1
    .refine zv ?_;cases h2:decide ((IG L (a+1)).tk>0)
     .exact Af1
     .refine zv ?_;have Jr:(IG L (a+1)).kind=2:=by simpa using h1
      have ha2':=hL.QS (a+1) Me AA;have My:At L (a+1+1):=by unfold At at*;omega
      obtain⟨w,hw⟩:=ACR (IG L (a+1)).tk (IntKind.i64.wrap (0-(IG L (a+1)).n));refine AYj hw ?_;refine⟨by kernel_rfl,?_⟩;refine zv ?_;have hs:=QC hL Me;have AKK:mu L (a+1+1) e<mu L (a+1) e:=by rw[IE he,IE he];omega
      refine(mr (a:=IntKind.i64.wrap (a+1+1)) (e:=e) (b:=b) (n:=n) (f:=1) (s1:=0) (nm:=⟨#[]⟩) (tk:=(IG L (a+1)).tk) (tl:=(IG L (a+1)).tl) (i:=w) (m:=0) (G9:=[]) (HI:=(IG L a).HI) hL AcK (Uy AA (hL.tk _ Me))).call rfl rfl λf s1 nm tk tl i m G9 HI a2 e2 b2 n2 Uu My NZ=>?_;rw[hs]at NZ;have oa:=Int.le_trans NZ (Int.add_le_add_right (Int.ofNat_le.2 AQv) _);exact Ah2
  .refine zv ?_;have H5:mu L (a+1) e<mu L a e:=by rw[IE he,IE he];omega
   refine(hun (a+1) e b n Me AA).call rfl rfl λf s1 nm tk tl i m G9 HI a1 e1 b1 n1 hw Me pg=>?_;refine zv ?_;refine HB AdY rfl rfl ⟨_,_,_,_,rfl,6,0,_,0,0,0,0,[.mk f s1 nm tk tl i m G9 HI],_,rfl,Zg AA AA hw,Me,wl1 AA⟩
 .refine zv ?_;have H5:mu L (a+1) e<mu L a e:=by rw[IE he,IE he];omega
  refine(hun (a+1) e b n Me AA).call rfl rfl λf s1 nm tk tl i m G9 HI a1 e1 b1 n1 hw Me pg=>?_;refine zv ?_;refine HB AdY rfl rfl ⟨_,_,_,_,rfl,3,1,_,0,0,0,0,[.mk f s1 nm tk tl i m G9 HI],_,rfl,Zg AA AA hw,Me,wl1 AA⟩
end
end
section
open Go.Proofs
def ADT(w:BA){G1:LLP}(Nq:G1.length=9)(hr:∀i,i<9->∃t,G1[i]?=some [.HK t]){Q:PV->LLP->Prop}(hQ:∀p:Int,0<=p->p<=9->Q (I p) []):
  ∀(c:Nat) {i:Int},0<=i->i<=9->9-i<=c->∃k,∀s,kY 0 0 Q k (.HK w) (.HC G1) (I i) s:=by
 intro c
 induction c with
 |zero=>
  intro i hi hi9 hc;exact Ags
 |succ c ih=>
  intro i hi hi9 hc;have hs:=Abg i;by_cases H5:i<9
  .obtain⟨k,hk⟩:=ih (i:=IntKind.i64.wrap (i+1)) AA AA AA;obtain⟨t,ht⟩:=hr i.toNat AA;refine⟨k+1,λs=>?_⟩;show WO _ _ _ _ _ _ _ _;unfold WO;refine zv ?_;refine Gw (λh=>?_) (λh=>Zq (Zy h) AA);refine pQ_v (HU hi ht rfl) ?_;refine Gw (λh=>?_) λh=>?_
   .refine zv ?_;exact HB rfl rfl rfl (hQ _ AA AA)
   .refine zv ?_;exact hk _
  .exact Ags
def AKf{w:BA}{G1:LLP}{Q:PV->LLP->Prop}{s:St}(Nq:G1.length=9)(hr:∀i,i<9->∃t,G1[i]?=some [.HK t])(hQ:∀p:Int,0<=p->p<=9->Q (I p) []):
  ∃k,kY 0 0 Q k (.HK w) (.HC G1) (I 0) s:=by
 obtain⟨k,hk⟩:=ADT w Nq hr hQ 9 (i:=0) AA AA AA;exact⟨k,hk s⟩
def so(w:BA):∃p:Int,PC BW 142 [.HK w] [] (I p) []/\0<=p/\p<=9:=by
 have:PQ BW 142 [.HK w] [] (λr c=>c=[]/\∃p:Int,r=I p/\0<=p/\p<=9):=by
  refine AI8 0 rfl _ ?_;unfold AR0;refine zv ?_;refine AKf rfl ?_ λp h1 h2=>⟨rfl,p,rfl,h1,h2⟩
  intro i hi
  match i,hi with
  |0,_=>exact⟨_,rfl⟩
  |1,_=>exact⟨_,rfl⟩
  |2,_=>exact⟨_,rfl⟩
  |3,_=>exact⟨_,rfl⟩
  |4,_=>exact⟨_,rfl⟩
  |5,_=>exact⟨_,rfl⟩
  |6,_=>exact⟨_,rfl⟩
  |7,_=>exact⟨_,rfl⟩
  |8,_=>exact⟨_,rfl⟩
 obtain⟨r,c,I5,rfl,p,rfl,h⟩:=this;exact⟨p,I5,h⟩
section
variable{L:List PT} {a e b n:Int}
def wG(hL:JM L)(ha:At L a):PF L 163 [] a e b n (λr a' e' b' n'=>n'=n/\(∃w:Int,r=I w/\0<=w/\w<=9)/\WD L a e a' e'):=by
 obtain⟨p,hp,hp0,hp9⟩:=so (IG L a).Q7;refine AJM 0 rfl _ ?_;unfold ASE;refine Of rfl ha ?_;refine zv ?_;cases h:e !=0
 .have he:e=0:=by simpa using h
  refine zv ?_;cases h1:(IG L a).kind !=3
  .have hk:(IG L a).kind=3:=by simpa using h1
   have oE:=hL.QS a ha AA;refine zv ?_;refine AYj hp ?_;cases h2:p==0
   .refine zv ?_;refine AbZ hp ?_;refine HB rfl rfl rfl ⟨_,_,_,_,rfl,rfl,⟨_,rfl,hp0,hp9⟩,?_⟩;rw[QC hL ha];exact Zi Acg he
   .exact Afw
  .exact Afw
 .exact Afw
def ACl{s:St}{k:F1}(hL:JM L)(h3:HZ s [0]=some [cells L a e b n])(ha:At L a)(hk:∀w a' e' b',0<=w->w<=9->WD L a e a' e'->k (I w) (s.set 0 (.box (cells L a' e' b' n)))):Hb BW 163 [.G5 0 0] s k:=(wG hL ha).call rfl h3 λr a' e' b' n' h=>by obtain⟨rfl,⟨w,rfl,h0,h9⟩,h⟩:=h;exact hk w a' e' b' h0 h9 h
def AA1(hL:JM L)(ha:At L a):PF L 165 [] a e b n (λr a' e' b' n'=>n'=n/\(∃g:Edge,r=.agg g.Gy)/\WD L a e a' e'):=by
 refine AJO 0 rfl _ ?_;unfold ASG;refine zv ?_;refine Mp hL rfl ha (λhm=>?_) λhm he Me=>?_
 .refine zv ?_;refine O1 hL rfl ha λw a' e' b' h=>?_;refine zv ?_;refine HB AdY rfl rfl ⟨_,_,_,_,rfl,rfl,⟨⟨w,true⟩,rfl⟩,h⟩
 .refine zv ?_;refine O1 hL rfl Me λw a' e' b' h=>?_;refine zv ?_;refine HB AdY rfl rfl ⟨_,_,_,_,rfl,rfl,⟨⟨w,false⟩,rfl⟩,h.1,λ_=>?_,λMT=>Zq he MT⟩;have:=h.2.1 he;rw[IE he]at this⊢;omega
end
end
section
open Go.Proofs
section
variable{L:List PT} {a e b n:Int}
def AJl(hL:JM L)(ha:At L a):∃(g:Edge) (a' e' b':Int),PC BW 165 [.G5 0 0] [cells L a e b n] (.agg g.Gy) [cells L a' e' b' n]/\WD L a e a' e':=by obtain⟨r,c,I5,a',e',b',n',hc,hn,⟨g,hr⟩,sQ⟩:=AA1 (b:=b) (n:=n) (e:=e) hL ha;rw[hn]at hc;rw[hr,hc]at I5;exact⟨g,a',e',b',I5,sQ⟩
def NG{l:List Edge}:∀r∈l.map Edge.Gy,r.length=2:=AhU
def yS(hL:JM L){Q:PV->Int->Int->Int->Int->Prop}:∀(c:Nat) {a e b n:Int} (ha:At L a) (hc:mu L a e<=c) (l:List Edge) (II:l.length<=16) {eo:Nat} (XA:l.map Edge.Gy=[]\/eo=2)
   (hQ:∀(l':List Edge) a' e' b',l'.length<=17->(e=0->0<l'.length)->At L a'->mu L a' e'<=mu L a e->Q (.H6 2 (l'.map Edge.Gy)) a' e' b' n),
   ∃k,∀(hp:HO) (o1:Obj),gH 2 1 (λr c=>∃a' e' b' n',c=[cells L a' e' b' n']/\Q r a' e' b' n') k (.G5 0 0) (.H6 2 (l.map Edge.Gy))
    (SU [.box (cells L a e b n),o1,.Hm (l.map Edge.Gy).length eo] hp 3):=by
 intro c
 induction c with
 |zero=>
  intro a e b n ha hc l II eo XA hQ;have he:e≠0:=λh=>by have:=P9 ha h;omega
  exact AgC
 |succ c ih=>
  intro a e b n ha hc l II eo XA hQ;by_cases he:e=0
  case neg=>
   exact AgC
  case pos=>
   obtain⟨g,a1,e1,b1,K4,XZ⟩:=AJl (b:=b) (n:=n) (e:=e) hL ha;have Me:=XZ.1;have sT:=XZ.2.1 he;have Nq:(l++[g]).map Edge.Gy=l.map Edge.Gy++[g.Gy]:=AD;have vV:(l++[g]).length<=17:=by simp;omega
   have hf:Go.Ab.JE ((l.map Edge.Gy).length+1) 24=true:=Hl AB AA;cases sW:VC L a1 e1 ⟨#[97,110,100]⟩with
   |false=>
    refine⟨1,λhp o1=>?_⟩;show Qj _ _ _ _ _ _ _;unfold Qj;refine zv ?_;refine Gw (λh=>?_) Ada;refine AbZ K4 ?_;refine pQ_v Adk ?_;have h2:=jM (e:=e1) (b:=b1) (n:=n) Me ⟨#[97,110,100]⟩;rw[sW]at h2;refine AbZ h2 ?_;rw[<- show(l++[g]).map Edge.Gy=l.map Edge.Gy++[[.HK g.name,.bool g.on]]from Nq];refine HB rfl Ae5 rfl ⟨_,_,_,_,rfl,hQ _ _ _ _ vV (λ_=>by simp) Me AA⟩
   |true=>
    obtain⟨OR,My⟩:=NA hL Me sW;have hs:=QC hL Me;have H5:mu L (a1+1) e1<mu L a1 e1:=by rw[IE OR,IE OR];omega
    have h2:=jM (e:=e1) (b:=b1) (n:=n) Me ⟨#[97,110,100]⟩;rw[sW]at h2;have Xs:((l.map Edge.Gy++[[PV.HK g.name,BG g.on]]).length:Int)=l.length+1:=AD;by_cases LL:(16:Int)<=((l.map Edge.Gy++[[PV.HK g.name,BG g.on]]).length:Int)
    .obtain⟨e3,b3,he3,VA⟩:=Oj (b:=b1) (n:=n) (e:=e1) (a:=IntKind.i64.wrap (a1+1)) hL AcK LL;refine⟨1,λhp o1=>?_⟩;show Qj _ _ _ _ _ _ _;unfold Qj;refine zv ?_;refine Gw (λh=>?_) Ada;refine AbZ K4 ?_;refine pQ_v Adk ?_;refine AbZ h2 ?_;refine AbZ VA ?_;rw[<- show(l++[g]).map Edge.Gy=l.map Edge.Gy++[[.HK g.name,.bool g.on]]from Nq];refine HB rfl Ae5 rfl ⟨_,_,_,_,rfl,hQ _ _ _ _ vV (λ_=>by simp) (At.QS hL) (by rw[Lk he3];exact SL ha)⟩
    .have VA:=Oi (b:=b1) (n:=n) (e:=e1) (a:=IntKind.i64.wrap (a1+1)) hL AcK (EF.1 LL);obtain⟨k,hk⟩:=ih (a:=IntKind.i64.wrap (a1+1)) (e:=e1) (b:=b1) (n:=n) AcK AN (l++[g]) AB (eo:=2) (.inr rfl) λl' a' e' b' h1 h0 h2 h3=>hQ l' a' e' b' h1 (λ_=>h0 OR) h2 (by rw[hs]at h3;omega);refine⟨k+1,λhp o1=>?_⟩;show Qj _ _ _ _ _ _ _;unfold Qj;refine zv ?_;refine Gw (λh=>?_) Ada;refine AbZ K4 ?_;refine pQ_v Adk ?_;refine AbZ h2 ?_;refine AbZ VA ?_;rw[<- show(l++[g]).map Edge.Gy=l.map Edge.Gy++[[.HK g.name,.bool g.on]]from Nq];exact I3 (gH 2 1 _ k _ _) rfl rfl AcC rfl λK3=>hk K3 _
def AFR(hL:JM L)(ha:At L a):PF L 160 [] a e b n λr a' e' b' n'=>n'=n/\(∃l:List Edge,r=.H6 2 (l.map Edge.Gy)/\l.length<=17/\(e=0->0<l.length))/\Adv L a e a' e':=by
 obtain⟨k,hk⟩:=yS hL (mu L a e).toNat (a:=a) (e:=e) (b:=b) (n:=n) ha AK [] AD (eo:=0) (.inl rfl)
  (Q:=λr a' e' b' n'=>n'=n/\(∃l:List Edge,r=.H6 2 (l.map Edge.Gy)/\l.length<=17/\(e=0->0<l.length))/\Adv L a e a' e') λl' a' e' b' h1 h0 h2 h3=>⟨rfl,⟨l',rfl,h1,h0⟩,h2,h3⟩
 refine AJJ 2 rfl _ ?_;unfold ASB;refine zv ?_;refine⟨k,?_⟩;exact I3 (gH 2 1 _ k _ _) rfl rfl rfl rfl λK3=>hk K3 _
end
end
section
open Go.Proofs
section
variable{L:List PT} {a e b n:Int}
def tq{f s tk tl i m HI:Int}{nm:BA}{G9:List Hh}(hf:f=13\/f=15\/f=18)(ht:0<=tk/\tk<=9)(h:∀x∈G9,x.WF)(hl:G9.length<=17):(Hh.mk f s nm tk tl i m G9 HI).WF:=by
 refine .mk _ _ _ _ _ _ _ _ _ ⟨?_,?_,?_,?_,?_⟩ AA AA AA ht h
 all_goals omega
def ACf(hL:JM L)(ha:At L a):PF L 161 [] a e b n (λr a' e' b' n'=>n'=n/\a'=a/\e'=e/\b'=b/\((r=.bool false)\/(r=.bool true/\e=0))):=by
 refine AJK 0 rfl _ ?_;unfold ASC;refine zv ?_;cases h:e !=0
 .have he:e=0:=by simpa using h
  refine zv ?_;refine Qo rfl ha ?_;refine zv ?_;refine Qo rfl ha ?_;refine zv ?_;cases h1:VC L a e ⟨#[97,117,116,111,109,97,116,111,110]⟩
  .refine zv ?_;cases h2:VC L a e ⟨#[40]⟩
   .refine zv ?_;refine ACi rfl ha ?_;refine zv ?_;cases h3:(IG L a).kind==1
    .exact AjJ
    .exact Agw
   .refine zv ?_;exact Agw
  .refine zv ?_;exact Agw
 .refine zv ?_;exact AjJ
def ALD(hL:JM L){M:Int}(Sk:uI L 167 [] M)(AUQ:∀a e b n,At L a->mu L a e<=M->e=0->At L (a+1)->∀t:PT,PE L 182 [.agg t.Gy] a e b n):RH L 179 [] M:=by
 intro a e b n ha hm;refine AJb 0 rfl _ ?_;unfold AST;refine zv ?_;refine Of rfl ha ?_;refine zv ?_;refine Gw (λh=>?_) λh=>?_
 .refine zv ?_;refine HB AdY rfl rfl ⟨_,_,_,_,rfl,_,_,_,_,_,_,_,_,_,rfl,PI,ha,wlz (C3 _)⟩
 have he:e=0:=by simpa using h
 refine zv ?_;refine Gw (λh1=>?_) λh1=>?_
 .have hk:(IG L a).kind=1:=by simpa using h1
  have oE:=hL.QS a ha AA;have hs:=QC hL ha;have Me:At L (a+1):=by unfold At at*;omega
  refine zv ?_;refine Qo (a:=IntKind.i64.wrap (a+1)) rfl AM ?_;refine zv ?_;refine Gw (λh2=>?_) λh2=>?_
  .refine zv ?_;have H5:mu L (a+1) e<mu L a e:=by rw[IE he,IE he];omega
   refine(AAw (a:=IntKind.i64.wrap (a+1)) (M:=mu L (a+1) e) hL (λa e b n h1 h2=>Sk a e b n h1 AA) AM AN).call rfl rfl λr a2 e2 b2 n2 h3=>?_;obtain⟨l,rfl,hw,II,My,NZ⟩:=h3;rw[hs]at NZ;refine zv ?_;refine HB AdY rfl rfl ⟨_,_,_,_,rfl,13,0,_,0,0,0,0,l,_,rfl,tq AA AA hw AA,My,wlL AA⟩
  .refine zv ?_;refine HB AdY rfl rfl ⟨_,_,_,_,rfl,2,0,_,0,0,0,0,[],_,rfl,Uy AA AA,by rw[hs];exact Me,wl0 Ab9⟩
 have bad:∀(s:St) (k:F1),True:=λ_ _=>trivial;refine zv ?_;refine Gw (λh2=>?_) λh2=>?_
 .have hk:(IG L a).kind=2:=by simpa using h2
  have oE:=hL.QS a ha AA;have hs:=QC hL ha;have Me:At L (a+1):=by unfold At at*;omega
  obtain⟨sg,hsg⟩:=dL (IG L a).tk;refine zv ?_;refine AbY hsg ?_;cases sg
  .exact Akr
  .refine zv ?_;cases h4:decide ((IG L a).n<0)
   .exact Akr
   .refine zv ?_;cases h3:(IG L a).tk==0
    all_goals
     refine zv ?_;exact AfO
 refine zv ?_;refine Gw (λh3=>?_) λh3=>?_
 .have hk:(IG L a).kind=4:=by simpa using h3
  have oE:=hL.QS a ha AA;have hs:=QC hL ha;have Me:At L (a+1):=by unfold At at*;omega
  have H5:mu L (a+1) e<mu L a e:=by rw[IE he,IE he];omega
  refine zv ?_;refine Gw (λh4=>?_) λh4=>?_
  .refine zv ?_;refine(Sk (IntKind.i64.wrap (a+1)) e b n AM AN).call rfl rfl λf s1 nm tk tl i m G9 HI a2 e2 b2 n2 Uu My NZ=>?_;rw[hs]at NZ;refine zv ?_;refine Ib hL rfl My λa3 e3 b3 h5=>?_;have:=h5.le My;refine zv ?_;refine HB AdY rfl rfl ⟨_,_,_,_,rfl,f,s1,nm,tk,tl,i,m,G9,HI,rfl,Uu,h5.1,AA⟩
  .refine zv ?_;refine Gw (λh5=>?_) λh5=>?_
   .refine zv ?_;refine(rh (a:=IntKind.i64.wrap (a+1)) (M:=mu L (a+1) e) hL AA AA (λa e b n h1 h2=>Sk a e b n h1 AA) AM AN).call rfl rfl λr a2 e2 b2 n2 h6=>?_;obtain⟨l,rfl,hw,II,My,NZ⟩:=h6;rw[hs]at NZ;refine zv ?_;refine Ib hL rfl My λa3 e3 b3 h7=>?_;have:=h7.le My;refine zv ?_;refine HB AdY rfl rfl ⟨_,_,_,_,rfl,15,0,_,0,0,0,0,l,_,rfl,tq AA AA hw AA,h7.1,wlL AA⟩
   .unfold eD;exact AfO
 refine zv ?_;refine Gw (λh4=>?_) λh4=>?_
 .have hk:(IG L a).kind=3:=by simpa using h4
  have oE:=hL.QS a ha AA;have Me:At L (a+1):=by unfold At at*;omega
  refine zv ?_;refine(AUQ a e b n ha hm he Me (IG L a)).call rfl rfl λf s1 nm tk tl i m G9 HI a2 e2 b2 n2 Uu My NZ=>?_;refine zv ?_;refine HB AdY rfl rfl ⟨_,_,_,_,rfl,f,s1,nm,tk,tl,i,m,G9,HI,rfl,Uu,My,NZ⟩
 .unfold eD;exact AfO
end
end
section
open Go.Proofs
section
variable{L:List PT} {a e b n:Int}
def PE.lP{f:Nat}{args vs:LP}{s:St}{k:KL}(h:PE L f args a e b n)(h1:Js vs 0=some (.G5 0 0::args,[0]))(h3:HZ s [0]=some [cells L a e b n])
  (hk:∀f s1 nm tk tl i m G9 HI a' e' b' n',(Hh.mk f s1 nm tk tl i m G9 HI).WF->At L a'->((Hh.mk f s1 nm tk tl i m G9 HI).wt:Int)+mu L a' e'<=mu L a e->
   k (.agg [I f,I s1,.HK nm,I tk,I tl,I i,I m,.HC (Hh.G1 G9),I HI]) (s.set 0 (.box (cells L a' e' b' n'))) [] [0]):HP BW f vs s k:=
 PF.lP h h1 h3 λr a' e' b' n' h=>by
  exact Af9
def ACk{s:St}{k:F1}(hL:JM L)(h3:HZ s [0]=some [cells L a e b n])(ha:At L a)(hk:∀w o a' e' b',WD L a e a' e'->k (.agg [.HK w,.bool o]) (s.set 0 (.box (cells L a' e' b' n)))):Hb BW 165 [.G5 0 0] s k:=(AA1 hL ha).call rfl h3 λr a' e' b' n' h=>by obtain⟨rfl,⟨g,rfl⟩,h⟩:=h;exact hk g.name g.on a' e' b' h
def ACQ{f s i m:Int}{x y:Hh}{nm:BA}{HI:Int}(hf:f=10\/f=19)(hx:x.WF)(hy:y.WF):(Hh.mk f s nm 0 0 i m [x,y] HI).WF:=by
 refine .mk _ _ _ _ _ _ _ _ _ ⟨?_,?_,?_,?_,?_⟩ AA AA AA AA (by simp[hx,hy])
 all_goals simp
 all_goals omega
def AH8{i m:Int}{x:Hh}{l:List Hh}{nm:BA}{HI:Int}(hl:∀x∈l,x.WF)(hx:x.WF)(II:l.length<=16):(Hh.mk 14 0 nm 0 0 i m (l++[x]) HI).WF:=by
 refine .mk _ _ _ _ _ _ _ _ _ ⟨?_,?_,?_,?_,?_⟩ AA AA AA AA λk hk=>?_
 case refine_6=>
  rcases Bg.1 hk with h|h
  .exact hl k h
  .rw[CS.1 h];exact hx
 all_goals simp
 all_goals omega
def AE3{s:St}{f s1 tk tl i m HI:Int}{nm:BA}{kv:PV}{G9:List Hh}(h:kv.data=some (.HC (Hh.G1 G9))):
  (bif Bo 0 0 then QG (NF [.agg [I f,I s1,.HK nm,I tk,I tl,I i,I m,kv,I HI]])else VO 0 s (NF [.agg [I f,I s1,.HK nm,I tk,I tl,I i,I m,kv,I HI]]))=
   some (.agg [I f,I s1,.HK nm,I tk,I tl,I i,I m,.HC (Hh.G1 G9),I HI]):=by
 have:KR [I f,I s1,.HK nm,I tk,I tl,I i,I m,kv,I HI]=some [I f,I s1,.HK nm,I tk,I tl,I i,I m,.HC (Hh.G1 G9),I HI]:=by
  simp only[KR,h];rfl
 exact AhP
def Pl(hL:JM L){a5 e5 b5 n5:Int}(ha5:At L a5){f s1 tk tl i m HI:Int}{nm:BA}{G9:List Hh}(hw:(Hh.mk f s1 nm tk tl i m G9 HI).WF)(pg:((Hh.mk f s1 nm tk tl i m G9 HI).wt:Int)+mu L a5 e5<=mu L a e)
  {kv:PV}(hkv:kv.data=some (.HC (Hh.G1 G9)))(hks:kv.Iu=true){o1:Obj}{cs:LP}(Jw:cs.length=9){hp:HO}{nx:Nat}:
  KN 0 1 (λr c=>∃a' e' b' n',c=[cells L a' e' b' n']/\∃f s nm tk tl k m G9 HI,r=.agg [I f,I s,.HK nm,I tk,I tl,I k,I m,.HC (Hh.G1 G9),I HI]/\(Hh.mk f s nm tk tl k m G9 HI).WF/\At L a'/\((Hh.mk f s nm tk tl k m G9 HI).wt:Int)+mu L a' e'<=mu L a e)
   (.G5 0 0) (.G5 2 0) (.G5 3 0) (SU [.box (cells L a5 e5 b5 n5),o1,.box cs,.box [I f,I s1,.HK nm,I tk,I tl,I i,I m,kv,I HI]] hp nx):=by
 unfold KN;refine Ib hL rfl ha5 λa6 e6 b6 h6=>?_;have hl6:=h6.le ha5;refine zv ?_;refine Gu (LY rfl rfl (by simp only[Cl,hks];rfl) Jw) ?_;refine HB AdY (AE3 hkv) rfl ⟨_,_,_,_,rfl,f,s1,nm,tk,tl,i,m,G9,HI,rfl,hw,h6.1,AA⟩
def AEO(hL:JM L){M:Int}(Sk:uI L 167 [] M)(ha:At L a)(he:e=0)(Me:At L (a+1))(hm:mu L a e<=M){t1 t3 t4 t5 t6:PV}{w:BA}{x:Bool}{aj:Int}{hp:HO}:
  NX 0 1 (λr c=>∃a' e' b' n',c=[cells L a' e' b' n']/\∃f s nm tk tl k m G9 HI,r=.agg [I f,I s,.HK nm,I tk,I tl,I k,I m,.HC (Hh.G1 G9),I HI]/\(Hh.mk f s nm tk tl k m G9 HI).WF/\At L a'/\((Hh.mk f s nm tk tl k m G9 HI).wt:Int)+mu L a' e'<=mu L a e)
   (.G5 0 0) (.G5 1 0) (.G5 2 0) (.G5 3 0) (.bool x) (SU [.box (cells L a e b n),.box [t1,.HK w,t3,t4,t5,t6],.box [I 0,I 0,.HK ⟨#[]⟩,I 0,I 0,I 0,I 0,.nil,I 0],.box [I 0,I 0,.HK ⟨#[]⟩,I 0,I 0,I 0,I 0,.nil,I aj]] hp 4):=by
 have hs:=QC hL ha;have H5:mu L (a+1) e<mu L a e:=by rw[IE he,IE he];omega
 unfold NX;refine AWG ?_ ?_
 case refine_2=>
  exact AfO
 refine zv ?_;refine Ib (a:=IntKind.i64.wrap (a+1)) hL rfl AM λa2 e2 b2 h2=>?_;have jI:=h2.le AM;have My:=h2.1;rw[hs]at jI;refine zv ?_;refine AWG ?_ ?_
 .refine zv ?_;refine(Sk a2 e2 b2 n My AA).call rfl rfl λf1 s1 wO xH xI i1 m1 SJ Nx a3 e3 b3 n3 TN UP oa=>?_;refine zv ?_;refine Ib hL rfl UP λa4 e4 b4 h4=>?_;have hl4:=h4.le UP;refine ACk hL rfl h4.1 λw o a5 e5 b5 h5=>?_;have hl5:=h5.le h4.1;refine zv ?_;cases o
  .exact Aff
  .exact Aff
 refine zv ?_;refine AWG ?_ ?_
 .exact AfN
 refine zv ?_;refine AWG ?_ ?_
 .refine zv ?_;refine ACl hL rfl My λw a3 e3 b3 hw0 hw9 h3=>?_;have sU:=h3.le My;refine zv ?_;refine Ib hL rfl h3.1 λa4 e4 b4 h4=>?_;have hl4:=h4.le h3.1;refine(Sk a4 e4 b4 n h4.1 AA).call rfl rfl λf1 s1 wO xH xI i1 m1 SJ Nx a5 e5 b5 n5 TN ha5 AKL=>?_;refine zv ?_;exact Mc (KN 0 1 _ _ _ _) rfl rfl rfl rfl rfl λK3=>Pl hL ha5 (G9:=[.mk f1 s1 wO xH xI i1 m1 SJ Nx]) AfG (wl1 AA) rfl rfl rfl
 refine zv ?_;refine AWG ?_ ?_
 .refine zv ?_;refine gV hL rfl My λw a3 e3 b3 h3=>?_;have sU:=h3.le My;refine zv ?_;refine Ib hL rfl h3.1 λa4 e4 b4 h4=>?_;have hl4:=h4.le h3.1;refine gV hL rfl h4.1 λw2 a5 e5 b5 h5=>?_;have hl5:=h5.le h4.1;refine zv ?_;exact Mc (KN 0 1 _ _ _ _) rfl rfl rfl rfl rfl λK3=>Pl hL h5.1 (G9:=[]) (Uy AA AA) (wl0 AA) rfl rfl rfl
 refine zv ?_;refine AWG ?_ ?_
 .refine zv ?_;refine O1 hL rfl My λw a3 e3 b3 h3=>?_;have sU:=h3.le My;refine zv ?_;refine(AAw (M:=mu L (a+1) e) hL (λa e b n h1 h2=>Sk a e b n h1 AA) h3.1 AA).call rfl rfl λr a4 e4 b4 n4 h4=>?_;obtain⟨l,rfl,hwl,II,tu,APN⟩:=h4;refine zv ?_;refine Ib hL rfl tu λa5 e5 b5 h5=>?_;have hl5:=h5.le tu;refine zv ?_;refine(Sk a5 e5 b5 n4 h5.1 AA).lP rfl rfl λf2 s2 ax az bA i2 m2 MV OV a7 e7 b7 n7 Uu ha7 APO=>?_;refine zv ?_;have tx:(Hh.G1 l).length=l.length:=by rw[Hh.Jc,BX]
  have Nq:Hh.G1 (l++[.mk f2 s2 ax az bA i2 m2 MV OV])=Hh.G1 l++[[I f2,I s2,.HK ax,I az,I bA,I i2,I m2,.HC (Hh.G1 MV),I OV]]:=by
   rw[Hh.Jc,Hh.Jc,Br];rfl
  refine Aba (KG rfl rfl (Hl AB AA) (H8 Hh.SS) zh (.inr rfl)) ?_;rw[<- Nq];refine⟨by kernel_rfl,?_⟩;exact Mc (KN 0 1 _ _ _ _) rfl rfl rfl rfl rfl λK3=>Pl hL ha7 (G9:=l++[.mk f2 s2 ax az bA i2 m2 MV OV]) (AH8 hwl Uu II) (wlL (by rw[Hh.Io];simp only[Hh.Il];omega)) rfl rfl rfl
 refine zv ?_;refine AWG ?_ ?_
 .refine zv ?_;refine(Sk a2 e2 b2 n My AA).call rfl rfl λf1 s1 wO xH xI i1 m1 SJ Nx a3 e3 b3 n3 TN UP oa=>?_;refine zv ?_;refine Ib hL rfl UP λa4 e4 b4 h4=>?_;have hl4:=h4.le UP;refine gV hL rfl h4.1 λw a5 e5 b5 h5=>?_;have hl5:=h5.le h4.1;exact Aff
 refine zv ?_;refine AWG ?_ ?_
 .refine zv ?_;refine O1 hL rfl My λw a3 e3 b3 h3=>?_;have sU:=h3.le My;refine zv ?_;refine Ib hL rfl h3.1 λa4 e4 b4 h4=>?_;have hl4:=h4.le h3.1;refine(rh (M:=mu L (a+1) e) hL AA AA (λa e b n h1 h2=>Sk a e b n h1 AA) h4.1 AA).call rfl rfl λr a5 e5 b5 n5 h5=>?_;obtain⟨l,rfl,hwl,II,ha5,AKL⟩:=h5;refine zv ?_;exact Mc (KN 0 1 _ _ _ _) rfl rfl rfl rfl rfl λK3=>Pl hL ha5 (G9:=l) (tq AA AA hwl AA) (wlL AA) rfl rfl rfl
 refine zv ?_;refine AWG ?_ ?_
 .exact AfN
 exact Mc (KN 0 1 _ _ _ _) rfl rfl rfl rfl rfl λK3=>Pl hL My (G9:=[]) (f:=0) (Uy AA AA) (wlz AA) rfl rfl rfl
def ALo(hL:JM L){M:Int}(Sk:uI L 167 [] M):∀a e b n,At L a->mu L a e<=M->e=0->At L (a+1)->∀t:PT,PE L 182 [.agg t.Gy] a e b n:=by
 intro a e b n ha hm he Me t;refine AJe 0 rfl _ _ ?_;unfold ASW;simp only[PT.Gy];refine zv ?_;have hs:=QC hL ha;have H5:mu L (a+1) e<mu L a e:=by rw[IE he,IE he];omega
 refine Gw (λh1=>?_) λh1=>?_
 .unfold eF;refine AWH ?_ (λh=>Zq h AdW);refine zv ?_;refine AWH ?_ (λh=>Zq h AdW);refine zv ?_;refine HB AdY rfl rfl ⟨_,_,_,_,rfl,1,0,_,1,0,1,0,[],_,rfl,Uy AA AA,by rw[hs];exact Me,wl0 AN⟩
 refine zv ?_;unfold eF;refine Gw (λh2=>?_) λh2=>?_
 .refine zv ?_;refine Gw (λh=>Zq h AdW) λ_=>?_;refine zv ?_;refine HB AdY rfl rfl ⟨_,_,_,_,rfl,1,0,_,1,0,0,0,[],_,rfl,Uy AA AA,by rw[hs];exact Me,wl0 AN⟩
 refine zv ?_;refine Gw (λh3=>?_) λh3=>?_
 .refine zv ?_;refine(Sk (IntKind.i64.wrap (a+1)) e b n AM AN).call rfl rfl λf1 s1 wO xH xI i1 m1 SJ Nx a2 e2 b2 n2 TN My NZ=>?_;rw[hs]at NZ;refine zv ?_;refine Ib hL rfl My λa3 e3 b3 h3=>?_;have sU:=h3.le My;refine zv ?_;refine(Sk a3 e3 b3 n2 h3.1 AA).call rfl rfl λf2 s2 ax az bA i2 m2 MV OV a4 e4 b4 n4 Uu tu APN=>?_;refine zv ?_;refine Ib hL rfl tu λa5 e5 b5 h5=>?_;have hl5:=h5.le tu;refine zv ?_;refine(Sk a5 e5 b5 n4 h5.1 AA).lP rfl rfl λf3 s3 nm3 tk3 tl3 i3 m3 AUX at3 a6 e6 b6 n6 hw3 ha6 hmu6=>?_;refine zv ?_;refine⟨by kernel_rfl,?_⟩;refine zv ?_;refine HB AdY rfl rfl ⟨_,_,_,_,rfl,5,0,_,0,0,0,0,[.mk f1 s1 wO xH xI i1 m1 SJ Nx,.mk f2 s2 ax az bA i2 m2 MV OV,.mk f3 s3 nm3 tk3 tl3 i3 m3 AUX at3],_,rfl,?_,ha6,wl3 AA⟩;refine .mk _ _ _ _ _ _ _ _ _ ⟨?_,?_,?_,?_,?_⟩ AA AA AA AA (by simp[TN,Uu,hw3])
  all_goals simp
 have go:∀{x:Bool} {s:St},s.heap 0=some (.box (cells L a e b n))->s.heap 1=some (.box [I t.kind,.HK t.Q7,I t.n,I t.tk,I t.tl,I t.HI])->s.heap 2=some (.box [I 0,I 0,.HK ⟨#[]⟩,I 0,I 0,I 0,I 0,.nil,I 0])->
   s.heap 3=some (.box [I 0,I 0,.HK ⟨#[]⟩,I 0,I 0,I 0,I 0,.nil,I t.HI])->s.next=4->NX 0 1 (λr c=>∃a' e' b' n',c=[cells L a' e' b' n']/\∃f s nm tk tl k m G9 HI,r=.agg [I f,I s,.HK nm,I tk,I tl,I k,I m,.HC (Hh.G1 G9),I HI]/\(Hh.mk f s nm tk tl k m G9 HI).WF/\At L a'/\((Hh.mk f s nm tk tl k m G9 HI).wt:Int)+mu L a' e'<=mu L a e)
   (.G5 0 0) (.G5 1 0) (.G5 2 0) (.G5 3 0) (.bool x) s:=λh0 h1 h2 h3 hn=>
  Mc (NX 0 1 _ _ _ _ _ _) h0 h1 h2 h3 hn λK3=>AEO hL Sk ha he Me hm
 repeat' first
  |exact go rfl rfl rfl rfl rfl
  |(refine AWG ?_ ?_)
  |refine zv ?_
end
end
def AFb{L:List PT}(hL:JM L):∀c:Nat,RH L 175 [] c/\RH L 173 [] c/\RH L 171 [] c/\RH L 170 [] c/\RH L 167 [] c:=by
 intro c
 induction c using Nat.strongRecOn with
 |ind c ih=>
  have go:∀f,(∀m,m<c->RH L f [] m)->uI L f [] c:=λf h a e b n ha hm=>by
   have h0:=SL (e:=e) ha;exact h (mu L a e).toNat AA a e b n ha AA
  have AYV:=go 175 λm hm=>(ih m hm).1;have AYU:=go 173 λm hm=>(ih m hm).2.1;have AYT:=go 171 λm hm=>(ih m hm).2.2.1;have AYS:=go 170 λm hm=>(ih m hm).2.2.2.1;have AUa:=go 167 λm hm=>(ih m hm).2.2.2.2;have AWV:=ALD hL AUa (ALo hL AUa);have ASy:=AH1 hL (AD5 hL AYV AWV);have ASx:=APr hL (AGa hL ASy 8 0 AA AA) AYU;have ASw:=AOL hL ASx AYT;have ASv:=AE1 hL ASw AYS;exact⟨ASy,ASx,ASw,ASv,AOK hL ASv⟩
def AA5{L:List PT}(hL:JM L)(M:Int):RH L 167 [] M:=λa e b n ha hm=>by
 have h0:=SL (e:=e) ha;exact(AFb hL (mu L a e).toNat).2.2.2.2 a e b n ha AA
section
open Go.Proofs
def Q8{l:List Hc}:∀r∈l.map Hc.Gy,r.length=12:=by intro r hr;exact Ahx
def Lo{s:St}{cs k:LP}(h:s.heap 0=some (.box cs))(hd:KR cs=some k):HZ s [0]=some [k]:=by simp only[HZ,h,hd]
section
variable{L:List PT} {a e b n:Int}
def AAX(hL:JM L){w:BA}{Q:PV->Int->Int->Int->Int->Prop}:∀(c:Nat) {a e b n:Int} (ha:At L a) (hc:mu L a e<=c) (l:List Hc) (hw:∀x∈l,x.cond.WF) (II:l.length<=16) {eo:Nat} (XA:l.map Hc.Gy=[]\/eo=12)
   (hQ:∀(l':List Hc) a' e' b' n',(∀x∈l',x.cond.WF)->l'.length<=16->At L a'->(Hc.Il l':Int)+mu L a' e'<=Hc.Il l+mu L a e->Q (.H6 12 (l'.map Hc.Gy)) a' e' b' n'),
   ∃k,∀(hp:HO) (o1:Obj) (nx:Nat),YM 12 1 (λr c=>∃a' e' b' n',c=[cells L a' e' b' n']/\Q r a' e' b' n') k (.G5 0 0) (.HK w) (.H6 2 (l.map Hc.Gy))
    (SU [.box (cells L a e b n),o1,.Hm (l.map Hc.Gy).length eo] hp (nx+3)):=by
 intro c
 induction c with
 |zero=>
  intro a e b n ha hc l hw II eo XA hQ;have he:e≠0:=λh=>by have:=P9 ha h;omega
  have hm:VC L a e w=false:=by
   cases h:VC L a e w
   .rfl
   .exact Zq (v9 h).1 he
  refine⟨1,λhp o1 nx=>?_⟩;show Qk _ _ _ _ _ _ _ _;unfold Qk;have h2:=jM (e:=e) (b:=b) (n:=n) ha w;exact AhM
 |succ c ih=>
  intro a e b n ha hc l hw II eo XA hQ;have h2:=jM (e:=e) (b:=b) (n:=n) ha w;cases hm:VC L a e w with
  |false=>
   refine⟨1,λhp o1 nx=>?_⟩;show Qk _ _ _ _ _ _ _ _;unfold Qk;exact AhM
  |true=>
   rw[hm]at h2;obtain⟨he,Me⟩:=NA hL ha hm;have hs:=QC hL ha;have H5:mu L (a+1) e<mu L a e:=by rw[IE he,IE he];omega
   have tx:(l.map Hc.Gy).length=l.length:=BX _;by_cases LL:(16:Int)<=((l.map Hc.Gy).length:Int)
   .obtain⟨e1,b1,OR,K4⟩:=Oj (b:=b) (n:=n) (e:=e) hL ha LL;refine⟨1,λhp o1 nx=>?_⟩;show Qk _ _ _ _ _ _ _ _;unfold Qk;refine AbZ h2 ?_;refine AbZ K4 ?_;refine HB rfl (JN rfl XA Q8) rfl ⟨_,_,_,_,rfl,hQ _ _ _ _ _ hw II (At.QS hL) AG⟩
   .have K4:=Oi (b:=b) (n:=n) (e:=e) hL ha (EF.1 LL)
    have UB:PC BW 119 [.G5 0 0] [cells L (IntKind.i64.wrap (a+1)) e b n] (.agg (IG L (IntKind.i64.wrap (a+1))).Gy) [cells L (IntKind.i64.wrap (a+1)) e b n]:=by
     obtain⟨r,c,I5,a',e',b',n',hc,hr,h1,h2,h3,h4⟩:=ti (b:=b) (n:=n) (e:=e) (a:=IntKind.i64.wrap (a+1)) AM;exact Age
    obtain⟨r,cc,Jh,a2,e2,b2,n2,rfl,f2,s2,ax,az,bA,i2,m2,MV,OV,rfl,Uu,My,NZ⟩:=AA5 hL _ (IntKind.i64.wrap (a+1)) e b n AM (C3 _);rw[hs]at NZ;have hf:Go.Ab.JE ((l.map Hc.Gy).length+1) 128=true:=Hl AA AA
    have Jl:∀(ACq:Bool) (a3 e3 b3:Int),At L a3->mu L a3 e3<=mu L a2 e2->∃k,∀(s:St) (nx:Nat) (o1:Obj),s.heap 0=some (.box (cells L a3 e3 b3 n2))->s.heap 1=some o1->s.heap 2=some (.Hm (l.map Hc.Gy).length eo)->s.next=nx+4->
      s.heap (nx+3)=some (.box [I f2,I s2,.HK ax,I az,I bA,I i2,I m2,.HC (Hh.G1 MV),I OV,.HK ⟨#[]⟩,.bool ACq,I (IG L (IntKind.i64.wrap (a+1))).HI])->
      eC 12 1 (λr c=>∃a' e' b' n',c=[cells L a' e' b' n']/\Q r a' e' b' n') (YM 12 1 (λr c=>∃a' e' b' n',c=[cells L a' e' b' n']/\Q r a' e' b' n') k) (.G5 0 0) (.HK w) (.H6 2 (l.map Hc.Gy)) (.G5 (nx+3) 0) s:=by
     intro ACq a3 e3 b3 UP oa;obtain⟨nm,a4,e4,b4,vf,ez⟩:=kE (b:=b3) (n:=n2) (e:=e3) hL UP;obtain⟨a5,e5,b5,APX,AMD⟩:=aY (b:=b4) (n:=n2) (e:=e4) hL ez.1 ⟨#[59]⟩;have hl4:=ez.le UP;have hl5:=AMD.le ez.1;let t:Hc:=⟨.mk f2 s2 ax az bA i2 m2 MV OV,nm,ACq,(IG L (IntKind.i64.wrap (a+1))).HI⟩
     have HV:(l++[t]).map Hc.Gy=l.map Hc.Gy++[[I f2,I s2,.HK ax,I az,I bA,I i2,I m2,.HC (Hh.G1 MV),I OV,.HK nm,.bool ACq,I (IG L (IntKind.i64.wrap (a+1))).HI]]:=by
      rw[Br];rfl
     have fK:Hc.Il (l++[t])=Hc.Il l+(1+(Hh.mk f2 s2 ax az bA i2 m2 MV OV).wt):=by rw[Hc.Io];simp only[Hc.Il,Hc.wt,t];omega
     have Qy:∀x∈l++[t],x.cond.WF:=λx hx=>by
      exact Afq
     obtain⟨k,hk⟩:=ih (e:=e5) (b:=b5) (n:=n2) AMD.1 AA _ Qy AB (eo:=12) (.inr rfl) λl' a' e' b' n' h1 h2 h3 h4=>hQ l' a' e' b' n' h1 h2 h3 Acp;refine⟨k,λs nx o1 h0 h1 h2 hn h4=>?_⟩;unfold eC;refine AVt vf rfl rfl (Lo h0 rfl) rfl ?_;refine AVt APX rfl rfl AdX rfl ?_;refine pQ_v (KG rfl rfl hf (H8 Q8) zh (XA.imp (λh=>by rw[h];rfl) λh=>h.symm)) ?_;rw[<- HV];exact I3 (YM 12 1 _ k _ _ _) rfl (by exact h1) Abs (by exact hn) λK3=>hk K3 _ (nx+1)
    cases cV:VC L a2 e2 ⟨#[99,111,110,116,105,110,117,101]⟩with
    |false=>
     obtain⟨a3,e3,b3,VA,Yt⟩:=aY (b:=b2) (n:=n2) (e:=e2) hL My ⟨#[116,104,101,110]⟩;obtain⟨k,hk⟩:=Jl false a3 e3 b3 Yt.1 (Yt.le My);refine⟨k+1,λhp o1 nx=>?_⟩;show Qk _ _ _ _ _ _ _ _;unfold Qk;refine AbZ h2 ?_;refine AbZ K4 ?_;refine AbZ UB ?_;refine AbZ Jh ?_;refine AVt (O5 (b:=b2) (n:=n2) hL My cV) rfl rfl AdX rfl ?_;refine Gz VA rfl rfl AdX rfl ?_;exact hk _ nx o1 zh zh zh rfl zh
    |true=>
     obtain⟨ar,UP⟩:=NA hL My cV;obtain⟨k,hk⟩:=Jl true (a2+1) e2 b2 UP (by rw[IE ar,IE ar];omega);refine⟨k+1,λhp o1 nx=>?_⟩;show Qk _ _ _ _ _ _ _ _;unfold Qk;refine AbZ h2 ?_;refine AbZ K4 ?_;refine AbZ UB ?_;refine AbZ Jh ?_;refine AVt (O6 (b:=b2) (n:=n2) hL My cV) rfl rfl AdX rfl ?_;exact hk _ nx o1 zh zh zh rfl zh
def xL(hL:JM L)(ha:At L a)(w:BA):PF L 168 [.HK w] a e b n λr a' e' b' n'=>∃l:List Hc,r=.H6 12 (l.map Hc.Gy)/\U2.WF l/\At L a'/\(Hc.Il l:Int)+mu L a' e'<=mu L a e:=by
 obtain⟨k,hk⟩:=AAX hL (w:=w) (mu L a e).toNat (a:=a) (e:=e) (b:=b) (n:=n) ha AK [] AD AD (eo:=0) (.inl rfl)
  (Q:=λr a' e' b' n'=>∃l:List Hc,r=.H6 12 (l.map Hc.Gy)/\U2.WF l/\At L a'/\(Hc.Il l:Int)+mu L a' e'<=mu L a e) λl' a' e' b' n' h1 h2 h3 h4=>⟨l',rfl,⟨AA,h1⟩,h3,by simpa[Hc.Il]using h4⟩
 refine AJR 12 rfl _ _ ?_;unfold ASJ;refine zv ?_;refine⟨k,?_⟩;exact I3 (YM 12 1 _ k _ _ _) rfl rfl rfl rfl λK3=>hk K3 _ 0
end
end
section
open Go.Proofs
def PIs(L:List PT)(a e b n:Int):Prop:=PF L 150 [] a e b n λr a' e' b' n'=>∃l:List Item,r=.H6 12 (l.map Item.Gy)/\(∀x∈l,x.WF)/\l.length<=200/\At L a'/\(Item.Il l:Int)+mu L a' e'<=mu L a e
def PLs(L:List PT)(a e b n:Int):Prop:=PF L 149 [] a e b n λr a' e' b' n'=>∃l:List HM,r=.H6 5 (l.map HM.Gy)/\fu.WF l/\At L a'/\(l.length:Int)+mu L a' e'<=mu L a e
def PDs(L:List PT)(a e b n:Int):Prop:=PF L 147 [] a e b n λr a' e' b' n'=>∃l:List HM,r=.H6 5 (l.map HM.Gy)/\fu.WF l/\(∀v∈l,v.HH=[])/\At L a'/\(l.length:Int)+mu L a' e'<=mu L a e
def PSt(L:List PT)(a e b n:Int):Prop:=PF L 166 [] a e b n λr a' e' b' n'=>∃nm Lm LR Gx HE HI,r=.agg [.HK nm,.HC (Lm.map Hc.Gy),.HC (LR.map Hc.Gy),.HC (Gx.map HM.Gy),.HC (HE.map Item.Gy),I HI]/\(HF.mk nm Lm LR Gx HE HI).WF/\At L a'/\((HF.mk nm Lm LR Gx HE HI).wt:Int)+mu L a' e'<=mu L a e
def AIm{s:St}{nm:BA}{bu bt bi:Nat}{HI:Int}{lv:PV}{ru rt ri rl:LLP}(h:lv.data=some (.HC rl)):
  (bif Bo 0 0 then QG (NF [.agg [.HK nm,.H6 bu ru,.H6 bt rt,lv,.H6 bi ri,I HI]])else VO 0 s (NF [.agg [.HK nm,.H6 bu ru,.H6 bt rt,lv,.H6 bi ri,I HI]]))=
   some (.agg [.HK nm,.HC ru,.HC rt,.HC rl,.HC ri,I HI]):=by
 have:KR [.HK nm,.H6 bu ru,.H6 bt rt,lv,.H6 bi ri,I HI]=some [.HK nm,.HC ru,.HC rt,.HC rl,.HC ri,I HI]:=by
  simp only[KR,h];rfl
 exact AhP
section
variable{L:List PT} {a e b n:Int}
def np(hL:JM L){M:Int}(hit:∀a e b n,At L a->mu L a e<=M->PIs L a e b n){a0 e0:Int}{nm:BA}{Lm:List Hc}{Gx:List HM}{lv:PV}{aj:Int}(hlv:lv.data=some (.HC (Gx.map HM.Gy)))(hls:lv.Iu=true)(hu:U2.WF Lm)(hv:fu.WF Gx)
  (ha:At L a)(hm:mu L a e<=M)(hW:(1:Int)+Hc.Il Lm+Gx.length+mu L a e<=mu L a0 e0){bu:Nat}{hp:HO}{nx:Nat}:
  WR 0 1 (λr c=>∃a' e' b' n',c=[cells L a' e' b' n']/\∃nm Lm LR Gx HE HI,r=.agg [.HK nm,.HC (Lm.map Hc.Gy),.HC (LR.map Hc.Gy),.HC (Gx.map HM.Gy),.HC (HE.map Item.Gy),I HI]/\(HF.mk nm Lm LR Gx HE HI).WF/\At L a'/\((HF.mk nm Lm LR Gx HE HI).wt:Int)+mu L a' e'<=mu L a0 e0)
   (.G5 0 0) (.G5 1 0) (.G5 2 0) (SU [.box (cells L a e b n),.box [(.HK ⟨#[]⟩),.nil,.nil,.nil,.nil,(I 0)],.box [.HK nm,.H6 bu (Lm.map Hc.Gy),.nil,lv,.nil,I aj]] hp (nx+3)):=by
 unfold WR;refine Ib hL rfl ha λa1 e1 b1 h1=>?_;have sT:=h1.le ha;refine(hit a1 e1 b1 n h1.1 AA).call rfl rfl λr a2 e2 b2 n2 h2=>?_;obtain⟨l,rfl,hwl,II,My,NZ⟩:=h2;refine zv ?_;refine(xL hL My _).call rfl rfl λr a3 e3 b3 n3 h3=>?_;obtain⟨LR,rfl,Pe,UP,oa⟩:=h3;refine zv ?_;refine Gu (LY rfl rfl (by simp only[Cl,hls];rfl) rfl) ?_;refine HB Adp (AIm hlv) rfl ⟨_,_,_,_,rfl,nm,Lm,LR,Gx,l,aj,rfl,.mk _ _ _ _ _ _ hu Pe hv AA hwl,UP,?_⟩;simp only[HF.wt];omega
def AHl(hL:JM L){M:Int}(hit:∀a e b n,At L a->mu L a e<=M->PIs L a e b n)(fD:∀a e b n,At L a->PLs L a e b n)(ha:At L a)(hm:mu L a e<=M)(he:e=0):PSt L a e b n:=by
 refine AJP 0 rfl _ ?_;unfold ASH;refine zv ?_;refine Of rfl ha ?_;refine zv ?_;refine Ib hL rfl ha λa1 e1 b1 h1=>?_;have sT:=h1.2.1 he;refine O1 hL rfl h1.1 λnm a2 e2 b2 h2=>?_;have jI:=h2.le h1.1;refine zv ?_;refine(xL hL h2.1 _).call rfl rfl λr a3 e3 b3 n3 h3=>?_;obtain⟨Lm,rfl,hwu,UP,oa⟩:=h3;refine zv ?_;refine Mp hL rfl UP (λcV=>?_) λcV he3 tu=>?_
 .refine zv ?_;exact I3 (WR 0 1 _ _ _ _) rfl rfl rfl rfl λK3=>np hL hit (Gx:=[]) rfl rfl hwu ⟨AD,AD⟩ UP AA (by simp only[List.length_nil];omega) (nx:=1)
 .have H5:mu L (a3+1) e3<mu L a3 e3:=by rw[IE he3,IE he3];omega
  refine zv ?_;refine(fD (a3+1) e3 b3 n3 tu).call rfl rfl λr a5 e5 b5 n5 h5=>?_;obtain⟨Gx,rfl,hwv,ha5,AKL⟩:=h5;refine zv ?_;exact I3 (WR 0 1 _ _ _ _) rfl rfl rfl rfl λK3=>np hL hit (Gx:=Gx) rfl rfl hwu hwv ha5 AA AA (nx:=2)
end
end
end Go.Vi
