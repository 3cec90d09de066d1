/- Part of the proof of CauseChecks (own work, made small). -/
import Derived.Test.YtlonlfiaclacdaaGreatB3
import Derived.Test.YtlonlfiaclacdaaGreatC1
import Derived.IntWalk
set_option linter.all false
set_option maxRecDepth 100000
open Bool renaming and_eq_true->Bo,or_eq_true->D6
open Go renaming FuncId->B9,Program->Cf,TypeId->Bz
open Go.Proofs.Tryz renaming prog->BZ
open Go.Vi.JJ renaming run->A2
open Go.Vi.St renaming new->BE,set->BN
open Int renaming le_refl->Ct,not_le->Dd
open List renaming all_cons->Co,all_eq_true->CY,append_nil->CG,getD_eq_getElem?_getD->CK,getElem?_eq_getElem->Bc,getElem?_eq_none->Ck,length_append->Bd,length_cons->CE,length_map->Bb,map_append->Bu,mem_append->Bf,mem_map->B8,mem_singleton->By,nil_append->CC,range->CS,set_cons_succ->Cb,set_cons_zero->Ca
open List.cons renaming injEq->FE
open Nat renaming beq->Br,beq_refl->EJ,ble_eq_true_of_le->EN,blt->DZ,eq_of_beq_eq_true->B5
open Option.some renaming injEq->Bh
open Prod renaming snd->Bx
namespace Go.Vi
section
def H8(x:Option JJ)(s:St)(v:PV)(s':St)(rd wr:LN):Prop:=∃q,x=some q/\q.run s=some (v,s')/\q.rd=rd/\q.wr=wr
section
variable{P:Program} {s s' s0 s1:St} {k:PV->St->Prop} {kl:KL} {v:PV} {x:Option JJ} {rd wr:LN}
def Fy(h:H8 x s v s' rd wr)(hk:k v s'):pQ x s k:=by obtain⟨q,h1,h2,_⟩:=h;exact AWg h1 h2 hk
def GR(h:H8 x s v s' rd wr)(hk:kl v s' rd wr):I2 x s kl:=by obtain⟨q,h1,h2,rfl,rfl⟩:=h;exact ASK h1 h2 hk
def dd(hk:kl v s1 [] []):Ic (.bool true) true (λk=>k v s1 [] []) kl s0:=hk
def jg(hk:kl v s1 [] []):Ic (.bool false) false (λk=>k v s1 [] []) kl s0:=hk
def LZ(h1:H8 x s v s' rd wr)(hk:kl v s' rd wr):Ic (.bool true) true (λk=>I2 x s k) kl s0:=GR h1 hk
def KS(h1:H8 x s v s' rd wr)(hk:kl v s' rd wr):Ic (.bool false) false (λk=>I2 x s k) kl s0:=GR h1 hk
def vC{f:B9}{vs:LP}(h1:Gb P f vs s kl):Ic (.bool true) true (λk=>Gb P f vs s k) kl s0:=h1
def z8{f:B9}{vs:LP}(h1:Gb P f vs s kl):Ic (.bool false) false (λk=>Gb P f vs s k) kl s0:=h1
def ACw{X:(KL)->Prop}(hk:kl .undef s [] []):Ic (.bool true) false X kl s:=hk
def bH{X:(KL)->Prop}(hk:kl .undef s [] []):Ic (.bool false) true X kl s:=hk
def ACx{Po:Bool}{X:(KL)->Prop}(hk:kl .undef s [] []):Ic .undef Po X kl s:=hk
def ct{A B:Prop}(h:A):Gs (.bool true) A B:=Yz rfl h
def cf{A B:Prop}(h:B):Gs (.bool false) A B:=Yy rfl h
def GF{b:Bool}{A B:Prop}(h:b=true->A)(h':b=false->B):Gs (.bool b) A B:=⟨h,h'⟩
def GW{l:Option (LP)}{l':LP}{e n:Nat}{r:PV}{c:LLP}{Q:PV->LLP->Prop}(h0:l=some l')(h:(bif Br e 0 then OB (Lg l')else TV e s (Lg l'))=some r)(h2:Gv s (CS n)=some c)(hk:Q r c):
  HA l λl=>HZ e n (Lg l) s Q:=by
 subst h0;exact ANm h h2 hk
end
section
variable{P:Program} {s:St} {v x y:PV} {b o n off size:Nat} {cs Oc GG l:LP} {GK:LLP} {i:Int} {kk:IntKind}
def M8{v:PV}:H8 (some (.val v)) s v s [] []:=⟨_,rfl,rfl,rfl,rfl⟩
def Lw(h:s.next=n):H8 (some (.box cs λb=> .GN b 0)) s (.GN n 0) (s.new (.box cs)) [] []:=by subst h;exact⟨_,rfl,rfl,rfl,rfl⟩
def AJ9(h:s.next=n):H8 (some (.HE 0 0 λb=> .HL b [])) s (.HL n []) (s.new (.HE 0 0)) [] []:=by subst h;exact⟨_,rfl,rfl,rfl,rfl⟩
def Mh(hx:l.all PV.IT=true)(h:s.next=n):H8 (Ht (.agg l)) s (.GN n 0) (s.new (.box l)) [] []:=by subst h;refine⟨.box l λb=> .GN b 0,?_,rfl,rfl,rfl⟩;show(bif l.all PV.IT then _ else _)=_;rw[hx];rfl
def ANa(h:s.next=n):H8 (Ht (.int kk i)) s (.GN n 0) (s.new (.box [.int kk i])) [] []:=by subst h;exact⟨_,rfl,rfl,rfl,rfl⟩
def Kl:H8 (HK (.GN b o)) s (.GN b o) s [] []:=M8
def ANe:H8 (HK (.MP GG o)) s (.MP GG o) s [] []:=M8
def Hj:H8 (Ho off (.GN b o)) s (.GN b (o+off)) s [] []:=M8
def Pw:H8 (Ho off (.MP GG o)) s (.MP GG (o+off)) s [] []:=M8
def GH(h:s.heap b=some (.box cs))(h2:cs[o]?=some v):H8 (GJ (.GN b o)) s v s [b] []:=⟨_,rfl,by simp only[A2,h,h2],rfl,rfl⟩
def Hg(h2:GG[o]?=some v):H8 (GJ (.MP GG o)) s v s [] []:=⟨.val v,by simp only[GJ,h2],rfl,rfl,rfl⟩
def Hm(h:s.heap b=some (.box cs))(h2:cs.length=n):H8 (GM n (.GN b 0)) s (.agg cs) s [b] []:=by subst h2;refine⟨_,rfl,?_,rfl,rfl⟩;simp[A2,h,TF]
def M7(h:s.heap b=some (.box cs))(h2:TF n cs o=some v):H8 (GM n (.GN b o)) s v s [b] []:=⟨_,rfl,by simp only[A2,h,h2],rfl,rfl⟩
def IB(h2:GG.length=n):H8 (GM n (.MP GG 0)) s (.agg GG) s [] []:=by subst h2;refine⟨.val (.agg GG),?_,rfl,rfl,rfl⟩;simp[GM,TF]
def MB(h2:TF n GG o=some v):H8 (GM n (.MP GG o)) s v s [] []:=⟨.val v,by simp only[GM,h2],rfl,rfl,rfl⟩
def y5{cs:LP}{o:Nat}{x:PV}(h:o<cs.length):MU cs o [x]=some (cs.set o x):=by unfold MU;rw[Ps AB,List.set_eq_take_append_cons_drop,Ps h];simp
def KD(h:s.heap b=some (.box cs))(hx:x.IT=true)(ho:DZ o cs.length=true)(hs:cs.set o x=Oc):H8 (Gc 1 x (.GN b o)) s .undef (s.set b (.box Oc)) [] [b]:=by
 subst hs;have hc:x.cells=[x]:=by cases x<;>first|rfl|cases hx
 refine⟨.store b λcs=>MU cs o x.cells,?_,?_,rfl,rfl⟩
 .exact Afy
 .simp only[A2,h,hc];rw[y5 (by simp[DZ]at ho;omega)]
def IZ(h:s.heap b=some (.box cs))(hl:l.length=n)(hx:l.all PV.IT=true)(ho:cs.length=n):H8 (Gc n (.agg l) (.GN b 0)) s .undef (s.set b (.box l)) [] [b]:=by
 subst hl;refine⟨.store b λcs=>MU cs 0 l,?_,?_,rfl,rfl⟩
 .exact AgA
 .simp[A2,h,MU,ho,List.drop_eq_nil_of_le (Nat.le_of_eq ho)]
def sP(h:s.heap b=some (.box cs))(hl:l.length=n)(hx:l.all PV.IT=true)(ho:MU cs o l=some Oc):H8 (Gc n (.agg l) (.GN b o)) s .undef (s.set b (.box Oc)) [] [b]:=by
 subst hl;refine⟨.store b λcs=>MU cs o l,?_,?_,rfl,rfl⟩
 .exact AgA
 .simp only[A2,h,ho]
def Il:H8 (HR (.int kk i)) s (.int kk i) s [] []:=M8
def Lq{c:Bool}:H8 (HR (.bool c)) s (.bool c) s [] []:=M8
def pb{c:BA}:H8 (HR (.Gh c)) s (.Gh c) s [] []:=M8
def AEN:H8 (HR (.GV GK)) s (.GV GK) s [] []:=M8
def kP:H8 (HR (.HL b GK)) s (.HL b GK) s [] []:=M8
def ANW:H8 (HR (.agg l)) s (.agg l) s [] []:=M8
def ANY:H8 (HR (.tuple l)) s (.tuple l) s [] []:=M8
def Zb:H8 (HR (.GN b o)) s (.GN b o) s [] []:=M8
def ANV:H8 (HR (.MP GG o)) s (.MP GG o) s [] []:=M8
def AEO(h:s.next=n):H8 (HR .nil) s (.HL n []) (s.new (.HE 0 0)) [] []:=AJ9 h
def Gt{op:BinOp}{t:Bz}(h:SP P op t x y=some v):H8 (HC P op t x y) s v s [] []:=⟨.val v,by simp only[HC,h],rfl,rfl,rfl⟩
def Og:H8 (Gp (.bool true) x y) s x s [] []:=M8
def Pc:H8 (Gp (.bool false) x y) s y s [] []:=M8
def AH9{c d e:Bool}:H8 (Gp (.bool c) (.bool d) (.bool e)) s (.bool (bif c then d else e)) s [] []:=by cases c<;>exact M8
def S8{c:Bool}:H8 (JI .not (.bool c)) s (.bool !c) s [] []:=M8
def ASG:H8 (JI .neg (.int kk i)) s (.int kk (kk.wrap (0-i))) s [] []:=M8
def AEP{k2:IntKind}:H8 (G6 kk (.int k2 i)) s (.int kk (kk.wrap i)) s [] []:=M8
def H5(h:x.GK=some GK):H8 (Gq x) s (.int .i64 GK.length) s [] []:=⟨.val _,by
 unfold Gq;cases x with
 |ME _ _=>cases h
 |_=>simp only[h],rfl,rfl,rfl⟩
def ANc{t:BA}:H8 (G2 (.Gh t)) s (.int .i64 t.size) s [] []:=M8
def AWW(h:l[off]?=some v):H8 (JZ off (.agg l)) s v s [] []:=⟨.val v,by simp only[JZ,h],rfl,rfl,rfl⟩
def AWX(h:TF n l off=some v):H8 (Jd off n (.agg l)) s v s [] []:=⟨.val v,by simp only[Jd,h],rfl,rfl,rfl⟩
def pe{ix:Nat}(h:l[ix]?=some v):H8 (JW ix (.tuple l)) s v s [] []:=⟨.val v,by simp only[JW,h],rfl,rfl,rfl⟩
def bh(h:yu size l=some GK):H8 (Hu size l) s (.GV GK) s [] []:=⟨.val _,by simp only[Hu,h],rfl,rfl,rfl⟩
def bj{z:LP}{JL:List (Option (Nat×Nat)×PV)}(h:(JL.map Bx).all PV.tE=true)(h2:xh z JL=some l):H8 (Gf z JL) s (.agg l) s [] []:=⟨.val _,by simp only[Gf,h,h2];rfl,rfl,rfl,rfl⟩
def sr{sz:Nat}{GK:LLP}{i:Nat}{GG:LP}(h:GK[i]?=some GG)(hl:GG.length=sz):b8 sz GK i=some (.MP GG 0):=by unfold b8;rw[h];simp[hl]
def Gk(h0:0<=i)(h:GK[i.toNat]?=some GG)(hl:GG.length=size):H8 (Ip size (.GV GK) (.int kk i)) s (.MP GG 0) s [] []:=⟨.val (.MP GG 0),by unfold Ip;simp only[Lv];rw[Ps h0];simp only[sr h hl],rfl,rfl,rfl⟩
def JE(h0:0<=i)(h:GK[i.toNat]?=some GG)(hl:GG.length=size):H8 (Ip size (.HL b GK) (.int kk i)) s (.MP GG 0) s [] []:=⟨.val (.MP GG 0),by unfold Ip;simp only[Lv];rw[Ps h0];simp only[sr h hl],rfl,rfl,rfl⟩
def TM{t:BA}{c:UInt8}(h0:0<=i)(h:t[i.toNat]?=some c):H8 (JN (.Gh t) (.int kk i)) s (.int .u8 c.toNat) s [] []:=⟨.val _,by unfold JN;simp only[Lv];rw[Ps h0];simp only[h],rfl,rfl,rfl⟩
def Jp{bytes:Nat}{xs:LLP}{e':Nat}(hx:x.GK=some xs)(ha:xs.all (λr=>Br r.length size)=true)(hf:Go.Ab.Im (GK.length+xs.length) bytes=true)(hr:GK.all (λr=>Br r.length size)=true)
  (hb:s.heap b=some (.HE GK.length e'))(he:GK.length=0\/size=e'):H8 (Hb size bytes (.HL b GK) x) s (.HL b (GK++xs)) (s.set b (.HE (GK.length+xs.length) size)) [] [b]:=by
 refine⟨.push b GK.length size xs.length (.HL b (GK++xs)),?_,?_,rfl,rfl⟩
 .simp only[Hb,hx,ha,hf,hr];rfl
 .simp only[A2,hb]
  have:(Br GK.length GK.length&&(Br GK.length 0||Br size e'))=true:=by
   rcases he with h|h<;>simp[h]
  rw[this];rfl
def Mw{bytes:Nat}{xs:LLP}(hx:x.GK=some xs)(ha:xs.all (λr=>Br r.length size)=true)(hf:Go.Ab.Im xs.length bytes=true)
  (h:s.next=n):H8 (Hb size bytes .nil x) s (.HL n xs) (s.new (.HE xs.length size)) [] []:=by
 subst h;refine⟨.HE xs.length size λb=> .HL b xs,?_,rfl,rfl,rfl⟩;simp only[Hb,hx,ha,hf];rfl
def AKB{lo hi:Bool}{t:BA}{r r2:LP}{r1:LP}{a c:ON}(h1:Qy lo r=some (a,r1))(h2:Qy hi r1=some (c,r2))(h3:c.getD t.size<=t.size)(h4:a.getD 0<=c.getD t.size):
  H8 (Hs lo hi (.Gh t) r) s (.Gh (t.extract (a.getD 0) (c.getD t.size))) s [] []:=
 ⟨.val _,by simp only[Hs,h1,h2,AKI];rw[Ps ⟨h3,h4⟩],rfl,rfl,rfl⟩
def ya{lo hi:Bool}{r r2:LP}{r1:LP}{a c:ON}(hx:x.GK=some GK)(h1:Qy lo r=some (a,r1))(h2:Qy hi r1=some (c,r2))(h3:c.getD GK.length<=GK.length)(h4:a.getD 0<=c.getD GK.length)(h5:GK.all (λr=>Br r.length size)=true):
  H8 (Hq size lo hi x r) s (.GV ((GK.drop (a.getD 0)).take (c.getD GK.length-a.getD 0))) s [] []:=
 ⟨.val _,by
 simp only[Hq,h1,h2];cases x with
 |ME _ _=>cases hx
 |_=>simp only[AEw,hx];rw[Ps ⟨h3,h4,h5⟩],rfl,rfl,rfl⟩
end
def Qx(l:List Obj)(hp:HO)(n:Nat):St:=⟨λb=>(l[b]?).or (hp b),n⟩
def p9{s:St}{l:List Obj}{n:Nat}(h:∀i,i<l.length->s.heap i=l[i]?)(hn:s.next=n):s=Qx l s.heap n:=by
 subst hn;cases s with|mk hp n=>
 simp only[Qx,St.mk.injEq,and_true];funext b;by_cases hb:b<l.length
 .rw[show hp b=l[b]? from h b hb];simp
 .rw[Ck AA];rfl
def AIa{s:St}{o0:Obj}{n:Nat}(h0:s.heap 0=some o0)(hn:s.next=n):s=Qx [o0] s.heap n:=p9 (λi hi=>by
 match i,hi with
 |0,_=>exact h0) hn
def AIb{s:St}{o0 o1:Obj}{n:Nat}(h0:s.heap 0=some o0)(h1:s.heap 1=some o1)(hn:s.next=n):s=Qx [o0,o1] s.heap n:=p9 (λi hi=>by
 match i,hi with
 |0,_=>exact h0
 |1,_=>exact h1) hn
def AIc{s:St}{o0 o1 o2:Obj}{n:Nat}(h0:s.heap 0=some o0)(h1:s.heap 1=some o1)(h2:s.heap 2=some o2)(hn:s.next=n):s=Qx [o0,o1,o2] s.heap n:=p9 (λi hi=>by
 match i,hi with
 |0,_=>exact h0
 |1,_=>exact h1
 |2,_=>exact h2) hn
def AId{s:St}{o0 o1 o2 o3:Obj}{n:Nat}(h0:s.heap 0=some o0)(h1:s.heap 1=some o1)(h2:s.heap 2=some o2)(h3:s.heap 3=some o3)(hn:s.next=n):s=Qx [o0,o1,o2,o3] s.heap n:=p9 (λi hi=>by
 match i,hi with
 |0,_=>exact h0
 |1,_=>exact h1
 |2,_=>exact h2
 |3,_=>exact h3) hn
def LW(C:St->Prop){s:St}{o0 o1 o2 o3:Obj}{n:Nat}(h0:s.heap 0=some o0)(h1:s.heap 1=some o1)(h2:s.heap 2=some o2)(h3:s.heap 3=some o3)(hn:s.next=n)(h:∀hp,C (Qx [o0,o1,o2,o3] hp n)):C s:=by rw[AId h0 h1 h2 h3 hn];exact h _
def Rf(C:St->Prop){s:St}{o0:Obj}{n:Nat}(h0:s.heap 0=some o0)(hn:s.next=n)(h:∀hp,C (Qx [o0] hp n)):C s:=by rw[AIa h0 hn];exact h _
def VE(C:St->Prop){s:St}{o0 o1:Obj}{n:Nat}(h0:s.heap 0=some o0)(h1:s.heap 1=some o1)(hn:s.next=n)(h:∀hp,C (Qx [o0,o1] hp n)):C s:=by rw[AIb h0 h1 hn];exact h _
def IF(C:St->Prop){s:St}{o0 o1 o2:Obj}{n:Nat}(h0:s.heap 0=some o0)(h1:s.heap 1=some o1)(h2:s.heap 2=some o2)(hn:s.next=n)(h:∀hp,C (Qx [o0,o1,o2] hp n)):C s:=by rw[AIc h0 h1 h2 hn];exact h _
def St.HJ{s:St}{b:Nat}{o:Obj}:(s.set b o).heap b=some o:=by simp[BN]
def St.Kr{s:St}{o:Obj}:(s.new o).heap s.next=some o:=by simp[BE]
def St.H3{s:St}{o:Obj}{n:Nat}(h:s.next=n):(s.new o).heap n=some o:=by subst h;exact St.Kr
def St.AEv{s:St}{b b':Nat}{o:Obj}(h:Br b' b=false):(s.set b o).heap b'=s.heap b':=by simp only[BN,h,cond_false]
def St.AD6{s:St}{b':Nat}{o:Obj}(h:Br b' s.next=false):(s.new o).heap b'=s.heap b':=by simp only[BE,h,cond_false]
def AHy{a b:Nat}(h:a≠b):Br a b=false:=by
 cases h2:Br a b
 .rfl
 .exact Zq (B5 h2) h
def St.Gg{s:St}{b b':Nat}{o:Obj}(h:b'≠b):(s.set b o).heap b'=s.heap b':=St.AEv (AHy h)
def St.G0{s:St}{b' n:Nat}{o:Obj}(hn:s.next=n)(h:b'≠n):(s.new o).heap b'=s.heap b':=St.AD6 (by rw[hn];exact AHy h)
def G3{x:Option JJ}{s s':St}{v:PV}{rd wr:LN}(h:H8 x s v s' rd wr):IJ x s=some v:=by obtain⟨q,h1,h2,_⟩:=h;simp only[IJ,h1,h2]
def Ib{r:Option PV}{v:PV}(h:r=some v):Q5 [r]=some [v]:=by subst h;rfl
def ND{l:LP}{s:St}:JF (.agg l) s=(.agg l,s):=rfl
def Gx{l:LP}{s:St}:JF (.tuple l) s=(.tuple l,s):=rfl
def MK{c:Bool}{s:St}:JF (.bool c) s=(.bool c,s):=rfl
def Ky{k:IntKind}{i:Int}{s:St}:JF (.int k i) s=(.int k i,s):=rfl
def nG{c:BA}{s:St}:JF (.Gh c) s=(.Gh c,s):=rfl
def Ld{l:LLP}{s:St}:JF (.GV l) s=(.GV l,s):=rfl
def KB{e:Nat}{l:LLP}{s:St}:JF (.HL e l) s=(.HL s.next l,s.new (.HE l.length e)):=rfl
def MQ{b:Nat}{c:LP}{s:St}:Hc s [b] [c]=s.set b (.box c):=rfl
def Jl{s:St}:Hc s [] []=s:=rfl
def G1{o:Obj}{s:St}:(s.new o).next=s.next+1:=rfl
def HI{b:Nat}{o:Obj}{s:St}:(s.set b o).next=s.next:=rfl
def AEy{l:List Obj}{hp:HO}{n:Nat}:(Qx l hp n).next=n:=rfl
def IG{c:LLP}:(MJ c).next=c.length:=rfl
def HB{n:Int}(h: -9223372036854775808<=n)(h':n<=9223372036854775807):IntKind.i64.wrap n=n:=IntWalk.i64_in n ⟨h,h'⟩
def zn{p:Prop}(h:p:=by dsimp only[IG,AEy,G1,HI,ND,Gx,MK,Ky,nG,Ld,KB,MQ,Jl,CE,List.length_nil]<;>rfl):p:=h
def zs{p:Prop}(h:p:=by dsimp only[cells,PT.GG,Ca,Cb]<;>rfl):p:=h
def zh{p:Prop}(h:p:=by repeat(first|exact St.HJ|exact St.H3 rfl|refine(St.AEv rfl).trans ?_|refine(St.AD6 rfl).trans ?_|refine(St.Gg AA).trans ?_|refine(St.G0 zn AA).trans ?_|rfl|assumption)):p:=h
def zo{p:Prop}(h:p:=by first|exact Kl|exact Hj|exact GH rfl rfl|exact Gt rfl|exact Lw zn|exact Mh rfl zn|exact ANa zn|exact KD rfl rfl rfl zs|exact Og|exact Pc|exact AH9|exact Il|exact Lq|exact pb|exact AEN|exact kP|exact ANW|exact ANY|exact Zb|exact ANV|exact AEO zn|exact AWW rfl|exact Hm rfl rfl|exact IZ rfl rfl rfl rfl|exact AJ9 zn|exact ANe|exact Pw|exact Hg rfl|exact IB rfl|exact S8|exact ASG|exact ANc|exact H5 rfl|exact pe rfl|exact bj rfl (by dsimp only[xh,MU,PV.cells]<;>rfl)|exact bh (by dsimp only[yu,JC,PV.cells,PV.data]<;>rfl)|exact AWX rfl|exact M7 rfl rfl|exact MB rfl|exact AEP|exact sP rfl rfl rfl rfl|exact GH zh rfl|exact Hm zh rfl|exact KD zh rfl rfl zs|exact IZ zh rfl rfl rfl|exact IZ zh rfl rfl AN|exact sP zh rfl rfl rfl):p:=h
def M5(a:Nat):H2 a a=[]:=by simp[H2]
def OY(a:Nat):H2 a (a+1)=[a]:=by simp[H2]
def zc{p:Prop}(h:p:=by simp only[G1,HI,IG,ND,Gx,KB,Ky,MK,nG,Ld,Jl,MQ,dN,M5,OY,CC,CG]<;>kernel_rfl):p:=h
structure ZH (B:Prop):Prop where
 out:B
def zv{A B:Prop}(h:B)(k:ZH B->A:=by intro zq;(repeat(first|(apply Fy;· exact zo)|refine ct ?_|refine cf ?_|(apply GR;· exact zo)|refine ACw ?_|refine bH ?_|refine ACx ?_|refine dd ?_|refine jg ?_|(apply LZ;· exact zo)|(apply KS;· exact zo)|refine vC ?_|refine z8 ?_));exact zq.out):A:=k ⟨h⟩
def zi{A B:Prop}(k:ZH B->A:=by intro zq;refine zv ?_;exact zq.out):ZH B->A:=k
section
variable{P:Program} {s s' s0 s1:St} {k:PV->St->Prop} {kl:KL} {v:PV} {x:Option JJ} {rd wr:LN} {B:Prop}
def pQ_v(h:H8 x s v s' rd wr)(hB:B)(z:ZH B->k v s':=by exact zi):pQ x s k:=Fy h (z ⟨hB⟩)
def AZc(h:H8 x s v s' rd wr)(hB:B)(z:ZH B->kl v s' rd wr:=by exact zi):I2 x s kl:=GR h (z ⟨hB⟩)
def AYo(h:H8 x s v s' rd wr)(hB:B)(z:ZH B->kl v s' rd wr:=by exact zi):Ic (.bool true) true (λk=>I2 x s k) kl s0:=LZ h (z ⟨hB⟩)
def AYn(h:H8 x s v s' rd wr)(hB:B)(z:ZH B->kl v s' rd wr:=by exact zi):Ic (.bool false) false (λk=>I2 x s k) kl s0:=KS h (z ⟨hB⟩)
def ATj{f:B9}{vs args:LP}{HV G9:LLP}{r:PV}{bs:LN}(h:PC P f args HV r G9)(h1:JA vs 0=some (args,bs))(h2:Lp bs=true)(h3:Gv s bs=some HV)(h4:G9.length=bs.length)
 (hB:B)(z:ZH B->k (JF r (Hc s bs G9)).1 (JF r (Hc s bs G9)).2:=by exact zi):Gn P f vs s k:=GI h h1 h2 h3 h4 (z ⟨hB⟩)
def ASI{f:B9}{vs args:LP}{HV G9:LLP}{r:PV}{bs:LN}(h:PC P f args HV r G9)(h1:JA vs 0=some (args,bs))(h2:Lp bs=true)(h3:Gv s bs=some HV)(h4:G9.length=bs.length)
 (hB:B)(z:ZH B->kl (JF r (Hc s bs G9)).1 (JF r (Hc s bs G9)).2 [] bs:=by exact zi):Gb P f vs s kl:=Gy h h1 h2 h3 h4 (z ⟨hB⟩)
end
def AZi(j:Int)(h: -9223372036854775808<=j+1:=by omega)(h':j+1<=9223372036854775807:=by omega):IntKind.i64.wrap (j+1)=j+1:=HB h h'
def AT5{b:Bool}{A B:Prop}(h:A)(h':B):Gs (.bool b) A B:=⟨λ_=>h,λ_=>h'⟩
def AT6{b:Bool}{A B:Prop}(h:A)(h':b=false->B):Gs (.bool b) A B:=⟨λ_=>h,h'⟩
def AT7{b:Bool}{A B:Prop}(h:b=true->A)(h':B):Gs (.bool b) A B:=⟨h,λ_=>h'⟩
section
variable{P:Program} {s:St} {k:PV->St->Prop} {kl:KL} {f:FuncId} {vs args:LP} {HV G9:LLP} {r:PV} {bs:LN} {B:Prop}
def AZa(h:PC P f args HV r G9)(hk:k (JF r (Hc s bs G9)).1 (JF r (Hc s bs G9)).2)(h1:JA vs 0=some (args,bs):=by rfl)(h2:Lp bs=true:=by rfl)(h3:Gv s bs=some HV:=by rfl)(h4:G9.length=bs.length:=by rfl):Gn P f vs s k:=GI h h1 h2 h3 h4 hk
def AWd(h:PC P f args HV r G9)(hk:kl (JF r (Hc s bs G9)).1 (JF r (Hc s bs G9)).2 [] bs)(h1:JA vs 0=some (args,bs):=by rfl)(h2:Lp bs=true:=by rfl)(h3:Gv s bs=some HV:=by rfl)(h4:G9.length=bs.length:=by rfl):Gb P f vs s kl:=Gy h h1 h2 h3 h4 hk
def AZb(h:PC P f args HV r G9)(hB:B)(h1:JA vs 0=some (args,bs):=by rfl)(h2:Lp bs=true:=by rfl)(h3:Gv s bs=some HV:=by rfl)(h4:G9.length=bs.length:=by rfl)(z:ZH B->k (JF r (Hc s bs G9)).1 (JF r (Hc s bs G9)).2:=by exact zi):Gn P f vs s k:=GI h h1 h2 h3 h4 (z ⟨hB⟩)
def AWe(h:PC P f args HV r G9)(hB:B)(h1:JA vs 0=some (args,bs):=by rfl)(h2:Lp bs=true:=by rfl)(h3:Gv s bs=some HV:=by rfl)(h4:G9.length=bs.length:=by rfl)(z:ZH B->kl (JF r (Hc s bs G9)).1 (JF r (Hc s bs G9)).2 [] bs:=by exact zi):Gb P f vs s kl:=Gy h h1 h2 h3 h4 (z ⟨hB⟩)
end
end
attribute [local irreducible] H0 HR Gp Ht Gf Hu GJ GM Gc HK HC JI G6 Hs Hq Ho JZ Jd Ip JN JW G2 Gq Hb pQ I2 Ic Gn Gb Gs HA HZ H8 Int.instDecidableEq Int.decEq instBEqOfDecidableEq
section
open Go.Proofs
structure PT where
 kind:Int
 Pg:ByteArray
 n:Int
 tk:Int
 tl:Int
 GY:Int
instance:Inhabited PT:=⟨⟨5,⟨#[]⟩,0,0,0,0⟩⟩
def PT.GG(t:PT):LP:=[I t.kind,.Gh t.Pg,I t.n,I t.tk,I t.tl,I t.GY]
def cells(L:List PT)(a e b n:Int):LP:=[.GV (L.map PT.GG),I a,I e,I b,I n]
def At(L:List PT)(a:Int):Prop:=0<=a/\a<L.length
@[irreducible]def Hf(L:List PT)(a:Int):PT:=L.getD a.toNat default
def mu(L:List PT)(a e:Int):Int:=if e=0 then L.length-a else 0
def zA{L:List PT}{a:Int}(h:At L a):(L.map PT.GG)[a.toNat]?=some (Hf L a).GG:=by obtain⟨h0,h1⟩:=h;have G7:a.toNat<L.length:=AA;unfold Hf;simp[CK,Bc G7]
structure Ii (L:List PT):Prop where
 pos:0<L.length
 le:L.length<=20000
 O1:∀a,At L a->(Hf L a).kind≠5->a+1<L.length
 tk:∀a,At L a->0<=(Hf L a).tk/\(Hf L a).tk<=9
 tl:∀a,At L a->(Hf L a).tl=0
section
variable{L:List PT} {a e b n:Int}
def Qp(h:At L a):0<=mu L a e:=by unfold mu;unfold At at h;split<;>omega
def Om(h:At L a)(he:e=0):0<mu L a e:=by unfold mu;unfold At at h;rw[Ps he];omega
def Kg(he:e≠0):mu L a e=0:=by unfold mu;rw[Ng he]
def Ha(he:e=0):mu L a e=L.length-a:=by unfold mu;rw[Ps he]
def At.O1(hL:Ii L):At L (L.length-1):=by have:=hL.pos;constructor<;>omega
def At.lt(hL:Ii L)(h:At L a):a<20000:=by have:=hL.le;unfold At at h;omega
end
def TK(L:List PT)(a e:Int)(w:BA):Bool:=(e==0)&&((Hf L a).kind==3||(Hf L a).kind==4)&&((Hf L a).Pg.toList==w.toList)
def ry{L:List PT}{a e:Int}{w:BA}(h:TK L a e w=true):e=0/\((Hf L a).kind=3\/(Hf L a).kind=4)/\(Hf L a).Pg.toList=w.toList:=by simp only[TK,Bo,D6,beq_iff_eq]at h;exact⟨h.1.1,h.1.2,h.2⟩
def L8{L:List PT}{a e:Int}{w:BA}(hL:Ii L)(ha:At L a)(h:TK L a e w=true):e=0/\At L (a+1):=by obtain⟨h1,h2,_⟩:=ry h;have:=hL.O1 a ha AA;exact⟨h1,by unfold At at*;omega⟩
def PF(L:List PT)(f:Nat)(args:LP)(a e b n:Int)(Q:PV->Int->Int->Int->Int->Prop):Prop:=PQ BZ f (.GN 0 0::args) [cells L a e b n] λr c=>∃a' e' b' n',c=[cells L a' e' b' n']/\Q r a' e' b' n'
section
variable{L:List PT} {a e b n:Int} {s:St} {k:F1} {kl:KL} {args vs:LP} {f:Nat} {Q:PV->Int->Int->Int->Int->Prop}
def PF.call(h:PF L f args a e b n Q)(h1:JA vs 0=some (.GN 0 0::args,[0]))(h3:Gv s [0]=some [cells L a e b n])
  (hk:∀r a' e' b' n',Q r a' e' b' n'->k (JF r (s.set 0 (.box (cells L a' e' b' n')))).1 (JF r (s.set 0 (.box (cells L a' e' b' n')))).2):Gn BZ f vs s k:=by
 obtain⟨r,c,IE,a',e',b',n',rfl,hq⟩:=h;exact GI IE h1 rfl h3 rfl (hk r a' e' b' n' hq)
def PF.ie(h:PF L f args a e b n Q)(h1:JA vs 0=some (.GN 0 0::args,[0]))(h3:Gv s [0]=some [cells L a e b n])
  (hk:∀r a' e' b' n',Q r a' e' b' n'->kl (JF r (s.set 0 (.box (cells L a' e' b' n')))).1 (JF r (s.set 0 (.box (cells L a' e' b' n')))).2 [] [0]):Gb BZ f vs s kl:=by
 obtain⟨r,c,IE,a',e',b',n',rfl,hq⟩:=h;exact Gy IE h1 rfl h3 rfl (hk r a' e' b' n' hq)
end
section
variable{L:List PT} {a e b n:Int}
def qG(ha:At L a):PF L 119 [] a e b n (λr a' e' b' n'=>r=.agg (Hf L a).GG/\a'=a/\e'=e/\b'=b/\n'=n):=by refine AF8 0 rfl _ ?_;unfold APD;refine zv ?_;refine AZc (Gk ha.1 (zA ha) rfl) ?_;refine⟨by kernel_rfl,GW AbR rfl rfl ⟨a,e,b,n,rfl,rfl,rfl,rfl,rfl,rfl⟩⟩
def NX{s:St}{k:F1}(h3:Gv s [0]=some [cells L a e b n])(ha:At L a)(hk:k (.agg (Hf L a).GG) (s.set 0 (.box (cells L a e b n)))):Gn BZ 119 [.GN 0 0] s k:=(qG ha).call rfl h3 λr a' e' b' n' h=>by obtain⟨rfl,rfl,rfl,rfl,rfl⟩:=h;exact hk
def zZ{s:St}{k:KL}(h3:Gv s [0]=some [cells L a e b n])(ha:At L a)(hk:k (.agg (Hf L a).GG) (s.set 0 (.box (cells L a e b n))) [] [0]):Gb BZ 119 [.GN 0 0] s k:=(qG ha).ie rfl h3 λr a' e' b' n' h=>by obtain⟨rfl,rfl,rfl,rfl,rfl⟩:=h;exact hk
def AJ4(ha:At L a)(w:BA):PF L 120 [.Gh w] a e b n (λr a' e' b' n'=>r=.bool (TK L a e w)/\a'=a/\e'=e/\b'=b/\n'=n):=by
 refine AF9 0 rfl _ _ ?_;unfold APE;refine NX rfl ha ?_;refine zv ?_;cases h:e==0
 .refine zv ?_;refine GW rfl rfl rfl ⟨a,e,b,n,rfl,?_,rfl,rfl,rfl,rfl⟩;simp only[TK,h];rfl
 .refine zv ?_;cases h1:(Hf L a).kind==3
  .refine zv ?_;cases h2:(Hf L a).kind==4
   .exact AfP
   .exact AfP
  .refine zv ?_;refine GW rfl rfl rfl ⟨a,e,b,n,rfl,?_,rfl,rfl,rfl,rfl⟩;simp only[TK,h,h1];rfl
def PM{s:St}{k:F1}{w:BA}(h3:Gv s [0]=some [cells L a e b n])(ha:At L a)(hk:k (.bool (TK L a e w)) (s.set 0 (.box (cells L a e b n)))):Gn BZ 120 [.GN 0 0,.Gh w] s k:=(AJ4 ha w).call rfl h3 λr a' e' b' n' h=>by obtain⟨rfl,rfl,rfl,rfl,rfl⟩:=h;exact hk
def Xn(hL:Ii L)(ha:At L a){x:Int}(hx:x≠0):PF L 121 [I x] a e b n (λr a' e' b' n'=>r=.tuple []/\a'=L.length-1/\e'≠0/\n'=n):=by
 have hp:=hL.pos;have hle:=hL.le;have hw:IntKind.i64.wrap (↑(L.map PT.GG).length-1)=L.length-1:=by rw[Bb];exact HB AA AA
 refine AGA 0 rfl _ _ ?_;unfold APF;refine zv ?_;cases h:e==0
 .refine zv ?_;refine GW rfl rfl rfl ⟨_,e,b,n,rfl,rfl,hw,by simpa using h,rfl⟩
 .refine zv ?_;refine AZc (Gk ha.1 (zA ha) rfl) ?_;refine⟨by kernel_rfl,?_⟩;refine zv ?_;refine GW rfl rfl rfl ⟨_,x,_,n,rfl,rfl,hw,hx,rfl⟩
def KA{s:St}{k:F1}{x:Int}(hL:Ii L)(hx:x≠0)(h3:Gv s [0]=some [cells L a e b n])(ha:At L a)(hk:∀e' b',e'≠0->k (.tuple []) (s.set 0 (.box (cells L (L.length-1) e' b' n)))):Gn BZ 121 [.GN 0 0,I x] s k:=(Xn hL ha hx).call rfl h3 λr a' e' b' n' h=>by obtain⟨rfl,rfl,h,rfl⟩:=h;exact hk e' b' h
def Adv(L:List PT)(a e a' e':Int):Prop:=At L a'/\mu L a' e'<=mu L a e
def T7(L:List PT)(a e a' e':Int):Prop:=At L a'/\(e=0->mu L a' e'<mu L a e)/\(e≠0->e'≠0)
def Oq(hL:Ii L)(ha:At L a):IntKind.i64.wrap (a+1)=a+1:=by have:=ha.lt hL;exact HB (by unfold At at ha;omega) AA
def Nn(hL:Ii L)(ha:At L a){e':Int}(h:e'≠0):T7 L a e (L.length-1) e':=⟨At.O1 hL,λhe=>by rw[Kg h];exact Om ha he,λ_=>h⟩
def XX(lM:At L (a+1))(he:e=0):T7 L a e (a+1) e:=⟨lM,λ_=>by rw[Ha he,Ha he];omega,λh=>Zq he h⟩
def y8(hL:Ii L)(ha:At L a)(w:BA):PF L 145 [.Gh w] a e b n (λr a' e' b' n'=>r=.tuple []/\n'=n/\T7 L a e a' e'):=by
 refine AGL 0 rfl _ _ ?_;unfold APQ;refine PM rfl ha ?_;cases h:TK L a e w
 .refine zv ?_;refine KA hL AA rfl ha λe' b' he=>?_;refine GW rfl rfl rfl ⟨_,_,_,_,rfl,rfl,rfl,Nn hL ha he⟩
 .obtain⟨he,lM⟩:=L8 hL ha h;refine zv ?_;refine GW rfl rfl rfl ⟨_,_,_,_,rfl,rfl,rfl,?_⟩;rw[Oq hL ha];exact XX lM he
def H6{s:St}{k:F1}{w:BA}(hL:Ii L)(h3:Gv s [0]=some [cells L a e b n])(ha:At L a)(hk:∀a' e' b',T7 L a e a' e'->k (.tuple []) (s.set 0 (.box (cells L a' e' b' n)))):Gn BZ 145 [.GN 0 0,.Gh w] s k:=(y8 hL ha w).call rfl h3 λr a' e' b' n' h=>by obtain⟨rfl,rfl,h⟩:=h;exact hk a' e' b' h
def kC(hL:Ii L)(ha:At L a)(w:BA):PF L 148 [.Gh w] a e b n (λr a' e' b' n'=>n'=n/\b'=b/\e'=e/\((r=.bool false/\TK L a e w=false/\a'=a)\/(r=.bool true/\TK L a e w=true/\e=0/\a'=a+1/\At L (a+1)))):=by
 refine AGN 0 rfl _ _ ?_;unfold APS;refine PM rfl ha ?_;cases h:TK L a e w
 .refine zv ?_;refine GW rfl rfl rfl ⟨_,_,_,_,rfl,rfl,rfl,rfl,.inl ⟨rfl,rfl,rfl⟩⟩
 .obtain⟨he,lM⟩:=L8 hL ha h;refine zv ?_;refine GW rfl rfl rfl ⟨_,_,_,_,rfl,rfl,rfl,rfl,.inr ⟨rfl,rfl,he,Oq hL ha,lM⟩⟩
def Ln{s:St}{k:F1}{w:BA}(hL:Ii L)(h3:Gv s [0]=some [cells L a e b n])(ha:At L a)(h0:TK L a e w=false->k (.bool false) (s.set 0 (.box (cells L a e b n))))
  (h1:TK L a e w=true->e=0->At L (a+1)->k (.bool true) (s.set 0 (.box (cells L (a+1) e b n)))):Gn BZ 148 [.GN 0 0,.Gh w] s k:=
 (kC hL ha w).call rfl h3 λr a' e' b' n' h=>by
  obtain⟨rfl,rfl,rfl,⟨rfl,h,rfl⟩|⟨rfl,h,he,rfl,h'⟩⟩:=h
  .exact h0 h
  .exact h1 h he h'
def yS(hL:Ii L)(ha:At L a):PF L 146 [] a e b n (λr a' e' b' n'=>n'=n/\(∃w,r=.Gh w)/\T7 L a e a' e'):=by
 refine AGM 0 rfl _ ?_;unfold APR;refine NX rfl ha ?_;refine zv ?_;cases h:e !=0
 .have he:e=0:=by simpa using h
  refine zv ?_;cases h1:(Hf L a).kind !=1
  .have hk:(Hf L a).kind=1:=by simpa using h1
   have lM:=hL.O1 a ha AA;exact AfU
  .exact Ada
 .exact Ada
def Nr{s:St}{k:F1}(hL:Ii L)(h3:Gv s [0]=some [cells L a e b n])(ha:At L a)(hk:∀w a' e' b',T7 L a e a' e'->k (.Gh w) (s.set 0 (.box (cells L a' e' b' n)))):Gn BZ 146 [.GN 0 0] s k:=(yS hL ha).call rfl h3 λr a' e' b' n' h=>by obtain⟨rfl,⟨w,rfl⟩,h⟩:=h;exact hk w a' e' b' h
def y4(hL:Ii L)(ha:At L a):PF L 164 [] a e b n (λr a' e' b' n'=>n'=n/\(∃w,r=I w)/\T7 L a e a' e'):=by
 refine AGX 0 rfl _ ?_;unfold APc;refine NX rfl ha ?_;refine zv ?_;cases h:e !=0
 .have he:e=0:=by simpa using h
  refine zv ?_;cases h1:(Hf L a).kind !=2
  .have hk:(Hf L a).kind=2:=by simpa using h1
   have lM:=hL.O1 a ha AA;refine zv ?_;cases h2:(Hf L a).tk !=0
   .exact AfU
   .exact Ada
  .exact Ada
 .exact Ada
def dD{s:St}{k:F1}(hL:Ii L)(h3:Gv s [0]=some [cells L a e b n])(ha:At L a)(hk:∀w a' e' b',T7 L a e a' e'->k (I w) (s.set 0 (.box (cells L a' e' b' n)))):Gn BZ 164 [.GN 0 0] s k:=(y4 hL ha).call rfl h3 λr a' e' b' n' h=>by obtain⟨rfl,⟨w,rfl⟩,h⟩:=h;exact hk w a' e' b' h
def xj(hL:Ii L)(ha:At L a)(x y:Int):PF L 122 [I x,I y] a e b n (λr a' e' b' n'=>n'=n/\((r=.bool false/\x<y/\a'=a/\e'=e/\b'=b)\/(r=.bool true/\y<=x/\a'=L.length-1/\e'≠0))):=by
 refine AGB 0 rfl _ _ _ ?_;unfold APG;refine zv ?_;refine GF (λh=>?_) λh=>?_
 .refine KA hL AA rfl ha λe' b' he=>?_;refine GW rfl rfl rfl ⟨_,_,_,_,rfl,rfl,.inr ⟨rfl,by simpa using h,rfl,he⟩⟩
 .refine GW rfl rfl rfl ⟨_,_,_,_,rfl,rfl,.inl ⟨rfl,by simpa using h,rfl,rfl,rfl⟩⟩
def AIE(hL:Ii L)(ha:At L a):PF L 169 [] a e b n (λr a' e' b' n'=>(r=.bool true/\a'=a/\e'=e)\/(r=.bool false/\a'=L.length-1/\e'≠0)):=by
 refine AGc 0 rfl _ ?_;unfold APh;refine zv ?_;refine GF (λh=>?_) λh=>?_
 .refine KA hL AA rfl ha λe' b' he=>?_;refine GW rfl rfl rfl ⟨_,_,_,_,rfl,.inr ⟨rfl,rfl,he⟩⟩
 .refine GW rfl rfl rfl ⟨_,_,_,_,rfl,.inl ⟨rfl,rfl,rfl⟩⟩
def mN{s:St}{k:F1}(hL:Ii L)(h3:Gv s [0]=some [cells L a e b n])(ha:At L a)(h0:∀b' n',k (.bool true) (s.set 0 (.box (cells L a e b' n'))))
  (h1:∀e' b' n',e'≠0->k (.bool false) (s.set 0 (.box (cells L (L.length-1) e' b' n')))):Gn BZ 169 [.GN 0 0] s k:=
 (AIE hL ha).call rfl h3 λr a' e' b' n' h=>by
  obtain⟨rfl,rfl,rfl⟩|⟨rfl,rfl,h⟩:=h
  .exact h0 b' n'
  .exact h1 e' b' n' h
end
end
section
structure Edge where
 name:ByteArray
 on:Bool
def Edge.GG(g:Edge):LP:=[.Gh g.name,.bool g.on]
structure Ge where
 name:ByteArray
 tk:Int
 tl:Int
 Ga:List Edge
 GY:Int
def Ge.GG(v:Ge):LP:=[.Gh v.name,I v.tk,I v.tl,.GV (v.Ga.map Edge.GG),I v.GY]
inductive Gw where
 |mk (form sub:Int) (name:ByteArray) (tk tl n m:Int) (GP:List Gw) (GY:Int)
mutual
def Gw.GG:Gw->List PV
 | .mk form sub name tk tl n m GP a=>[.int .i64 form,.int .i64 sub,.Gh name,.int .i64 tk,.int .i64 tl,.int .i64 n,.int .i64 m,.GV (Gw.GK GP),.int .i64 a]
def Gw.GK:List Gw->List (List PV)
 |[]=>[]
 |k::r=>k.GG::Gw.GK r
end
structure Gj where
 cond:Gw
 to:ByteArray
 uZ:Bool
 GY:Int
def Gj.GG(t:Gj):LP:=t.cond.GG++[.Gh t.to,.bool t.uZ,I t.GY]
mutual
inductive Item where
 |mk (GL:List ByteArray) (e:Gw) (GB:List GD) (GY:Int)
inductive GD where
 |mk (name:ByteArray) (JB Jg:List Gj) (GA:List Ge) (GQ:List Item) (GY:Int)
end
def GC(n:BA):LP:=[.Gh n]
mutual
def Item.GG:Item->List PV
 | .mk GL e GB a=>[.GV (GL.map GC)]++e.GG++[.GV (GD.GK GB),.int .i64 a]
def Item.GK:List Item->List (List PV)
 |[]=>[]
 |k::r=>k.GG::Item.GK r
def GD.GG:GD->List PV
 | .mk name JB Jg GA GQ a=>[.Gh name,.GV (JB.map Gj.GG),.GV (Jg.map Gj.GG),.GV (GA.map Ge.GG),.GV (Item.GK GQ),.int .i64 a]
def GD.GK:List GD->List (List PV)
 |[]=>[]
 |k::r=>k.GG::GD.GK r
end
structure GO where
 name:ByteArray
 JS:List Ge
 Hz:List Ge
 GA:List Ge
 GQ:List Item
 GY:Int
def GO.GG(n:GO):LP:=[.Gh n.name,.GV (n.JS.map Ge.GG),.GV (n.Hz.map Ge.GG),.GV (n.GA.map Ge.GG),.GV (Item.GK n.GQ),I n.GY]
def Gw.form:Gw->Int| .mk f _ _ _ _ _ _ _ _=>f
def Gw.sub:Gw->Int| .mk _ s _ _ _ _ _ _ _=>s
def Gw.name:Gw->BA| .mk _ _ n _ _ _ _ _ _=>n
def Gw.tk:Gw->Int| .mk _ _ _ t _ _ _ _ _=>t
def Gw.tl:Gw->Int| .mk _ _ _ _ t _ _ _ _=>t
def Gw.n:Gw->Int| .mk _ _ _ _ _ n _ _ _=>n
def Gw.m:Gw->Int| .mk _ _ _ _ _ _ m _ _=>m
def Gw.GP:Gw->List Gw| .mk _ _ _ _ _ _ _ k _=>k
def Gw.GY:Gw->Int| .mk _ _ _ _ _ _ _ _ a=>a
def Item.GL:Item->List BA| .mk n _ _ _=>n
def Item.e:Item->Gw| .mk _ e _ _=>e
def Item.GB:Item->List GD| .mk _ _ s _=>s
def Item.GY:Item->Int| .mk _ _ _ a=>a
def GD.name:GD->BA| .mk n _ _ _ _ _=>n
def GD.JB:GD->List Gj| .mk _ u _ _ _ _=>u
def GD.Jg:GD->List Gj| .mk _ _ u _ _ _=>u
def GD.GA:GD->List Ge| .mk _ _ _ l _ _=>l
def GD.GQ:GD->List Item| .mk _ _ _ _ i _=>i
def GD.GY:GD->Int| .mk _ _ _ _ _ a=>a
def Gw.Iu:∀l:List Gw,Gw.GK l=l.map Gw.GG
 |[]=>by simp[Gw.GK]
 |k::r=>by simp[Gw.GK,Gw.Iu r]
def Item.Iu:∀l:List Item,Item.GK l=l.map Item.GG
 |[]=>by simp[Item.GK]
 |k::r=>by simp[Item.GK,Item.Iu r]
def GD.Iu:∀l:List GD,GD.GK l=l.map GD.GG
 |[]=>by simp[GD.GK]
 |k::r=>by simp[GD.GK,GD.Iu r]
def Gw.IC(x:Gw):x.GG=[I x.form,I x.sub,.Gh x.name,I x.tk,I x.tl,I x.n,I x.m,.GV (x.GP.map Gw.GG),I x.GY]:=by cases x;simp only[Gw.GG,Gw.Iu];rfl
def Item.IC(x:Item):x.GG=[.GV (x.GL.map GC)]++x.e.GG++[.GV (x.GB.map GD.GG),I x.GY]:=by cases x;simp only[Item.GG,GD.Iu];rfl
def GD.IC(x:GD):x.GG=[.Gh x.name,.GV (x.JB.map Gj.GG),.GV (x.Jg.map Gj.GG),.GV (x.GA.map Ge.GG),.GV (x.GQ.map Item.GG),I x.GY]:=by cases x;simp only[GD.GG,Item.Iu];rfl
def Gw.GX(x:Gw):x.GG.length=9:=by rw[Gw.IC];rfl
def Item.GX(x:Item):x.GG.length=12:=by rw[Item.IC];simp[Gw.GX]
def GD.GX(x:GD):x.GG.length=6:=by rw[GD.IC];rfl
def Gj.GX(x:Gj):x.GG.length=12:=by simp[Gj.GG,Gw.GX]
mutual
def Gw.wt:Gw->Nat
 | .mk form _ _ _ _ _ _ GP _=>(if form=0 then 0 else 1)+Gw.HS GP
def Gw.HS:List Gw->Nat
 |[]=>0
 |k::r=>k.wt+Gw.HS r
end
def Gj.wt(t:Gj):Nat:=1+t.cond.wt
def Gj.HS:List Gj->Nat
 |[]=>0
 |t::r=>t.wt+Gj.HS r
mutual
def Item.wt:Item->Nat
 | .mk GL e GB _=>GL.length+e.wt+GD.HS GB
def Item.HS:List Item->Nat
 |[]=>0
 |k::r=>k.wt+Item.HS r
def GD.wt:GD->Nat
 | .mk _ JB Jg GA GQ _=>1+Gj.HS JB+Gj.HS Jg+GA.length+Item.HS GQ
def GD.HS:List GD->Nat
 |[]=>0
 |k::r=>k.wt+GD.HS r
end
def GO.wt(n:GO):Nat:=1+n.JS.length+n.Hz.length+n.GA.length+Item.HS n.GQ
def GO.HS:List GO->Nat
 |[]=>0
 |k::r=>k.wt+GO.HS r
def Gw.HY:∀(l k:List Gw),Gw.HS (l++k)=Gw.HS l+Gw.HS k
 |[],k=>by simp[Gw.HS]
 |x::l,k=>by simp[Gw.HS,Gw.HY l k];omega
def Gj.HY:∀(l k:List Gj),Gj.HS (l++k)=Gj.HS l+Gj.HS k
 |[],k=>by simp[Gj.HS]
 |x::l,k=>by simp[Gj.HS,Gj.HY l k];omega
def Item.HY:∀(l k:List Item),Item.HS (l++k)=Item.HS l+Item.HS k
 |[],k=>by simp[Item.HS]
 |x::l,k=>by simp[Item.HS,Item.HY l k];omega
def GD.HY:∀(l k:List GD),GD.HS (l++k)=GD.HS l+GD.HS k
 |[],k=>by simp[GD.HS]
 |x::l,k=>by simp[GD.HS,GD.HY l k];omega
def GO.HY:∀(l k:List GO),GO.HS (l++k)=GO.HS l+GO.HS k
 |[],k=>by simp[GO.HS]
 |x::l,k=>by simp[GO.HS,GO.HY l k];omega
section
variable{f s tk tl i m GY p q:Int} {nm:BA} {x y z:Gw} {l:List Gw}
def fJ:(Gw.mk f s nm tk tl i m l GY).wt<=1+Gw.HS l:=by simp only[Gw.wt];split<;>omega
def AOI:(Gw.mk f s nm tk tl i m [x,y] GY).wt<=1+x.wt+y.wt:=by have:=@fJ f s tk tl i m GY nm [x,y];simp only[Gw.HS]at this;omega
def AOH:(Gw.mk f s nm tk tl i m [x] GY).wt<=1+x.wt:=by have:=@fJ f s tk tl i m GY nm [x];simp only[Gw.HS]at this;omega
def AOG:(Gw.mk f s nm tk tl i m [] GY).wt<=1:=by have:=@fJ f s tk tl i m GY nm [];simp only[Gw.HS]at this;omega
def wlz(h:p<=q):((Gw.mk 0 s nm tk tl i m [] GY).wt:Int)+p<=q:=by simp[Gw.wt,Gw.HS];omega
def wl0(h:1+p<=q):((Gw.mk f s nm tk tl i m [] GY).wt:Int)+p<=q:=by have:=@fJ f s tk tl i m GY nm [];simp only[Gw.HS]at this;omega
def wl1(h:1+x.wt+p<=q):((Gw.mk f s nm tk tl i m [x] GY).wt:Int)+p<=q:=by have:=@fJ f s tk tl i m GY nm [x];simp only[Gw.HS]at this;omega
def wl2(h:1+x.wt+y.wt+p<=q):((Gw.mk f s nm tk tl i m [x,y] GY).wt:Int)+p<=q:=by have:=@fJ f s tk tl i m GY nm [x,y];simp only[Gw.HS]at this;omega
def wl3(h:1+x.wt+y.wt+z.wt+p<=q):((Gw.mk f s nm tk tl i m [x,y,z] GY).wt:Int)+p<=q:=by have:=@fJ f s tk tl i m GY nm [x,y,z];simp only[Gw.HS]at this;omega
def wlL(h:1+Gw.HS l+p<=q):((Gw.mk f s nm tk tl i m l GY).wt:Int)+p<=q:=by have:=@fJ f s tk tl i m GY nm l;omega
end
def RY:∀{l k:LP},JC l=some l->JC k=some k->JC (l++k)=some (l++k)
 |[],k,_,h=>h
 |v::l,k,h,h'=>by
  simp only[JC]at h;split at h
  .rename_i x hx;split at h
   .rename_i r hr;simp only[Bh,FE]at h;obtain⟨rfl,rfl⟩:=h;simp only[List.cons_append,JC,hx,RY hr h']
   .cases h
  .cases h
def Gw.JC(x:Gw):JC x.GG=some x.GG:=by rw[Gw.IC];rfl
def Gj.JC(x:Gj):Vi.JC x.GG=some x.GG:=RY x.cond.JC rfl
def Item.JC(x:Item):Vi.JC x.GG=some x.GG:=by rw[Item.IC];exact RY (RY rfl x.e.JC) rfl
def GD.JC(x:GD):Vi.JC x.GG=some x.GG:=by rw[GD.IC];rfl
def GO.JC(x:GO):Vi.JC x.GG=some x.GG:=rfl
def Zz(f:Int)(k:Nat):Prop:=(f=3\/f=6\/f=9\/f=11\/f=16\/f=17->k=1)/\(f=4\/f=7\/f=8\/f=10\/f=19->k=2)/\(f=5->k=3)/\(f=14->1<=k)/\k<=100000
inductive Gw.WF:Gw->Prop
 |mk (form sub:Int) (name:ByteArray) (tk tl n m:Int) (GP:List Gw) (GY:Int) (Qz:Zz form GP.length) (hf:0<=form/\form<=19) (hs:form=3->sub=1\/sub=2) (td:form=4->3<=sub/\sub<=19) (ht:0<=tk/\tk<=9)
  (hk:∀k∈GP,Gw.WF k):Gw.WF (.mk form sub name tk tl n m GP GY)
structure Ge.WF (v:Ge):Prop where
 tk:0<=v.tk/\v.tk<=9
 Ga:v.Ga.length<=17
structure TB.WF (l:List Ge):Prop where
 len:l.length<=100000
 all:∀v∈l,v.WF
structure NN.WF (l:List Gj):Prop where
 len:l.length<=100000
 all:∀t∈l,t.cond.WF
mutual
inductive Item.WF:Item->Prop
 |mk (GL:List ByteArray) (e:Gw) (GB:List GD) (GY:Int) (hn:GL.length<=100000) (he:e.WF) (hl:GB.length<=100000) (hs:∀s∈GB,GD.WF s):Item.WF (.mk GL e GB GY)
inductive GD.WF:GD->Prop
 |mk (name:ByteArray) (JB Jg:List Gj) (GA:List Ge) (GQ:List Item) (GY:Int) (h1:NN.WF JB) (h2:NN.WF Jg) (h3:TB.WF GA) (h4:GQ.length<=100000) (h5:∀i∈GQ,Item.WF i):GD.WF (.mk name JB Jg GA GQ GY)
end
structure GO.WF (n:GO):Prop where
 JS:TB.WF n.JS
 Hz:TB.WF n.Hz
 GA:TB.WF n.GA
 len:n.GQ.length<=100000
 GQ:∀i∈n.GQ,i.WF
 clin:∀v∈n.JS,v.Ga=[]
 APw:∀v∈n.Hz,v.Ga=[]
end
section
open Go.Proofs
section
variable{L:List PT} {a e b n:Int}
def PE(L:List PT)(f:Nat)(args:LP)(a e b n:Int):Prop:=PF L f args a e b n λr a' e' b' n'=>
 ∃f s nm tk tl k m GP GY,r=.agg [I f,I s,.Gh nm,I tk,I tl,I k,I m,.GV (Gw.GK GP),I GY]/\(Gw.mk f s nm tk tl k m GP GY).WF/\At L a'/\((Gw.mk f s nm tk tl k m GP GY).wt:Int)+mu L a' e'<=mu L a e
def PE.call{f:Nat}{args vs:LP}{s:St}{k:F1}(h:PE L f args a e b n)(h1:JA vs 0=some (.GN 0 0::args,[0]))(h3:Gv s [0]=some [cells L a e b n])
  (hk:∀f s1 nm tk tl i m GP GY a' e' b' n',(Gw.mk f s1 nm tk tl i m GP GY).WF->At L a'->((Gw.mk f s1 nm tk tl i m GP GY).wt:Int)+mu L a' e'<=mu L a e->
   k (.agg [I f,I s1,.Gh nm,I tk,I tl,I i,I m,.GV (Gw.GK GP),I GY]) (s.set 0 (.box (cells L a' e' b' n')))):Gn BZ f vs s k:=
 PF.call h h1 h3 λr a' e' b' n' h=>by
  exact Ad7
def N1{GY:Int}:(Gw.mk 0 0 ⟨#[]⟩ 0 0 0 0 [] GY).WF:=by refine .mk _ _ _ _ _ _ _ _ _ ?_ AA AA AA AA AD;simp[Zz]
def QW(hL:Ii L){e':Int}(ha:At L a)(h:e'≠0){s tk tl i m GY:Int}{nm:BA}:At L (L.length-1)/\((Gw.mk 0 s nm tk tl i m [] GY).wt:Int)+mu L (L.length-1) e'<=mu L a e:=⟨At.O1 hL,wlz (by rw[Kg h];exact Qp ha)⟩
def qb(L:List PT)(f:Nat)(args:LP)(M:Int):Prop:=∀a e b n,At L a->mu L a e<M->PE L f args a e b n
def Px(L:List PT)(f:Nat)(args:LP)(M:Int):Prop:=∀a e b n,At L a->mu L a e<=M->PE L f args a e b n
def ALg(hL:Ii L){M:Int}(AMB:Px L 170 [] M):Px L 167 [] M:=by
 intro a e b n ha hm;refine AGa 0 rfl _ ?_;unfold APf;refine zv ?_;refine mN hL rfl ha (λb' n'=>?_) λe' b' n' he=>?_
 .refine zv ?_;refine(AMB a e b' n' ha hm).call rfl rfl λf s1 nm tk tl i m GP GY a' e' b' n' hw lM mh=>?_;exact AeO
 .exact AfY
def AN5(f s:Int)(x y:Gw):PQ BZ 172 [I f,I s,.agg x.GG,.agg y.GG] [] (λr c=>r=.agg (Gw.mk f s ⟨#[]⟩ 0 0 0 0 [x,y] x.GY).GG/\c=[]):=by
 refine AGf 0 rfl _ _ _ _ ?_;unfold APk;cases x with|mk f1 s1 sJ tJ tK i1 m1 Qo Mr=>
 cases y with|mk f2 s2 YO YR YS i2 m2 LM NO=>
 simp only[Gw.GG];refine zv ?_;refine GW AbR rfl rfl ⟨rfl,rfl⟩
def ky{f s:Int}{x y:Gw}{nm:BA}{GY:Int}(hf:f=4\/f=7\/f=8)(hs:f=4->3<=s/\s<=19)(hx:x.WF)(hy:y.WF):(Gw.mk f s nm 0 0 0 0 [x,y] GY).WF:=by
 refine .mk _ _ _ _ _ _ _ _ _ ⟨?_,?_,?_,?_,?_⟩ AA AA hs AA (by simp[hx,hy])
 all_goals simp
 all_goals omega
def We{f s:Int}{st:St}{k:F1}{f1 s1 tJ tK i1 m1 Mr f2 s2 YR YS i2 m2 NO:Int}{sJ YO:BA}{Qo LM:List Gw}
  (hk:k (.agg [I f,I s,.Gh ⟨#[]⟩,I 0,I 0,I 0,I 0,.GV (Gw.GK [.mk f1 s1 sJ tJ tK i1 m1 Qo Mr,.mk f2 s2 YO YR YS i2 m2 LM NO]),I Mr]) st):
  Gn BZ 172 [I f,I s,.agg [I f1,I s1,.Gh sJ,I tJ,I tK,I i1,I m1,.GV (Gw.GK Qo),I Mr],
   .agg [I f2,I s2,.Gh YO,I YR,I YS,I i2,I m2,.GV (Gw.GK LM),I NO]] st k:=by
 obtain⟨r,c,IE,rfl,rfl⟩:=AN5 f s (.mk f1 s1 sJ tJ tK i1 m1 Qo Mr) (.mk f2 s2 YO YR YS i2 m2 LM NO);simp only[Gw.GG]at IE;exact GI IE rfl rfl rfl rfl hk
def ABx(hL:Ii L){M:Int}(ADX:Px L 171 [] M)(bO:qb L 170 [] M):Px L 170 [] M:=by
 intro a e b n ha hm;refine AGd 0 rfl _ ?_;unfold APi;refine zv ?_;refine(ADX a e b n ha hm).call rfl rfl λf s1 nm tk tl i m GP GY a1 e1 b1 n1 hw MI mh=>?_;refine zv ?_;refine Ln hL rfl MI (λdk=>?_) λdk he Lt=>?_
 .exact Adr
 .refine zv ?_;have G7:mu L (a1+1) e1<mu L a1 e1:=by rw[Ha he,Ha he];omega
  refine(bO (a1+1) e1 b1 n1 Lt AA).call rfl rfl λf2 s2 YO YR YS i2 m2 LM NO a2 e2 b2 n2 S3 SR Me=>?_;refine zv ?_;refine We ?_;refine zv ?_;refine GW AbR rfl rfl ⟨_,_,_,_,rfl,7,0,_,_,_,_,_,_,_,rfl,ky AA AA hw S3,SR,wl2 AA⟩
def ALh(hL:Ii L){M:Int}(ADX:Px L 173 [] M)(bO:qb L 171 [] M):Px L 171 [] M:=by
 intro a e b n ha hm;refine AGe 0 rfl _ ?_;unfold APj;refine zv ?_;refine(ADX a e b n ha hm).call rfl rfl λf s1 nm tk tl i m GP GY a1 e1 b1 n1 hw MI mh=>?_;refine zv ?_;refine Ln hL rfl MI (λdk=>?_) λdk he Lt=>?_
 .exact Adr
 .refine zv ?_;have G7:mu L (a1+1) e1<mu L a1 e1:=by rw[Ha he,Ha he];omega
  refine(bO (a1+1) e1 b1 n1 Lt AA).call rfl rfl λf2 s2 YO YR YS i2 m2 LM NO a2 e2 b2 n2 S3 SR Me=>?_;refine zv ?_;refine We ?_;refine zv ?_;refine GW AbR rfl rfl ⟨_,_,_,_,rfl,8,0,_,_,_,_,_,_,_,rfl,ky AA AA hw S3,SR,wl2 AA⟩
def ANE(hL:Ii L){M:Int}(ADX:Px L 174 [I 0] M)(bO:qb L 173 [] M):Px L 173 [] M:=by
 intro a e b n ha hm;refine AGg 0 rfl _ ?_;unfold APl;refine zv ?_;refine(ADX a e b n ha hm).call rfl rfl λf s1 nm tk tl i m GP GY a1 e1 b1 n1 hw MI mh=>?_;refine zv ?_;refine Ln hL rfl MI (λdk=>?_) λdk he Lt=>?_
 .exact Adr
 .refine zv ?_;have G7:mu L (a1+1) e1<mu L a1 e1:=by rw[Ha he,Ha he];omega
  refine(bO (a1+1) e1 b1 n1 Lt AA).call rfl rfl λf2 s2 YO YR YS i2 m2 LM NO a2 e2 b2 n2 S3 SR Me=>?_;refine zv ?_;refine We ?_;refine zv ?_;refine GW AbR rfl rfl ⟨_,_,_,_,rfl,4,11,_,_,_,_,_,_,_,rfl,ky AA AA hw S3,SR,wl2 AA⟩
def AFF(hL:Ii L){M:Int}(ARc:Px L 177 [] M):Px L 175 [] M:=by
 intro a e b n ha hm;refine AGh 0 rfl _ ?_;unfold APm;refine zv ?_;refine PM rfl ha ?_;refine zv ?_;refine PM rfl ha ?_;refine zv ?_;refine PM rfl ha ?_;refine zv ?_;cases h1:TK L a e ⟨#[110,111,116]⟩<;>cases h2:TK L a e ⟨#[45]⟩<;>cases h3:TK L a e ⟨#[112,114,101]⟩<;>refine zv ?_
 .refine(ARc a e b n ha hm).call rfl rfl λf s1 nm tk tl i m GP GY a' e' b' n' hw lM mh=>?_;exact AeO
 all_goals
  refine mN hL rfl ha (λb' n'=>?_) λe' b' n' he=>?_
  .refine zv ?_;refine(ARc a e b' n' ha hm).call rfl rfl λf s1 nm tk tl i m GP GY a' e' b' n' hw lM mh=>?_;exact AeO
  .exact AfY
def ADk(hL:Ii L)(ha:At L a)(l:Int):PF L 176 [I l] a e b n (λr a' e' b' n'=>(∃op,r=I op/\(op=0\/(3<=op/\op<=19/\e=0/\At L (a+1))))/\a'=a/\e'=e/\b'=b/\n'=n):=by
 refine AGi 0 rfl _ _ ?_;unfold APn;refine NX rfl ha ?_
 have AGy:∀{s:St} {Q:PV->LLP->Prop},Gv s (CS 1)=some [cells L a e b n]->(∀r c,(∃a' e' b' n',c=[cells L a' e' b' n']/\(∃op,r=I op/\(op=0\/(3<=op/\op<=19/\e=0/\At L (a+1))))/\a'=a/\e'=e/\b'=b/\n'=n)->Q r c)->
   HA (Q5 [some (I 0)]) λl=>HZ 0 1 (Lg l) s Q:=λhs hq=>GW rfl rfl hs (hq _ _ ⟨_,_,_,_,rfl,⟨0,rfl,.inl rfl⟩,rfl,rfl,rfl,rfl⟩)
 have AP9:∀{op:Int} {s:St} {Q:PV->LLP->Prop},(3<=op/\op<=19)->(e=0/\At L (a+1))->Gv s (CS 1)=some [cells L a e b n]->(∀r c,(∃a' e' b' n',c=[cells L a' e' b' n']/\(∃op,r=I op/\(op=0\/(3<=op/\op<=19/\e=0/\At L (a+1))))/\a'=a/\e'=e/\b'=b/\n'=n)->Q r c)->
   HA (Q5 [some (I op)]) λl=>HZ 0 1 (Lg l) s Q:=λho he hs hq=>GW rfl rfl hs (hq _ _ ⟨_,_,_,_,rfl,⟨_,rfl,.inr ⟨ho.1,ho.2,he.1,he.2⟩⟩,rfl,rfl,rfl,rfl⟩)
 have go:∀{C:Bool} {X Y:Prop},(C=true->X)->(C=false->Y)->Gs (.bool C) X Y:=λh1 h2=>GF h1 h2;refine zv ?_;cases h:e !=0
 .have he:e=0:=by simpa using h
  refine zv ?_
  have hk:∀k,(Hf L a).kind=k->k≠5->At L (a+1):=λk hk hk5=>by
   have:=hL.O1 a ha AA;unfold At at*;omega
  cases h1:(Hf L a).kind !=3
  .have h2:e=0/\At L (a+1):=⟨he,hk 3 (by simpa using h1) AA⟩
   exact Aeo
  .refine zv ?_;cases h3:(Hf L a).kind !=4
   .have h2:e=0/\At L (a+1):=⟨he,hk 4 (by simpa using h3) AA⟩
    exact Aeo
   .refine zv ?_;exact AGy rfl λ_ _ h=>h
 .refine zv ?_;exact AGy rfl λ_ _ h=>h
end
end
section
open Go.Proofs
section
variable{L:List PT} {a e b n:Int}
def ADj(hL:Ii L)(ha:At L a)(l:Int):∃op,PC BZ 176 [.GN 0 0,I l] [cells L a e b n] (I op) [cells L a e b n]/\(op=0\/(3<=op/\op<=19/\e=0/\At L (a+1))):=by obtain⟨r,c,IE,a',e',b',n',hc,⟨op,hr,mq⟩,h1,h2,h3,h4⟩:=ADk (b:=b) (n:=n) (e:=e) hL ha l;rw[h1,h2,h3,h4]at hc;rw[hr,hc]at IE;exact⟨op,IE,mq⟩
def vZ(hL:Ii L){M lv:Int}(hn:Px L 174 [I (IntKind.i64.wrap (lv+1))] M){Q:PV->Int->Int->Int->Int->Prop}:
  ∀(c:Nat) {a e b n:Int} (ha:At L a) (hm:mu L a e<=M) (hc:mu L a e<=c) {f s1:Int} {nm:BA} {tk tl i m:Int} {GP:List Gw} {GY:Int} (hw:(Gw.mk f s1 nm tk tl i m GP GY).WF)
   (hQ:∀r a' e' b' n',(∃f' s' nm' tk' tl' k' m' Tx cT,r=.agg [I f',I s',.Gh nm',I tk',I tl',I k',I m',.GV (Gw.GK Tx),I cT]/\(Gw.mk f' s' nm' tk' tl' k' m' Tx cT).WF/\At L a'/\((Gw.mk f' s' nm' tk' tl' k' m' Tx cT).wt:Int)+mu L a' e'<=((Gw.mk f s1 nm tk tl i m GP GY).wt:Int)+mu L a e)->Q r a' e' b' n'),
   ∃k,∀{cs:LP} (JK:cs.length=9) (hp:HO) (nx:Nat),Xd 0 1 (λr c=>∃a' e' b' n',c=[cells L a' e' b' n']/\Q r a' e' b' n') k (.GN 0 0) (I lv) (.GN 1 0) (.GN 2 0)
    (Qx [.box (cells L a e b n),.box cs,.box [I f,I s1,.Gh nm,I tk,I tl,I i,I m,.GV (Gw.GK GP),I GY]] hp (nx+3)):=by
 intro c
 induction c with
 |zero=>
  intro a e b n ha hm hc f s1 nm tk tl i m GP GY hw hQ;have he:e≠0:=λh=>by have:=Om ha h;omega
  exact Ahn
 |succ c ih=>
  intro a e b n ha hm hc f s1 nm tk tl i m GP GY hw hQ;by_cases he:e=0
  case neg=>
   exact Ahn
  case pos=>
   obtain⟨op,IE,mq⟩:=ADj (b:=b) (n:=n) (e:=e) hL ha lv;rcases mq with rfl|⟨AVi,AVj,_,MI⟩
   .refine⟨1,λ{cs} JK hp nx=>?_⟩;show NW _ _ _ _ _ _ _ _ _;unfold NW;refine zv ?_;refine GF (λh=>?_) AbT;refine AZb IE ?_;refine GF (λh=>?_) (λh=>by simp at h);refine zv ?_;exact Adc
   .have hs:=Oq hL ha;have G7:mu L (a+1) e<mu L a e:=by rw[Ha he,Ha he];omega
    obtain⟨r,cc,I4,a2,e2,b2,n2,rfl,f2,s2,YO,YR,YS,i2,m2,LM,NO,rfl,S3,Lt,Me⟩:=hn (IntKind.i64.wrap (a+1)) e b n AM AO;rw[hs]at Me;by_cases hlv:lv=2
    .refine⟨1,λ{cs} JK hp nx=>?_⟩;show NW _ _ _ _ _ _ _ _ _;unfold NW;refine zv ?_;refine GF (λh=>?_) AbT;refine AZb IE ?_;refine GF Acu λh=>?_;refine zv ?_;refine AZb I4 ?_;refine We ?_;refine zv ?_;refine GF (λh=>?_) (λh=>Zq hlv AE);refine zv ?_;refine GW AbR rfl rfl ⟨_,_,_,_,rfl,hQ _ _ _ _ _ ⟨4,op,_,_,_,_,_,_,_,rfl,ky AA AA hw S3,Lt,wl2 AA⟩⟩
    .obtain⟨k,hk⟩:=ih (e:=e2) Lt AA AA (ky (s:=op) (GY:=GY) (nm:=⟨#[]⟩) (.inl rfl) (λ_=>⟨AVi,AVj⟩) hw S3) (b:=b2) (n:=n2) λr a' e' b' n' ⟨f',s',nm',tk',tl',k',m',Tx,cT,hr,YN,h2,h3⟩=>hQ r a' e' b' n' ⟨f',s',nm',tk',tl',k',m',Tx,cT,hr,YN,h2,by have:=AOI (f:=4) (s:=op) (nm:=⟨#[]⟩) (tk:=0) (tl:=0) (i:=0) (m:=0) (GY:=GY) (x:=.mk f s1 nm tk tl i m GP GY) (y:=.mk f2 s2 YO YR YS i2 m2 LM NO);omega⟩;refine⟨k+1,λ{cs} JK hp nx=>?_⟩;show NW _ _ _ _ _ _ _ _ _;unfold NW;refine zv ?_;refine GF (λh=>?_) AbT;refine AZb IE ?_;refine GF Acu λh=>?_;refine zv ?_;refine AZb I4 ?_;refine We ?_;refine zv ?_;refine GF (λh=>Zq AE hlv) λh=>?_;exact IF (Xd 0 1 _ k _ _ _ _) rfl rfl rfl rfl λJs=>hk JK Js (nx+1)
def ADs(hL:Ii L){M:Int}(hun:Px L 175 [] M):∀(d:Nat) (lv:Int),lv=8-d->d<=8->Px L 174 [I lv] M:=by
 intro d
 induction d with
 |zero=>
  intro lv hlv _ a e b n ha hm;have hlv:lv=8:=AA;refine xI 0 rfl _ _ ?_;unfold AKn;refine zv ?_;refine GF (λh=>?_) (λh=>Zq hlv AE);refine(hun a e b n ha hm).call rfl rfl λf s1 nm tk tl i m GP GY a1 e1 b1 n1 hw MI mh=>?_;exact Adr
 |succ d ih=>
  intro lv hlv hd a e b n ha hm;have AVP:¬lv=8:=AA;have hwr:=AZi lv
  have hn:Px L 174 [I (IntKind.i64.wrap (lv+1))] M:=by
   rw[hwr];exact ih (lv+1) AA AA
  obtain⟨r,cc,IE,a1,e1,b1,n1,rfl,f,s1,nm,tk,tl,i,m,GP,GY,rfl,hw,MI,mh⟩:=hn a e b n ha hm
  obtain⟨k,hk⟩:=vZ hL hn (mu L a1 e1).toNat (a:=a1) (e:=e1) (b:=b1) (n:=n1) MI AA (by have:=Qp (e:=e1) MI;omega) hw
   (Q:=λr a' e' b' n'=>∃f s nm tk tl k m GP GY,r=.agg [I f,I s,.Gh nm,I tk,I tl,I k,I m,.GV (Gw.GK GP),I GY]/\(Gw.mk f s nm tk tl k m GP GY).WF/\At L a'/\((Gw.mk f s nm tk tl k m GP GY).wt:Int)+mu L a' e'<=mu L a e)
   λr a' e' b' n' ⟨f',s',nm',tk',tl',k',m',Tx,cT,hr,YN,h2,h3⟩=>⟨f',s',nm',tk',tl',k',m',Tx,cT,hr,YN,h2,AA⟩
  refine xI 0 rfl _ _ ?_;unfold AKn;refine zv ?_;refine GF (λh=>Zq AE AVP) λh=>?_;refine zv ?_;refine AZb IE ?_;refine⟨k,?_⟩;exact IF (Xd 0 1 _ k _ _ _ _) rfl rfl rfl rfl λJs=>hk (by rfl) Js 0
end
end
section
open Go.Proofs
section
variable{L:List PT} {a e b n:Int}
def YE(hL:Ii L)(ha:At L a)(w:BA):∃a' e' b',PC BZ 145 [.GN 0 0,.Gh w] [cells L a e b n] (.tuple []) [cells L a' e' b' n]/\T7 L a e a' e':=by obtain⟨r,c,IE,a',e',b',n',hc,hr,hn,pA⟩:=y8 (b:=b) (n:=n) (e:=e) hL ha w;rw[hn]at hc;rw[hr,hc]at IE;exact⟨a',e',b',IE,pA⟩
def gS(hL:Ii L)(ha:At L a):∃w a' e' b',PC BZ 146 [.GN 0 0] [cells L a e b n] (.Gh w) [cells L a' e' b' n]/\T7 L a e a' e':=by obtain⟨r,c,IE,a',e',b',n',hc,hn,⟨w,hr⟩,pA⟩:=yS (b:=b) (n:=n) (e:=e) hL ha;exact Ag6
def yz(hL:Ii L)(ha:At L a):∃w a' e' b',PC BZ 164 [.GN 0 0] [cells L a e b n] (I w) [cells L a' e' b' n]/\T7 L a e a' e':=by obtain⟨r,c,IE,a',e',b',n',hc,hn,⟨w,hr⟩,pA⟩:=y4 (b:=b) (n:=n) (e:=e) hL ha;exact Ag6
def ew(ha:At L a)(w:BA):PC BZ 120 [.GN 0 0,.Gh w] [cells L a e b n] (.bool (TK L a e w)) [cells L a e b n]:=by obtain⟨r,c,IE,a',e',b',n',hc,hr,h1,h2,h3,h4⟩:=AJ4 (b:=b) (n:=n) (e:=e) ha w;exact AeZ
def Nw(hL:Ii L)(ha:At L a){w:BA}(h:TK L a e w=false):PC BZ 148 [.GN 0 0,.Gh w] [cells L a e b n] (.bool false) [cells L a e b n]:=by
 obtain⟨r,c,IE,a',e',b',n',hc,h1,h2,h3,⟨hr,_,h4⟩|⟨hr,h5,_⟩⟩:=kC (b:=b) (n:=n) (e:=e) hL ha w
 .exact AeZ
 .rw[h]at h5;cases h5
def Nx(hL:Ii L)(ha:At L a){w:BA}(h:TK L a e w=true):PC BZ 148 [.GN 0 0,.Gh w] [cells L a e b n] (.bool true) [cells L (a+1) e b n]:=by
 obtain⟨r,c,IE,a',e',b',n',hc,h1,h2,h3,⟨hr,h5,h4⟩|⟨hr,h5,_,h4,_⟩⟩:=kC (b:=b) (n:=n) (e:=e) hL ha w
 .rw[h]at h5;cases h5
 .exact AeZ
def Na(hL:Ii L)(ha:At L a){x y:Int}(h:x<y):PC BZ 122 [.GN 0 0,I x,I y] [cells L a e b n] (.bool false) [cells L a e b n]:=by
 obtain⟨r,c,IE,a',e',b',n',hc,h1,⟨hr,h2,h3,h4,h5⟩|⟨hr,h2,_⟩⟩:=xj (b:=b) (n:=n) (e:=e) hL ha x y
 .rw[h1,h3,h4,h5]at hc;rw[hr,hc]at IE;exact IE
 .omega
def Nb(hL:Ii L)(ha:At L a){x y:Int}(h:y<=x):∃e' b',e'≠0/\PC BZ 122 [.GN 0 0,I x,I y] [cells L a e b n] (.bool true) [cells L (L.length-1) e' b' n]:=by
 obtain⟨r,c,IE,a',e',b',n',hc,h1,⟨hr,h2,h3,h4,h5⟩|⟨hr,h2,h3,h4⟩⟩:=xj (b:=b) (n:=n) (e:=e) hL ha x y
 .omega
 .rw[h1,h3]at hc;rw[hr,hc]at IE;exact⟨e',b',h4,IE⟩
def T7.le{a' e':Int}(h:T7 L a e a' e')(ha:At L a):mu L a' e'<=mu L a e:=by
 by_cases he:e=0
 .have:=h.2.1 he;omega
 .rw[Kg he,Kg (h.2.2 he)];omega
def AFK{f s tk tl i m GY w:Int}{nm:BA}{GP:List Gw}{NO:Int}(h:(Gw.mk f s nm tk tl i m GP GY).WF):(Gw.mk 16 0 ⟨#[]⟩ 0 0 w 0 [.mk f s nm tk tl i m GP GY] NO).WF:=by
 refine .mk _ _ _ _ _ _ _ _ _ ⟨?_,?_,?_,?_,?_⟩ AA AA AA AA Ah
 all_goals simp
def pP(hL:Ii L){Q:PV->Int->Int->Int->Int->Prop}:∀(c:Nat) {a e b n:Int} (ha:At L a) (hc:mu L a e<=c) {f s1:Int} {nm:BA} {tk tl i m:Int} {GP:List Gw} {GY:Int} (hw:(Gw.mk f s1 nm tk tl i m GP GY).WF)
   (hQ:∀r a' e' b' n',(∃f' s' nm' tk' tl' k' m' Tx cT,r=.agg [I f',I s',.Gh nm',I tk',I tl',I k',I m',.GV (Gw.GK Tx),I cT]/\(Gw.mk f' s' nm' tk' tl' k' m' Tx cT).WF/\At L a'/\((Gw.mk f' s' nm' tk' tl' k' m' Tx cT).wt:Int)+mu L a' e'<=((Gw.mk f s1 nm tk tl i m GP GY).wt:Int)+mu L a e)->Q r a' e' b' n'),
   ∃k,∀{cs:LP} (JK:cs.length=9) (hp:HO),cd 0 1 (λr c=>∃a' e' b' n',c=[cells L a' e' b' n']/\Q r a' e' b' n') k (.GN 0 0) (.GN 1 0) (.GN 2 0)
    (Qx [.box (cells L a e b n),.box [I f,I s1,.Gh nm,I tk,I tl,I i,I m,.GV (Gw.GK GP),I GY],.box cs] hp 3):=by
 intro c
 induction c with
 |zero=>
  intro a e b n ha hc f s1 nm tk tl i m GP GY hw hQ;have he:e≠0:=λh=>by have:=Om ha h;omega
  refine⟨1,λ{cs} JK hp=>?_⟩;show UJ _ _ _ _ _ _ _ _;unfold UJ;refine Ln hL rfl ha (λdk=>?_) λdk lP Lt=>Zq lP he;refine zv ?_;exact Adc
 |succ c ih=>
  intro a e b n ha hc f s1 nm tk tl i m GP GY hw hQ;cases hm:TK L a e ⟨#[91]⟩with
  |false=>
   refine⟨1,λ{cs} JK hp=>?_⟩;show UJ _ _ _ _ _ _ _ _;unfold UJ;refine AZb (Nw hL ha hm) ?_;exact Adc
  |true=>
   obtain⟨he,MI⟩:=L8 hL ha hm;have G7:mu L (a+1) e<mu L a e:=by rw[Ha he,Ha he];omega
   obtain⟨w,a2,e2,b2,I4,S1⟩:=yz (b:=b) (n:=n) (e:=e) hL MI;obtain⟨a3,e3,b3,TJ,Wq⟩:=YE (b:=b2) (n:=n) (e:=e2) hL S1.1 ⟨#[93]⟩;have cM:=S1.le MI;have mg:=Wq.le S1.1;obtain⟨k,hk⟩:=ih (e:=e3) Wq.1 AA (AFK (w:=w) (NO:=GY) hw) (b:=b3) (n:=n) λr a' e' b' n' ⟨f',s',nm',tk',tl',k',m',Tx,cT,hr,YN,h2,h3⟩=>hQ r a' e' b' n' ⟨f',s',nm',tk',tl',k',m',Tx,cT,hr,YN,h2,by have:=AOH (f:=16) (s:=0) (nm:=⟨#[]⟩) (tk:=0) (tl:=0) (i:=w) (m:=0) (GY:=GY) (x:=.mk f s1 nm tk tl i m GP GY);omega⟩;refine⟨k+1,λ{cs} JK hp=>?_⟩;show UJ _ _ _ _ _ _ _ _;unfold UJ;refine AZb (Nx hL ha hm) ?_;refine AZb I4 ?_;refine AZb TJ ?_;exact IF (cd 0 1 _ k _ _ _) rfl rfl rfl rfl λJs=>hk JK Js
def PEx(L:List PT)(f:Nat)(args:LP)(W a e b n:Int):Prop:=PF L f args a e b n λr a' e' b' n'=>
 ∃f s nm tk tl k m GP GY,r=.agg [I f,I s,.Gh nm,I tk,I tl,I k,I m,.GV (Gw.GK GP),I GY]/\(Gw.mk f s nm tk tl k m GP GY).WF/\At L a'/\((Gw.mk f s nm tk tl k m GP GY).wt:Int)+mu L a' e'<=W+mu L a e
def PEx.call{f:Nat}{args vs:LP}{s:St}{k:F1}{W:Int}(h:PEx L f args W a e b n)(h1:JA vs 0=some (.GN 0 0::args,[0]))(h3:Gv s [0]=some [cells L a e b n])
  (hk:∀f s1 nm tk tl i m GP GY a' e' b' n',(Gw.mk f s1 nm tk tl i m GP GY).WF->At L a'->((Gw.mk f s1 nm tk tl i m GP GY).wt:Int)+mu L a' e'<=W+mu L a e->
   k (.agg [I f,I s1,.Gh nm,I tk,I tl,I i,I m,.GV (Gw.GK GP),I GY]) (s.set 0 (.box (cells L a' e' b' n')))):Gn BZ f vs s k:=
 PF.call h h1 h3 λr a' e' b' n' h=>by
  exact Ad7
def j0(hL:Ii L)(ha:At L a){f s1:Int}{nm:BA}{tk tl i m:Int}{GP:List Gw}{GY:Int}(hw:(Gw.mk f s1 nm tk tl i m GP GY).WF):
  PEx L 178 [.agg [I f,I s1,.Gh nm,I tk,I tl,I i,I m,.GV (Gw.GK GP),I GY]] ((Gw.mk f s1 nm tk tl i m GP GY).wt) a e b n:=by
 obtain⟨k,hk⟩:=pP hL (mu L a e).toNat (a:=a) (e:=e) (b:=b) (n:=n) ha AJ hw λr a' e' b' n' h=>h;refine AGk 0 rfl _ _ ?_;unfold APp;refine zv ?_;refine⟨k,?_⟩;exact IF (cd 0 1 _ k _ _ _) rfl rfl rfl rfl λJs=>hk rfl Js
end
end
section
open Go.Proofs
def Ij{s:St}{b e eo:Nat}{GK:LLP}(h:s.heap b=some (.HE GK.length eo))(he:GK=[]\/eo=e+1)(hr:∀r∈GK,r.length=e+1):TV (e+1) s (.HL b GK)=some (.HL (e+1) GK):=by
 cases GK with
 |nil=>rfl
 |cons r l=>
  have he:eo=e+1:=by simpa using he
  subst he;simp only[TV,h];have:(r::l).all (λr=>Br r.length (e+1))=true:=CY.2 λx hx=>by rw[hr x hx];exact EJ _
  rw[this];simp only[EJ,Bool.and_true,Bool.true_and,DZ];rw[show Nat.ble (Nat.succ 0) (e+1)=true from EN AA];rfl
def Gw.Qv{l:List Gw}:∀r∈Gw.GK l,r.length=9:=by intro r hr;rw[Gw.Iu]at hr;exact Afd
def HQ{GK:LLP}{n:Nat}(h:∀r∈GK,r.length=n):GK.all (λr=>Br r.length n)=true:=CY.2 λx hx=>by rw[h x hx];exact EJ _
def G4{n b:Nat}(h:n<=100000)(hb:b<=200):Go.Ab.Im n b=true:=by unfold Go.Ab.Im;have h1:n*b<=100000*200:=Nat.mul_le_mul h hb;rw[EN AA,EN AA];rfl
section
variable{L:List PT} {a e b n:Int}
def z3(hL:Ii L){M n0:Int}(tc:0<=n0)(ARE:n0<=16)(Q4:Px L 167 [] M){Q:PV->Int->Int->Int->Int->Prop}:∀(c:Nat) {a e b n:Int} (ha:At L a) (hm:mu L a e<=M) (hc:mu L a e<=c) (l:List Gw) (hw:∀x∈l,x.WF) (HM:l.length<=16) {eo:Nat} (Uo:Gw.GK l=[]\/eo=9)
   (hQ:∀l' a' e' b' n',(∀x∈l',x.WF)->l'.length<=16->At L a'->(Gw.HS l':Int)+mu L a' e'<=Gw.HS l+mu L a e->Q (.HL 9 (Gw.GK l')) a' e' b' n'),
   ∃k,∀(hp:HO) (o1:Obj),cg 9 1 (λr c=>∃a' e' b' n',c=[cells L a' e' b' n']/\Q r a' e' b' n') k (.GN 0 0) (I n0) (.HL 2 (Gw.GK l))
    (Qx [.box (cells L a e b n),o1,.HE (Gw.GK l).length eo] hp 3):=by
 intro c
 induction c with
 |zero=>
  intro a e b n ha hm hc l hw HM eo Uo hQ;have he:e≠0:=λh=>by have:=Om ha h;omega
  exact AeL
 |succ c ih=>
  intro a e b n ha hm hc l hw HM eo Uo hQ;by_cases he:e=0
  case neg=>
   exact AeL
  case pos=>
   have rZ:(Gw.GK l).length=l.length:=by rw[Gw.Iu,Bb]
   have hwr:IntKind.i64.wrap (n0+↑(Gw.GK l).length)=n0+l.length:=by rw[rZ];exact HB AA AA
   by_cases KM:(16:Int)<=IntKind.i64.wrap (n0+↑(Gw.GK l).length)
   .obtain⟨e1,b1,Nl,Jy⟩:=Nb (b:=b) (n:=n) (e:=e) hL ha KM;refine⟨1,λhp o1=>?_⟩;show PJ _ _ _ _ _ _ _ _;unfold PJ;refine zv ?_;refine GF (λh=>?_) AbT;refine zv ?_;refine AZb Jy ?_;refine GW rfl AdO rfl ⟨_,_,_,_,rfl,hQ _ _ _ _ _ hw HM (At.O1 hL) AG⟩
   .have Jy:=Na (b:=b) (n:=n) (e:=e) hL ha (Dd.1 KM);have hl15:l.length<16:=by rw[hwr]at KM;omega
    obtain⟨r,cc,I4,a2,e2,b2,n2,rfl,f2,s2,YO,YR,YS,i2,m2,LM,NO,rfl,S3,Lt,Me⟩:=Q4 a e b n ha hm
    have NJ:Gw.GK (l++[.mk f2 s2 YO YR YS i2 m2 LM NO])=Gw.GK l++[[I f2,I s2,.Gh YO,I YR,I YS,I i2,I m2,.GV (Gw.GK LM),I NO]]:=by
     rw[Gw.Iu,Gw.Iu,Bu];rfl
    have bQ:Gw.HS (l++[.mk f2 s2 YO YR YS i2 m2 LM NO])=Gw.HS l+(Gw.mk f2 s2 YO YR YS i2 m2 LM NO).wt:=by rw[Gw.HY];simp[Gw.HS]
    have YN:∀x∈l++[.mk f2 s2 YO YR YS i2 m2 LM NO],Gw.WF x:=by
     intro x hx;exact Adq
    have rS:(l++[Gw.mk f2 s2 YO YR YS i2 m2 LM NO]).length<=16:=by simp;omega
    have hf:Go.Ab.Im ((Gw.GK l).length+1) 96=true:=G4 AA AA;cases fS:TK L a2 e2 ⟨#[44]⟩with
    |false=>
     refine⟨1,λhp o1=>?_⟩;show PJ _ _ _ _ _ _ _ _;unfold PJ;refine zv ?_;refine GF (λh=>?_) AbT;refine zv ?_;refine AZb Jy ?_;refine AZb I4 ?_;refine pQ_v Abo ?_;refine AZb (Nw hL Lt fS) ?_;rw[<- NJ];refine GW rfl (Ij (eo:=9) AaD (.inr rfl) Gw.Qv) rfl ⟨_,_,_,_,rfl,hQ _ _ _ _ _ YN rS Lt AbJ⟩
    |true=>
     obtain⟨YI,SR⟩:=L8 hL Lt fS;have G7:mu L (a2+1) e2<mu L a2 e2:=by rw[Ha YI,Ha YI];omega
     obtain⟨k,hk⟩:=ih (e:=e2) (b:=b2) (n:=n2) SR AA AA _ YN rS (eo:=9) (.inr rfl) λl' a' e' b' n' h1 h2 h3 h4=>hQ l' a' e' b' n' h1 h2 h3 Aap;refine⟨k+1,λhp o1=>?_⟩;show PJ _ _ _ _ _ _ _ _;unfold PJ;refine zv ?_;refine GF (λh=>?_) AbT;refine zv ?_;refine AZb Jy ?_;refine AZb I4 ?_;refine pQ_v Abo ?_;refine AZb (Nx hL Lt fS) ?_;rw[<- NJ];exact IF (cg 9 1 _ k _ _ _) rfl rfl AaD rfl λJs=>hk Js _
def PXs(L:List PT)(f:Nat)(args:LP)(a e b n:Int):Prop:=PF L f args a e b n λr a' e' b' n'=>∃l:List Gw,r=.HL 9 (Gw.GK l)/\(∀x∈l,x.WF)/\l.length<=16/\At L a'/\(Gw.HS l:Int)+mu L a' e'<=mu L a e
def oh(hL:Ii L){M n0:Int}(tc:0<=n0)(ARE:n0<=16)(Q4:Px L 167 [] M)(ha:At L a)(hm:mu L a e<=M):PXs L 181 [I n0] a e b n:=by
 obtain⟨k,hk⟩:=z3 hL tc ARE Q4 (mu L a e).toNat (a:=a) (e:=e) (b:=b) (n:=n) ha hm AJ [] AD AD (eo:=0) (.inl rfl)
  (Q:=λr a' e' b' n'=>∃l:List Gw,r=.HL 9 (Gw.GK l)/\(∀x∈l,x.WF)/\l.length<=16/\At L a'/\(Gw.HS l:Int)+mu L a' e'<=mu L a e) λl' a' e' b' n' h1 h2 h3 h4=>⟨l',rfl,h1,h2,h3,by simpa[Gw.HS]using h4⟩
 refine AGn 9 rfl _ _ ?_;unfold APs;refine zv ?_;refine⟨k,?_⟩;exact IF (cg 9 1 _ k _ _ _) rfl rfl rfl rfl λJs=>hk Js _
def xU(hL:Ii L){M:Int}(Q4:Px L 167 [] M)(ha:At L a)(hm:mu L a e<=M):PXs L 180 [] a e b n:=by
 refine AGm 9 rfl _ ?_;unfold APr;refine zv ?_;refine H6 hL rfl ha λa1 e1 b1 h1=>?_;have YK:=h1.le ha;refine zv ?_;refine PM rfl h1.1 ?_;refine zv ?_;cases hi:TK L a1 e1 ⟨#[41]⟩
 .refine zv ?_;refine(oh hL AA AA Q4 h1.1 AA).call rfl rfl λr a2 e2 b2 n2 h2=>?_;obtain⟨l,rfl,hw,HM,Lt,Me⟩:=h2;refine zv ?_;unfold aK;refine H6 hL rfl Lt λa3 e3 b3 h3=>?_;refine zv ?_;refine GW rfl (Ij (eo:=9) rfl (.inr rfl) Gw.Qv) rfl ⟨_,_,_,_,rfl,l,rfl,hw,HM,h3.1,by have:=h3.le Lt;omega⟩
 .refine zv ?_;unfold aK;refine H6 hL rfl h1.1 λa3 e3 b3 h3=>?_;refine zv ?_;refine GW rfl rfl rfl ⟨_,_,_,_,rfl,[],rfl,AD,AD,h3.1,by have:=h3.le h1.1;simp only[Gw.HS];omega⟩
end
end
section
open Go.Proofs
def ASH{P:Cf}{s:St}{t:Bz}{k:IntKind}{x y:Int}(h:y≠0):H8 (HC P .rem t (.int k x) (.int k y)) s (.int k (x.tmod y)) s [] []:=Gt (by simp[SP,ADm,h])
def AKA{P:Cf}{s:St}{t:Bz}{k:IntKind}{x y:Int}(h:y≠0):H8 (HC P .quo t (.int k x) (.int k y)) s (.int k (k.wrap (x.tdiv y))) s [] []:=Gt (by simp[SP,ADm,h])
def tU(k:Int):∃w:Int,PC BZ 152 [I k] [] (I w) []/\0<=w/\(w<=32\/w=64):=by
 have:PQ BZ 152 [I k] [] (λr c=>c=[]/\∃w:Int,r=I w/\0<=w/\(w<=32\/w=64)):=by
  refine AGQ 0 rfl _ ?_;unfold APV
  repeat' first
   |exact GW rfl rfl rfl ⟨rfl,_,rfl,AA,AA⟩
   |(refine AT5 ?_ ?_)
   |(unfold n8)
   |(unfold n9)
   |(unfold fe)
   |(unfold ff)
   |refine zv ?_
 exact AhM
def Zk(k:Int):∃w:Bool,PC BZ 155 [I k] [] (.bool w) []:=by
 have:PQ BZ 155 [I k] [] (λr c=>c=[]/\∃w:Bool,r=.bool w):=by
  refine AGS 0 rfl _ ?_;unfold APX;refine zv ?_;cases h:decide (k>=2)
  .exact Ahr
  .exact Ahr
 exact Aec
def vz{N:Int}(hN:N<=32)(h0:0<=N){Q:PV->LLP->Prop}(hQ:Q (I (2^N.toNat)) []):∀(c:Nat) {i p:Int},0<=i->i<=N->p=2^i.toNat->N-i<=c->∃k,∀s,oA 0 0 Q k (I N) (I p) (I i) s:=by
 intro c
 induction c with
 |zero=>
  intro i p hi hiN hp hc;have he:i=N:=AA;subst he;refine⟨1,λs=>?_⟩;show UH _ _ _ _ _ _ _ _;unfold UH;refine zv ?_;refine GF Abq λh=>?_;exact Ags
 |succ c ih=>
  intro i p hi hiN hp hc;by_cases G7:i<N
  .have hs:=AZi i
   have h2:(2:Int)^i.toNat<=2^32:=by
    exact_mod_cast Nat.pow_le_pow_right AA (show i.toNat<=32 by omega)
   have h3:(0:Int)<2^i.toNat:=by exact_mod_cast Nat.pow_pos AA
   have dp:IntKind.i64.wrap (2*p)=2^(IntKind.i64.wrap (i+1)).toNat:=by
    rw[hs,HB AA AA,hp,show(i+1).toNat=i.toNat+1 by omega,Int.pow_succ];omega
   obtain⟨k,hk⟩:=ih (i:=IntKind.i64.wrap (i+1)) (p:=IntKind.i64.wrap (2*p)) AA AA dp AA;refine⟨k+1,λs=>?_⟩;show UH _ _ _ _ _ _ _ _;unfold UH;refine zv ?_;refine GF (λh=>?_) λh=>Zq G7 (Zy h);refine zv ?_;exact hk _
  .have he:i=N:=AA;subst he;refine⟨1,λs=>?_⟩;show UH _ _ _ _ _ _ _ _;unfold UH;refine zv ?_;refine GF AdI λh=>?_;exact Ags
def AEb{N:Int}(hN:N<=32)(h0:0<=N):PC BZ 154 [I N] [] (I (2^N.toNat)) []:=by
 have:PQ BZ 154 [I N] [] (λr c=>r=I (2^N.toNat)/\c=[]):=by
  obtain⟨k,hk⟩:=vz hN h0 (Q:=λr c=>r=I (2^N.toNat)/\c=[]) ⟨rfl,rfl⟩ N.toNat (i:=0) (p:=1) AA h0 (by rfl) AA;refine AGR 0 rfl _ ?_;unfold APW;exact⟨k,hk _⟩
 exact Adh
def zG(k i:Int):∃w:Int,PC BZ 128 [I k,I i] [] (I w) []:=by
 obtain⟨w,hw,hw0,AHe⟩:=tU k;obtain⟨sg,hsg⟩:=Zk k
 have:PQ BZ 128 [I k,I i] [] (λr c=>c=[]/\∃w:Int,r=I w):=by
  refine AGE 0 rfl _ _ ?_;unfold APJ;refine AZb hw ?_;refine GF (λh=>?_) λh=>?_
  .exact Ad6
  refine zv ?_;refine GF (λh=>?_) λh2=>?_
  .exact Ahr
  have AV8:w<=32:=by
   rcases AHe with h3|h3
   .exact h3
   .exact Zq h3 (by simpa using h2)
  refine AZa (AEb AV8 hw0) ?_
  have hp:(2:Int)^w.toNat≠0:=by
   have:(0:Int)<2^w.toNat:=by exact_mod_cast Nat.pow_pos AA
   omega
  have ARy:∀(x:Int) (s:St),Gv s (CS 0)=some []->aC 0 0 (λr c=>c=[]/\∃w:Int,r=I w) (I k) (I (2^w.toNat)) (I x) s:=by
   intro x s hs;unfold aC;refine AZa hsg ?_;cases sg
   .refine zv ?_;exact AeM
   .refine zv ?_;refine AYo (AKA AA) ?_;refine GF (λh=>?_) λh=>?_
    .refine zv ?_;exact AeM
    .refine zv ?_;exact AeM
  refine zv ?_;refine pQ_v (ASH hp) ?_;refine GF (λh=>?_) λh=>?_
  .refine zv ?_;exact ARy _ _ rfl
  .exact ARy _ _ rfl
 exact Aec
end
section
open Go.Proofs
section
variable{L:List PT} {a e b n:Int}
def XV{f s tk tl i m GY:Int}{x:Gw}{nm:BA}(hf:f=3/\(s=1\/s=2)\/f=6\/f=9\/f=11\/f=17)(ht:0<=tk/\tk<=9)(h:x.WF):(Gw.mk f s nm tk tl i m [x] GY).WF:=by
 refine .mk _ _ _ _ _ _ _ _ _ ⟨?_,?_,?_,?_,?_⟩ AA AA AA ht Ah
 all_goals simp
 all_goals omega
def TA{f s tk tl i m GY:Int}{nm:BA}(hf:f=0\/f=1\/f=2\/f=12)(ht:0<=tk/\tk<=9):(Gw.mk f s nm tk tl i m [] GY).WF:=by
 refine .mk _ _ _ _ _ _ _ _ _ ⟨?_,?_,?_,?_,?_⟩ AA AA AA ht AD
 all_goals simp
 all_goals omega
def AA1(hL:Ii L){M:Int}(hun:qb L 175 [] M)(ARR:Px L 179 [] M):Px L 177 [] M:=by
 intro a e b n ha hm;refine AGj 0 rfl _ ?_;unfold APo;refine zv ?_;refine NX rfl ha ?_;refine zv ?_;refine Ln hL rfl ha (λdk=>?_) λdk he MI=>?_
 .refine zv ?_;refine Ln hL rfl ha (λpH=>?_) λpH he MI=>?_
  .refine zv ?_;refine Ln hL rfl ha (λfS=>?_) λfS he MI=>?_
   .refine zv ?_;refine(ARR a e b n ha hm).call rfl rfl λf s1 nm tk tl i m GP GY a1 e1 b1 n1 hw MI mh=>?_;refine zv ?_;refine(j0 hL MI hw).call rfl rfl λf s1 nm tk tl i m GP GY a2 e2 b2 n2 S3 Lt Me=>?_;exact Afi
   .have G7:mu L (a+1) e<mu L a e:=by rw[Ha he,Ha he];omega
    refine zv ?_;refine NX rfl MI ?_;refine zv ?_;cases h0:e==0
    .exact Zq he (by simpa using h0)
    refine zv ?_
    have yg:∀(s:St) (k:F1),Gv s [0]=some [cells L (a+1) e b n]->(∀f s1 nm tk tl i m GP GY a' e' b' n',(Gw.mk f s1 nm tk tl i m GP GY).WF->At L a'->((Gw.mk f s1 nm tk tl i m GP GY).wt:Int)+mu L a' e'<=mu L (a+1) e->
     k (.agg [I f,I s1,.Gh nm,I tk,I tl,I i,I m,.GV (Gw.GK GP),I GY]) (s.set 0 (.box (cells L a' e' b' n'))))->Gn BZ 175 [.GN 0 0] s k:=λs k h3 hk=>(hun (a+1) e b n MI AA).call rfl h3 hk
    cases h1:(Hf L (a+1)).kind==2
    .exact Ad2
    .refine zv ?_;cases h2:decide ((Hf L (a+1)).tk>0)
     .exact Ad2
     .refine zv ?_;have Jm:(Hf L (a+1)).kind=2:=by simpa using h1
      have ha2':=hL.O1 (a+1) MI AA;have Lt:At L (a+1+1):=by unfold At at*;omega
      obtain⟨w,hw⟩:=zG (Hf L (a+1)).tk (IntKind.i64.wrap (0-(Hf L (a+1)).n));refine AWe hw ?_;refine⟨by kernel_rfl,?_⟩;refine zv ?_;have hs:=Oq hL MI;have AHR:mu L (a+1+1) e<mu L (a+1) e:=by rw[Ha he,Ha he];omega
      refine(j0 (a:=IntKind.i64.wrap (a+1+1)) (e:=e) (b:=b) (n:=n) (f:=1) (s1:=0) (nm:=⟨#[]⟩) (tk:=(Hf L (a+1)).tk) (tl:=(Hf L (a+1)).tl) (i:=w) (m:=0) (GP:=[]) (GY:=(Hf L a).GY) hL AaK (TA AA (hL.tk _ MI))).call rfl rfl λf s1 nm tk tl i m GP GY a2 e2 b2 n2 S3 Lt Me=>?_;rw[hs]at Me;have lU:=Int.le_trans Me (Int.add_le_add_right (Int.ofNat_le.2 AOG) _);exact Afi
  .refine zv ?_;have G7:mu L (a+1) e<mu L a e:=by rw[Ha he,Ha he];omega
   refine(hun (a+1) e b n MI AA).call rfl rfl λf s1 nm tk tl i m GP GY a1 e1 b1 n1 hw MI mh=>?_;refine zv ?_;refine GW AbR rfl rfl ⟨_,_,_,_,rfl,6,0,_,0,0,0,0,[.mk f s1 nm tk tl i m GP GY],_,rfl,XV AA AA hw,MI,wl1 AA⟩
 .refine zv ?_;have G7:mu L (a+1) e<mu L a e:=by rw[Ha he,Ha he];omega
  refine(hun (a+1) e b n MI AA).call rfl rfl λf s1 nm tk tl i m GP GY a1 e1 b1 n1 hw MI mh=>?_;refine zv ?_;refine GW AbR rfl rfl ⟨_,_,_,_,rfl,3,1,_,0,0,0,0,[.mk f s1 nm tk tl i m GP GY],_,rfl,XV AA AA hw,MI,wl1 AA⟩
end
end
section
open Go.Proofs
def AAP(w:BA){GK:LLP}(NJ:GK.length=9)(hr:∀i,i<9->∃t,GK[i]?=some [.Gh t]){Q:PV->LLP->Prop}(hQ:∀p:Int,0<=p->p<=9->Q (I p) []):
  ∀(c:Nat) {i:Int},0<=i->i<=9->9-i<=c->∃k,∀s,gx 0 0 Q k (.Gh w) (.GV GK) (I i) s:=by
 intro c
 induction c with
 |zero=>
  intro i hi hi9 hc;exact Aem
 |succ c ih=>
  intro i hi hi9 hc;have hs:=AZi i;by_cases G7:i<9
  .obtain⟨k,hk⟩:=ih (i:=IntKind.i64.wrap (i+1)) AA AA AA;obtain⟨t,ht⟩:=hr i.toNat AA;refine⟨k+1,λs=>?_⟩;show UG _ _ _ _ _ _ _ _;unfold UG;refine zv ?_;refine GF (λh=>?_) (λh=>Zq (Zy h) AA);refine pQ_v (Gk hi ht rfl) ?_;refine GF (λh=>?_) λh=>?_
   .refine zv ?_;exact GW rfl rfl rfl (hQ _ AA AA)
   .refine zv ?_;exact hk _
  .exact Aem
def AHn{w:BA}{GK:LLP}{Q:PV->LLP->Prop}{s:St}(NJ:GK.length=9)(hr:∀i,i<9->∃t,GK[i]?=some [.Gh t])(hQ:∀p:Int,0<=p->p<=9->Q (I p) []):
  ∃k,gx 0 0 Q k (.Gh w) (.GV GK) (I 0) s:=by
 obtain⟨k,hk⟩:=AAP w NJ hr hQ 9 (i:=0) AA AA AA;exact⟨k,hk s⟩
def pR(w:BA):∃p:Int,PC BZ 142 [.Gh w] [] (I p) []/\0<=p/\p<=9:=by
 have:PQ BZ 142 [.Gh w] [] (λr c=>c=[]/\∃p:Int,r=I p/\0<=p/\p<=9):=by
  refine AGI 0 rfl _ ?_;unfold APN;refine zv ?_;refine AHn rfl ?_ λp h1 h2=>⟨rfl,p,rfl,h1,h2⟩
  intro i hi
  match i,hi with
  |0,_=>exact⟨_,rfl⟩
  |1,_=>exact⟨_,rfl⟩
  |2,_=>exact⟨_,rfl⟩
  |3,_=>exact⟨_,rfl⟩
  |4,_=>exact⟨_,rfl⟩
  |5,_=>exact⟨_,rfl⟩
  |6,_=>exact⟨_,rfl⟩
  |7,_=>exact⟨_,rfl⟩
  |8,_=>exact⟨_,rfl⟩
 obtain⟨r,c,IE,rfl,p,rfl,h⟩:=this;exact⟨p,IE,h⟩
section
variable{L:List PT} {a e b n:Int}
def r7(hL:Ii L)(ha:At L a):PF L 163 [] a e b n (λr a' e' b' n'=>n'=n/\(∃w:Int,r=I w/\0<=w/\w<=9)/\T7 L a e a' e'):=by
 obtain⟨p,hp,hp0,hp9⟩:=pR (Hf L a).Pg;refine AGW 0 rfl _ ?_;unfold APb;refine NX rfl ha ?_;refine zv ?_;cases h:e !=0
 .have he:e=0:=by simpa using h
  refine zv ?_;cases h1:(Hf L a).kind !=3
  .have hk:(Hf L a).kind=3:=by simpa using h1
   have lM:=hL.O1 a ha AA;refine zv ?_;refine AWe hp ?_;cases h2:p==0
   .refine zv ?_;refine AZb hp ?_;refine GW rfl rfl rfl ⟨_,_,_,_,rfl,rfl,⟨_,rfl,hp0,hp9⟩,?_⟩;rw[Oq hL ha];exact XX Aad he
   .exact Adw
  .exact Adw
 .exact Adw
def zd{s:St}{k:F1}(hL:Ii L)(h3:Gv s [0]=some [cells L a e b n])(ha:At L a)(hk:∀w a' e' b',0<=w->w<=9->T7 L a e a' e'->k (I w) (s.set 0 (.box (cells L a' e' b' n)))):Gn BZ 163 [.GN 0 0] s k:=(r7 hL ha).call rfl h3 λr a' e' b' n' h=>by obtain⟨rfl,⟨w,rfl,h0,h9⟩,h⟩:=h;exact hk w a' e' b' h0 h9 h
def xc(hL:Ii L)(ha:At L a):PF L 165 [] a e b n (λr a' e' b' n'=>n'=n/\(∃g:Edge,r=.agg g.GG)/\T7 L a e a' e'):=by
 refine AGY 0 rfl _ ?_;unfold APd;refine zv ?_;refine Ln hL rfl ha (λhm=>?_) λhm he MI=>?_
 .refine zv ?_;refine Nr hL rfl ha λw a' e' b' h=>?_;refine zv ?_;refine GW AbR rfl rfl ⟨_,_,_,_,rfl,rfl,⟨⟨w,true⟩,rfl⟩,h⟩
 .refine zv ?_;refine Nr hL rfl MI λw a' e' b' h=>?_;refine zv ?_;refine GW AbR rfl rfl ⟨_,_,_,_,rfl,rfl,⟨⟨w,false⟩,rfl⟩,h.1,λ_=>?_,λKk=>Zq he Kk⟩;have:=h.2.1 he;rw[Ha he]at this⊢;omega
end
end
section
open Go.Proofs
section
variable{L:List PT} {a e b n:Int}
def AGw(hL:Ii L)(ha:At L a):∃(g:Edge) (a' e' b':Int),PC BZ 165 [.GN 0 0] [cells L a e b n] (.agg g.GG) [cells L a' e' b' n]/\T7 L a e a' e':=by obtain⟨r,c,IE,a',e',b',n',hc,hn,⟨g,hr⟩,pA⟩:=xc (b:=b) (n:=n) (e:=e) hL ha;rw[hn]at hc;rw[hr,hc]at IE;exact⟨g,a',e',b',IE,pA⟩
def MG{l:List Edge}:∀r∈l.map Edge.GG,r.length=2:=AfI
def uk(hL:Ii L){Q:PV->Int->Int->Int->Int->Prop}:∀(c:Nat) {a e b n:Int} (ha:At L a) (hc:mu L a e<=c) (l:List Edge) (HM:l.length<=16) {eo:Nat} (Uo:l.map Edge.GG=[]\/eo=2)
   (hQ:∀(l':List Edge) a' e' b',l'.length<=17->(e=0->0<l'.length)->At L a'->mu L a' e'<=mu L a e->Q (.HL 2 (l'.map Edge.GG)) a' e' b' n),
   ∃k,∀(hp:HO) (o1:Obj),cZ 2 1 (λr c=>∃a' e' b' n',c=[cells L a' e' b' n']/\Q r a' e' b' n') k (.GN 0 0) (.HL 2 (l.map Edge.GG))
    (Qx [.box (cells L a e b n),o1,.HE (l.map Edge.GG).length eo] hp 3):=by
 intro c
 induction c with
 |zero=>
  intro a e b n ha hc l HM eo Uo hQ;have he:e≠0:=λh=>by have:=Om ha h;omega
  exact Ad9
 |succ c ih=>
  intro a e b n ha hc l HM eo Uo hQ;by_cases he:e=0
  case neg=>
   exact Ad9
  case pos=>
   obtain⟨g,a1,e1,b1,Jy,VL⟩:=AGw (b:=b) (n:=n) (e:=e) hL ha;have MI:=VL.1;have YK:=VL.2.1 he;have NJ:(l++[g]).map Edge.GG=l.map Edge.GG++[g.GG]:=AD;have rS:(l++[g]).length<=17:=by simp;omega
   have hf:Go.Ab.Im ((l.map Edge.GG).length+1) 24=true:=G4 AB AA;cases pH:TK L a1 e1 ⟨#[97,110,100]⟩with
   |false=>
    refine⟨1,λhp o1=>?_⟩;show PH _ _ _ _ _ _ _;unfold PH;refine zv ?_;refine GF (λh=>?_) AbT;refine AZb Jy ?_;refine pQ_v Abd ?_;have h2:=ew (e:=e1) (b:=b1) (n:=n) MI ⟨#[97,110,100]⟩;rw[pH]at h2;refine AZb h2 ?_;rw[<- show(l++[g]).map Edge.GG=l.map Edge.GG++[[.Gh g.name,.bool g.on]]from NJ];refine GW rfl AdD rfl ⟨_,_,_,_,rfl,hQ _ _ _ _ rS (λ_=>by simp) MI AA⟩
   |true=>
    obtain⟨Nl,Lt⟩:=L8 hL MI pH;have hs:=Oq hL MI;have G7:mu L (a1+1) e1<mu L a1 e1:=by rw[Ha Nl,Ha Nl];omega
    have h2:=ew (e:=e1) (b:=b1) (n:=n) MI ⟨#[97,110,100]⟩;rw[pH]at h2;have Xx:((l.map Edge.GG++[[PV.Gh g.name,PV.bool g.on]]).length:Int)=l.length+1:=AD;by_cases KM:(16:Int)<=((l.map Edge.GG++[[PV.Gh g.name,PV.bool g.on]]).length:Int)
    .obtain⟨e3,b3,he3,TJ⟩:=Nb (b:=b1) (n:=n) (e:=e1) (a:=IntKind.i64.wrap (a1+1)) hL AaK KM;refine⟨1,λhp o1=>?_⟩;show PH _ _ _ _ _ _ _;unfold PH;refine zv ?_;refine GF (λh=>?_) AbT;refine AZb Jy ?_;refine pQ_v Abd ?_;refine AZb h2 ?_;refine AZb TJ ?_;rw[<- show(l++[g]).map Edge.GG=l.map Edge.GG++[[.Gh g.name,.bool g.on]]from NJ];refine GW rfl AdD rfl ⟨_,_,_,_,rfl,hQ _ _ _ _ rS (λ_=>by simp) (At.O1 hL) (by rw[Kg he3];exact Qp ha)⟩
    .have TJ:=Na (b:=b1) (n:=n) (e:=e1) (a:=IntKind.i64.wrap (a1+1)) hL AaK (Dd.1 KM);obtain⟨k,hk⟩:=ih (a:=IntKind.i64.wrap (a1+1)) (e:=e1) (b:=b1) (n:=n) AaK AO (l++[g]) AB (eo:=2) (.inr rfl) λl' a' e' b' h1 h0 h2 h3=>hQ l' a' e' b' h1 (λ_=>h0 Nl) h2 (by rw[hs]at h3;omega);refine⟨k+1,λhp o1=>?_⟩;show PH _ _ _ _ _ _ _;unfold PH;refine zv ?_;refine GF (λh=>?_) AbT;refine AZb Jy ?_;refine pQ_v Abd ?_;refine AZb h2 ?_;refine AZb TJ ?_;rw[<- show(l++[g]).map Edge.GG=l.map Edge.GG++[[.Gh g.name,.bool g.on]]from NJ];exact IF (cZ 2 1 _ k _ _) rfl rfl AaD rfl λJs=>hk Js _
def ACY(hL:Ii L)(ha:At L a):PF L 160 [] a e b n λr a' e' b' n'=>n'=n/\(∃l:List Edge,r=.HL 2 (l.map Edge.GG)/\l.length<=17/\(e=0->0<l.length))/\Adv L a e a' e':=by
 obtain⟨k,hk⟩:=uk hL (mu L a e).toNat (a:=a) (e:=e) (b:=b) (n:=n) ha AJ [] AD (eo:=0) (.inl rfl)
  (Q:=λr a' e' b' n'=>n'=n/\(∃l:List Edge,r=.HL 2 (l.map Edge.GG)/\l.length<=17/\(e=0->0<l.length))/\Adv L a e a' e') λl' a' e' b' h1 h0 h2 h3=>⟨rfl,⟨l',rfl,h1,h0⟩,h2,h3⟩
 refine AGT 2 rfl _ ?_;unfold APY;refine zv ?_;refine⟨k,?_⟩;exact IF (cZ 2 1 _ k _ _) rfl rfl rfl rfl λJs=>hk Js _
end
end
section
open Go.Proofs
section
variable{L:List PT} {a e b n:Int}
def qJ{f s tk tl i m GY:Int}{nm:BA}{GP:List Gw}(hf:f=13\/f=15\/f=18)(ht:0<=tk/\tk<=9)(h:∀x∈GP,x.WF)(hl:GP.length<=17):(Gw.mk f s nm tk tl i m GP GY).WF:=by
 refine .mk _ _ _ _ _ _ _ _ _ ⟨?_,?_,?_,?_,?_⟩ AA AA AA ht h
 all_goals omega
def zV(hL:Ii L)(ha:At L a):PF L 161 [] a e b n (λr a' e' b' n'=>n'=n/\a'=a/\e'=e/\b'=b/\((r=.bool false)\/(r=.bool true/\e=0))):=by
 refine AGU 0 rfl _ ?_;unfold APZ;refine zv ?_;cases h:e !=0
 .have he:e=0:=by simpa using h
  refine zv ?_;refine PM rfl ha ?_;refine zv ?_;refine PM rfl ha ?_;refine zv ?_;cases h1:TK L a e ⟨#[97,117,116,111,109,97,116,111,110]⟩
  .refine zv ?_;cases h2:TK L a e ⟨#[40]⟩
   .refine zv ?_;refine zZ rfl ha ?_;refine zv ?_;cases h3:(Hf L a).kind==1
    .exact Agg
    .exact Aep
   .refine zv ?_;exact Aep
  .refine zv ?_;exact Aep
 .refine zv ?_;exact Agg
def AIL(hL:Ii L){M:Int}(Q4:qb L 167 [] M)(ARp:∀a e b n,At L a->mu L a e<=M->e=0->At L (a+1)->∀t:PT,PE L 182 [.agg t.GG] a e b n):Px L 179 [] M:=by
 intro a e b n ha hm;refine AGl 0 rfl _ ?_;unfold APq;refine zv ?_;refine NX rfl ha ?_;refine zv ?_;refine GF (λh=>?_) λh=>?_
 .refine zv ?_;refine GW AbR rfl rfl ⟨_,_,_,_,rfl,_,_,_,_,_,_,_,_,_,rfl,N1,ha,wlz (Ct _)⟩
 have he:e=0:=by simpa using h
 refine zv ?_;refine GF (λh1=>?_) λh1=>?_
 .have hk:(Hf L a).kind=1:=by simpa using h1
  have lM:=hL.O1 a ha AA;have hs:=Oq hL ha;have MI:At L (a+1):=by unfold At at*;omega
  refine zv ?_;refine PM (a:=IntKind.i64.wrap (a+1)) rfl AM ?_;refine zv ?_;refine GF (λh2=>?_) λh2=>?_
  .refine zv ?_;have G7:mu L (a+1) e<mu L a e:=by rw[Ha he,Ha he];omega
   refine(xU (a:=IntKind.i64.wrap (a+1)) (M:=mu L (a+1) e) hL (λa e b n h1 h2=>Q4 a e b n h1 AA) AM AO).call rfl rfl λr a2 e2 b2 n2 h3=>?_;obtain⟨l,rfl,hw,HM,Lt,Me⟩:=h3;rw[hs]at Me;refine zv ?_;refine GW AbR rfl rfl ⟨_,_,_,_,rfl,13,0,_,0,0,0,0,l,_,rfl,qJ AA AA hw AA,Lt,wlL AA⟩
  .refine zv ?_;refine GW AbR rfl rfl ⟨_,_,_,_,rfl,2,0,_,0,0,0,0,[],_,rfl,TA AA AA,by rw[hs];exact MI,wl0 AaA⟩
 have bad:∀(s:St) (k:F1),True:=λ_ _=>trivial;refine zv ?_;refine GF (λh2=>?_) λh2=>?_
 .have hk:(Hf L a).kind=2:=by simpa using h2
  have lM:=hL.O1 a ha AA;have hs:=Oq hL ha;have MI:At L (a+1):=by unfold At at*;omega
  obtain⟨sg,hsg⟩:=Zk (Hf L a).tk;refine zv ?_;refine AZa hsg ?_;cases sg
  .exact Ahp
  .refine zv ?_;cases h4:decide ((Hf L a).n<0)
   .exact Ahp
   .refine zv ?_;cases h3:(Hf L a).tk==0
    all_goals
     refine zv ?_;exact AdY
 refine zv ?_;refine GF (λh3=>?_) λh3=>?_
 .have hk:(Hf L a).kind=4:=by simpa using h3
  have lM:=hL.O1 a ha AA;have hs:=Oq hL ha;have MI:At L (a+1):=by unfold At at*;omega
  have G7:mu L (a+1) e<mu L a e:=by rw[Ha he,Ha he];omega
  refine zv ?_;refine GF (λh4=>?_) λh4=>?_
  .refine zv ?_;refine(Q4 (IntKind.i64.wrap (a+1)) e b n AM AO).call rfl rfl λf s1 nm tk tl i m GP GY a2 e2 b2 n2 S3 Lt Me=>?_;rw[hs]at Me;refine zv ?_;refine H6 hL rfl Lt λa3 e3 b3 h5=>?_;have:=h5.le Lt;refine zv ?_;refine GW AbR rfl rfl ⟨_,_,_,_,rfl,f,s1,nm,tk,tl,i,m,GP,GY,rfl,S3,h5.1,AA⟩
  .refine zv ?_;refine GF (λh5=>?_) λh5=>?_
   .refine zv ?_;refine(oh (a:=IntKind.i64.wrap (a+1)) (M:=mu L (a+1) e) hL AA AA (λa e b n h1 h2=>Q4 a e b n h1 AA) AM AO).call rfl rfl λr a2 e2 b2 n2 h6=>?_;obtain⟨l,rfl,hw,HM,Lt,Me⟩:=h6;rw[hs]at Me;refine zv ?_;refine H6 hL rfl Lt λa3 e3 b3 h7=>?_;have:=h7.le Lt;refine zv ?_;refine GW AbR rfl rfl ⟨_,_,_,_,rfl,15,0,_,0,0,0,0,l,_,rfl,qJ AA AA hw AA,h7.1,wlL AA⟩
   .unfold aI;exact AdY
 refine zv ?_;refine GF (λh4=>?_) λh4=>?_
 .have hk:(Hf L a).kind=3:=by simpa using h4
  have lM:=hL.O1 a ha AA;have MI:At L (a+1):=by unfold At at*;omega
  refine zv ?_;refine(ARp a e b n ha hm he MI (Hf L a)).call rfl rfl λf s1 nm tk tl i m GP GY a2 e2 b2 n2 S3 Lt Me=>?_;refine zv ?_;refine GW AbR rfl rfl ⟨_,_,_,_,rfl,f,s1,nm,tk,tl,i,m,GP,GY,rfl,S3,Lt,Me⟩
 .unfold aI;exact AdY
end
end
section
open Go.Proofs
section
variable{L:List PT} {a e b n:Int}
def PE.ie{f:Nat}{args vs:LP}{s:St}{k:KL}(h:PE L f args a e b n)(h1:JA vs 0=some (.GN 0 0::args,[0]))(h3:Gv s [0]=some [cells L a e b n])
  (hk:∀f s1 nm tk tl i m GP GY a' e' b' n',(Gw.mk f s1 nm tk tl i m GP GY).WF->At L a'->((Gw.mk f s1 nm tk tl i m GP GY).wt:Int)+mu L a' e'<=mu L a e->
   k (.agg [I f,I s1,.Gh nm,I tk,I tl,I i,I m,.GV (Gw.GK GP),I GY]) (s.set 0 (.box (cells L a' e' b' n'))) [] [0]):Gb BZ f vs s k:=
 PF.ie h h1 h3 λr a' e' b' n' h=>by
  exact Ad7
def zb{s:St}{k:F1}(hL:Ii L)(h3:Gv s [0]=some [cells L a e b n])(ha:At L a)(hk:∀w o a' e' b',T7 L a e a' e'->k (.agg [.Gh w,.bool o]) (s.set 0 (.box (cells L a' e' b' n)))):Gn BZ 165 [.GN 0 0] s k:=(xc hL ha).call rfl h3 λr a' e' b' n' h=>by obtain⟨rfl,⟨g,rfl⟩,h⟩:=h;exact hk g.name g.on a' e' b' h
def zF{f s i m:Int}{x y:Gw}{nm:BA}{GY:Int}(hf:f=10\/f=19)(hx:x.WF)(hy:y.WF):(Gw.mk f s nm 0 0 i m [x,y] GY).WF:=by
 refine .mk _ _ _ _ _ _ _ _ _ ⟨?_,?_,?_,?_,?_⟩ AA AA AA AA (by simp[hx,hy])
 all_goals simp
 all_goals omega
def AFL{i m:Int}{x:Gw}{l:List Gw}{nm:BA}{GY:Int}(hl:∀x∈l,x.WF)(hx:x.WF)(HM:l.length<=16):(Gw.mk 14 0 nm 0 0 i m (l++[x]) GY).WF:=by
 refine .mk _ _ _ _ _ _ _ _ _ ⟨?_,?_,?_,?_,?_⟩ AA AA AA AA λk hk=>?_
 case refine_6=>
  rcases Bf.1 hk with h|h
  .exact hl k h
  .rw[By.1 h];exact hx
 all_goals simp
 all_goals omega
def ABz{s:St}{f s1 tk tl i m GY:Int}{nm:BA}{kv:PV}{GP:List Gw}(h:kv.data=some (.GV (Gw.GK GP))):
  (bif Br 0 0 then OB (Lg [.agg [I f,I s1,.Gh nm,I tk,I tl,I i,I m,kv,I GY]])else TV 0 s (Lg [.agg [I f,I s1,.Gh nm,I tk,I tl,I i,I m,kv,I GY]]))=
   some (.agg [I f,I s1,.Gh nm,I tk,I tl,I i,I m,.GV (Gw.GK GP),I GY]):=by
 have:JC [I f,I s1,.Gh nm,I tk,I tl,I i,I m,kv,I GY]=some [I f,I s1,.Gh nm,I tk,I tl,I i,I m,.GV (Gw.GK GP),I GY]:=by
  simp only[JC,h];rfl
 exact AfD
def Oa(hL:Ii L){a5 e5 b5 n5:Int}(xw:At L a5){f s1 tk tl i m GY:Int}{nm:BA}{GP:List Gw}(hw:(Gw.mk f s1 nm tk tl i m GP GY).WF)(mh:((Gw.mk f s1 nm tk tl i m GP GY).wt:Int)+mu L a5 e5<=mu L a e)
  {kv:PV}(lD:kv.data=some (.GV (Gw.GK GP)))(hks:kv.IT=true){o1:Obj}{cs:LP}(JK:cs.length=9){hp:HO}{nx:Nat}:
  Jb 0 1 (λr c=>∃a' e' b' n',c=[cells L a' e' b' n']/\∃f s nm tk tl k m GP GY,r=.agg [I f,I s,.Gh nm,I tk,I tl,I k,I m,.GV (Gw.GK GP),I GY]/\(Gw.mk f s nm tk tl k m GP GY).WF/\At L a'/\((Gw.mk f s nm tk tl k m GP GY).wt:Int)+mu L a' e'<=mu L a e)
   (.GN 0 0) (.GN 2 0) (.GN 3 0) (Qx [.box (cells L a5 e5 b5 n5),o1,.box cs,.box [I f,I s1,.Gh nm,I tk,I tl,I i,I m,kv,I GY]] hp nx):=by
 unfold Jb;refine H6 hL rfl xw λa6 e6 b6 h6=>?_;have x7:=h6.le xw;refine zv ?_;refine Fy (IZ rfl rfl (by simp only[Co,hks];rfl) JK) ?_;refine GW AbR (ABz lD) rfl ⟨_,_,_,_,rfl,f,s1,nm,tk,tl,i,m,GP,GY,rfl,hw,h6.1,AA⟩
def ABK(hL:Ii L){M:Int}(Q4:qb L 167 [] M)(ha:At L a)(he:e=0)(MI:At L (a+1))(hm:mu L a e<=M){t1 t3 t4 t5 t6:PV}{w:BA}{x:Bool}{YH:Int}{hp:HO}:
  Ma 0 1 (λr c=>∃a' e' b' n',c=[cells L a' e' b' n']/\∃f s nm tk tl k m GP GY,r=.agg [I f,I s,.Gh nm,I tk,I tl,I k,I m,.GV (Gw.GK GP),I GY]/\(Gw.mk f s nm tk tl k m GP GY).WF/\At L a'/\((Gw.mk f s nm tk tl k m GP GY).wt:Int)+mu L a' e'<=mu L a e)
   (.GN 0 0) (.GN 1 0) (.GN 2 0) (.GN 3 0) (.bool x) (Qx [.box (cells L a e b n),.box [t1,.Gh w,t3,t4,t5,t6],.box [I 0,I 0,.Gh ⟨#[]⟩,I 0,I 0,I 0,I 0,.nil,I 0],.box [I 0,I 0,.Gh ⟨#[]⟩,I 0,I 0,I 0,I 0,.nil,I YH]] hp 4):=by
 have hs:=Oq hL ha;have G7:mu L (a+1) e<mu L a e:=by rw[Ha he,Ha he];omega
 unfold Ma;refine AT5 ?_ ?_
 case refine_2=>
  exact AdY
 refine zv ?_;refine H6 (a:=IntKind.i64.wrap (a+1)) hL rfl AM λa2 e2 b2 h2=>?_;have cM:=h2.le AM;have Lt:=h2.1;rw[hs]at cM;refine zv ?_;refine AT5 ?_ ?_
 .refine zv ?_;refine(Q4 a2 e2 b2 n Lt AA).call rfl rfl λf1 s1 sJ tJ tK i1 m1 Qo Mr a3 e3 b3 n3 SY SR lU=>?_;refine zv ?_;refine H6 hL rfl SR λa4 e4 b4 h4=>?_;have lT:=h4.le SR;refine zb hL rfl h4.1 λw o a5 e5 b5 h5=>?_;have hl5:=h5.le h4.1;refine zv ?_;cases o
  .exact Adg
  .exact Adg
 refine zv ?_;refine AT5 ?_ ?_
 .exact AdX
 refine zv ?_;refine AT5 ?_ ?_
 .refine zv ?_;refine zd hL rfl Lt λw a3 e3 b3 hw0 hw9 h3=>?_;have mg:=h3.le Lt;refine zv ?_;refine H6 hL rfl h3.1 λa4 e4 b4 h4=>?_;have lT:=h4.le h3.1;refine(Q4 a4 e4 b4 n h4.1 AA).call rfl rfl λf1 s1 sJ tJ tK i1 m1 Qo Mr a5 e5 b5 n5 SY xw AHS=>?_;refine zv ?_;exact LW (Jb 0 1 _ _ _ _) rfl rfl rfl rfl rfl λJs=>Oa hL xw (GP:=[.mk f1 s1 sJ tJ tK i1 m1 Qo Mr]) AdQ (wl1 AA) rfl rfl rfl
 refine zv ?_;refine AT5 ?_ ?_
 .refine zv ?_;refine dD hL rfl Lt λw a3 e3 b3 h3=>?_;have mg:=h3.le Lt;refine zv ?_;refine H6 hL rfl h3.1 λa4 e4 b4 h4=>?_;have lT:=h4.le h3.1;refine dD hL rfl h4.1 λw2 a5 e5 b5 h5=>?_;have hl5:=h5.le h4.1;refine zv ?_;exact LW (Jb 0 1 _ _ _ _) rfl rfl rfl rfl rfl λJs=>Oa hL h5.1 (GP:=[]) (TA AA AA) (wl0 AA) rfl rfl rfl
 refine zv ?_;refine AT5 ?_ ?_
 .refine zv ?_;refine Nr hL rfl Lt λw a3 e3 b3 h3=>?_;have mg:=h3.le Lt;refine zv ?_;refine(xU (M:=mu L (a+1) e) hL (λa e b n h1 h2=>Q4 a e b n h1 AA) h3.1 AA).call rfl rfl λr a4 e4 b4 n4 h4=>?_;obtain⟨l,rfl,hwl,HM,qR,AMd⟩:=h4;refine zv ?_;refine H6 hL rfl qR λa5 e5 b5 h5=>?_;have hl5:=h5.le qR;refine zv ?_;refine(Q4 a5 e5 b5 n4 h5.1 AA).ie rfl rfl λf2 s2 YO YR YS i2 m2 LM NO a7 e7 b7 n7 S3 ha7 AMe=>?_;refine zv ?_;have rZ:(Gw.GK l).length=l.length:=by rw[Gw.Iu,Bb]
  have NJ:Gw.GK (l++[.mk f2 s2 YO YR YS i2 m2 LM NO])=Gw.GK l++[[I f2,I s2,.Gh YO,I YR,I YS,I i2,I m2,.GV (Gw.GK LM),I NO]]:=by
   rw[Gw.Iu,Gw.Iu,Bu];rfl
  refine AZc (Jp rfl rfl (G4 AB AA) (HQ Gw.Qv) zh (.inr rfl)) ?_;rw[<- NJ];refine⟨by kernel_rfl,?_⟩;exact LW (Jb 0 1 _ _ _ _) rfl rfl rfl rfl rfl λJs=>Oa hL ha7 (GP:=l++[.mk f2 s2 YO YR YS i2 m2 LM NO]) (AFL hwl S3 HM) (wlL (by rw[Gw.HY];simp only[Gw.HS];omega)) rfl rfl rfl
 refine zv ?_;refine AT5 ?_ ?_
 .refine zv ?_;refine(Q4 a2 e2 b2 n Lt AA).call rfl rfl λf1 s1 sJ tJ tK i1 m1 Qo Mr a3 e3 b3 n3 SY SR lU=>?_;refine zv ?_;refine H6 hL rfl SR λa4 e4 b4 h4=>?_;have lT:=h4.le SR;refine dD hL rfl h4.1 λw a5 e5 b5 h5=>?_;have hl5:=h5.le h4.1;exact Adg
 refine zv ?_;refine AT5 ?_ ?_
 .refine zv ?_;refine Nr hL rfl Lt λw a3 e3 b3 h3=>?_;have mg:=h3.le Lt;refine zv ?_;refine H6 hL rfl h3.1 λa4 e4 b4 h4=>?_;have lT:=h4.le h3.1;refine(oh (M:=mu L (a+1) e) hL AA AA (λa e b n h1 h2=>Q4 a e b n h1 AA) h4.1 AA).call rfl rfl λr a5 e5 b5 n5 h5=>?_;obtain⟨l,rfl,hwl,HM,xw,AHS⟩:=h5;refine zv ?_;exact LW (Jb 0 1 _ _ _ _) rfl rfl rfl rfl rfl λJs=>Oa hL xw (GP:=l) (qJ AA AA hwl AA) (wlL AA) rfl rfl rfl
 refine zv ?_;refine AT5 ?_ ?_
 .exact AdX
 exact LW (Jb 0 1 _ _ _ _) rfl rfl rfl rfl rfl λJs=>Oa hL Lt (GP:=[]) (f:=0) (TA AA AA) (wlz AA) rfl rfl rfl
def AIr(hL:Ii L){M:Int}(Q4:qb L 167 [] M):∀a e b n,At L a->mu L a e<=M->e=0->At L (a+1)->∀t:PT,PE L 182 [.agg t.GG] a e b n:=by
 intro a e b n ha hm he MI t;refine AGo 0 rfl _ _ ?_;unfold APt;simp only[PT.GG];refine zv ?_;have hs:=Oq hL ha;have G7:mu L (a+1) e<mu L a e:=by rw[Ha he,Ha he];omega
 refine GF (λh1=>?_) λh1=>?_
 .unfold aL;refine AT6 ?_ (λh=>Zq h AbN);refine zv ?_;refine AT6 ?_ (λh=>Zq h AbN);refine zv ?_;refine GW AbR rfl rfl ⟨_,_,_,_,rfl,1,0,_,1,0,1,0,[],_,rfl,TA AA AA,by rw[hs];exact MI,wl0 AO⟩
 refine zv ?_;unfold aL;refine GF (λh2=>?_) λh2=>?_
 .refine zv ?_;refine GF (λh=>Zq h AbN) λ_=>?_;refine zv ?_;refine GW AbR rfl rfl ⟨_,_,_,_,rfl,1,0,_,1,0,0,0,[],_,rfl,TA AA AA,by rw[hs];exact MI,wl0 AO⟩
 refine zv ?_;refine GF (λh3=>?_) λh3=>?_
 .refine zv ?_;refine(Q4 (IntKind.i64.wrap (a+1)) e b n AM AO).call rfl rfl λf1 s1 sJ tJ tK i1 m1 Qo Mr a2 e2 b2 n2 SY Lt Me=>?_;rw[hs]at Me;refine zv ?_;refine H6 hL rfl Lt λa3 e3 b3 h3=>?_;have mg:=h3.le Lt;refine zv ?_;refine(Q4 a3 e3 b3 n2 h3.1 AA).call rfl rfl λf2 s2 YO YR YS i2 m2 LM NO a4 e4 b4 n4 S3 qR AMd=>?_;refine zv ?_;refine H6 hL rfl qR λa5 e5 b5 h5=>?_;have hl5:=h5.le qR;refine zv ?_;refine(Q4 a5 e5 b5 n4 h5.1 AA).ie rfl rfl λf3 s3 nm3 tk3 tl3 i3 m3 ARz at3 a6 e6 b6 n6 hw3 ha6 hmu6=>?_;refine zv ?_;refine⟨by kernel_rfl,?_⟩;refine zv ?_;refine GW AbR rfl rfl ⟨_,_,_,_,rfl,5,0,_,0,0,0,0,[.mk f1 s1 sJ tJ tK i1 m1 Qo Mr,.mk f2 s2 YO YR YS i2 m2 LM NO,.mk f3 s3 nm3 tk3 tl3 i3 m3 ARz at3],_,rfl,?_,ha6,wl3 AA⟩;refine .mk _ _ _ _ _ _ _ _ _ ⟨?_,?_,?_,?_,?_⟩ AA AA AA AA (by simp[SY,S3,hw3])
  all_goals simp
 have go:∀{x:Bool} {s:St},s.heap 0=some (.box (cells L a e b n))->s.heap 1=some (.box [I t.kind,.Gh t.Pg,I t.n,I t.tk,I t.tl,I t.GY])->s.heap 2=some (.box [I 0,I 0,.Gh ⟨#[]⟩,I 0,I 0,I 0,I 0,.nil,I 0])->
   s.heap 3=some (.box [I 0,I 0,.Gh ⟨#[]⟩,I 0,I 0,I 0,I 0,.nil,I t.GY])->s.next=4->Ma 0 1 (λr c=>∃a' e' b' n',c=[cells L a' e' b' n']/\∃f s nm tk tl k m GP GY,r=.agg [I f,I s,.Gh nm,I tk,I tl,I k,I m,.GV (Gw.GK GP),I GY]/\(Gw.mk f s nm tk tl k m GP GY).WF/\At L a'/\((Gw.mk f s nm tk tl k m GP GY).wt:Int)+mu L a' e'<=mu L a e)
   (.GN 0 0) (.GN 1 0) (.GN 2 0) (.GN 3 0) (.bool x) s:=λh0 h1 h2 h3 hn=>
  LW (Ma 0 1 _ _ _ _ _ _) h0 h1 h2 h3 hn λJs=>ABK hL Q4 ha he MI hm
 repeat' first
  |exact go rfl rfl rfl rfl rfl
  |(refine AT5 ?_ ?_)
  |refine zv ?_
end
end
def ACj{L:List PT}(hL:Ii L):∀c:Nat,Px L 175 [] c/\Px L 173 [] c/\Px L 171 [] c/\Px L 170 [] c/\Px L 167 [] c:=by
 intro c
 induction c using Nat.strongRecOn with
 |ind c ih=>
  have go:∀f,(∀m,m<c->Px L f [] m)->qb L f [] c:=λf h a e b n ha hm=>by
   have h0:=Qp (e:=e) ha;exact h (mu L a e).toNat AA a e b n ha AA
  have AWQ:=go 175 λm hm=>(ih m hm).1;have AWP:=go 173 λm hm=>(ih m hm).2.1;have AWO:=go 171 λm hm=>(ih m hm).2.2.1;have AWN:=go 170 λm hm=>(ih m hm).2.2.2.1;have AR2:=go 167 λm hm=>(ih m hm).2.2.2.2;have AUL:=AIL hL AR2 (AIr hL AR2);have AQL:=AFF hL (AA1 hL AWQ AUL);have AQK:=ANE hL (ADs hL AQL 8 0 AA AA) AWP;have AQJ:=ALh hL AQK AWO;have AQI:=ABx hL AQJ AWN;exact⟨AQL,AQK,AQJ,AQI,ALg hL AQI⟩
def xf{L:List PT}(hL:Ii L)(M:Int):Px L 167 [] M:=λa e b n ha hm=>by
 have h0:=Qp (e:=e) ha;exact(ACj hL (mu L a e).toNat).2.2.2.2 a e b n ha AA
section
open Go.Proofs
def Ph{l:List Gj}:∀r∈l.map Gj.GG,r.length=12:=by intro r hr;exact Afd
def Kj{s:St}{cs k:LP}(h:s.heap 0=some (.box cs))(hd:JC cs=some k):Gv s [0]=some [k]:=by simp only[Gv,h,hd]
section
variable{L:List PT} {a e b n:Int}
def wi(hL:Ii L){w:BA}{Q:PV->Int->Int->Int->Int->Prop}:∀(c:Nat) {a e b n:Int} (ha:At L a) (hc:mu L a e<=c) (l:List Gj) (hw:∀x∈l,x.cond.WF) (HM:l.length<=16) {eo:Nat} (Uo:l.map Gj.GG=[]\/eo=12)
   (hQ:∀(l':List Gj) a' e' b' n',(∀x∈l',x.cond.WF)->l'.length<=16->At L a'->(Gj.HS l':Int)+mu L a' e'<=Gj.HS l+mu L a e->Q (.HL 12 (l'.map Gj.GG)) a' e' b' n'),
   ∃k,∀(hp:HO) (o1:Obj) (nx:Nat),WG 12 1 (λr c=>∃a' e' b' n',c=[cells L a' e' b' n']/\Q r a' e' b' n') k (.GN 0 0) (.Gh w) (.HL 2 (l.map Gj.GG))
    (Qx [.box (cells L a e b n),o1,.HE (l.map Gj.GG).length eo] hp (nx+3)):=by
 intro c
 induction c with
 |zero=>
  intro a e b n ha hc l hw HM eo Uo hQ;have he:e≠0:=λh=>by have:=Om ha h;omega
  have hm:TK L a e w=false:=by
   cases h:TK L a e w
   .rfl
   .exact Zq (ry h).1 he
  refine⟨1,λhp o1 nx=>?_⟩;show PI _ _ _ _ _ _ _ _;unfold PI;have h2:=ew (e:=e) (b:=b) (n:=n) ha w;exact AfB
 |succ c ih=>
  intro a e b n ha hc l hw HM eo Uo hQ;have h2:=ew (e:=e) (b:=b) (n:=n) ha w;cases hm:TK L a e w with
  |false=>
   refine⟨1,λhp o1 nx=>?_⟩;show PI _ _ _ _ _ _ _ _;unfold PI;exact AfB
  |true=>
   rw[hm]at h2;obtain⟨he,MI⟩:=L8 hL ha hm;have hs:=Oq hL ha;have G7:mu L (a+1) e<mu L a e:=by rw[Ha he,Ha he];omega
   have rZ:(l.map Gj.GG).length=l.length:=Bb _;by_cases KM:(16:Int)<=((l.map Gj.GG).length:Int)
   .obtain⟨e1,b1,Nl,Jy⟩:=Nb (b:=b) (n:=n) (e:=e) hL ha KM;refine⟨1,λhp o1 nx=>?_⟩;show PI _ _ _ _ _ _ _ _;unfold PI;refine AZb h2 ?_;refine AZb Jy ?_;refine GW rfl (Ij rfl Uo Ph) rfl ⟨_,_,_,_,rfl,hQ _ _ _ _ _ hw HM (At.O1 hL) AG⟩
   .have Jy:=Na (b:=b) (n:=n) (e:=e) hL ha (Dd.1 KM)
    have SA:PC BZ 119 [.GN 0 0] [cells L (IntKind.i64.wrap (a+1)) e b n] (.agg (Hf L (IntKind.i64.wrap (a+1))).GG) [cells L (IntKind.i64.wrap (a+1)) e b n]:=by
     obtain⟨r,c,IE,a',e',b',n',hc,hr,h1,h2,h3,h4⟩:=qG (b:=b) (n:=n) (e:=e) (a:=IntKind.i64.wrap (a+1)) AM;exact AeZ
    obtain⟨r,cc,I4,a2,e2,b2,n2,rfl,f2,s2,YO,YR,YS,i2,m2,LM,NO,rfl,S3,Lt,Me⟩:=xf hL _ (IntKind.i64.wrap (a+1)) e b n AM (Ct _);rw[hs]at Me;have hf:Go.Ab.Im ((l.map Gj.GG).length+1) 128=true:=G4 AA AA
    have Ju:∀(uZ:Bool) (a3 e3 b3:Int),At L a3->mu L a3 e3<=mu L a2 e2->∃k,∀(s:St) (nx:Nat) (o1:Obj),s.heap 0=some (.box (cells L a3 e3 b3 n2))->s.heap 1=some o1->s.heap 2=some (.HE (l.map Gj.GG).length eo)->s.next=nx+4->
      s.heap (nx+3)=some (.box [I f2,I s2,.Gh YO,I YR,I YS,I i2,I m2,.GV (Gw.GK LM),I NO,.Gh ⟨#[]⟩,.bool uZ,I (Hf L (IntKind.i64.wrap (a+1))).GY])->
      aH 12 1 (λr c=>∃a' e' b' n',c=[cells L a' e' b' n']/\Q r a' e' b' n') (WG 12 1 (λr c=>∃a' e' b' n',c=[cells L a' e' b' n']/\Q r a' e' b' n') k) (.GN 0 0) (.Gh w) (.HL 2 (l.map Gj.GG)) (.GN (nx+3) 0) s:=by
     intro uZ a3 e3 b3 SR lU;obtain⟨nm,a4,e4,b4,rY,bI⟩:=gS (b:=b3) (n:=n2) (e:=e3) hL SR;obtain⟨a5,e5,b5,AMm,AJO⟩:=YE (b:=b4) (n:=n2) (e:=e4) hL bI.1 ⟨#[59]⟩;have lT:=bI.le SR;have hl5:=AJO.le bI.1;let t:Gj:=⟨.mk f2 s2 YO YR YS i2 m2 LM NO,nm,uZ,(Hf L (IntKind.i64.wrap (a+1))).GY⟩
     have Gl:(l++[t]).map Gj.GG=l.map Gj.GG++[[I f2,I s2,.Gh YO,I YR,I YS,I i2,I m2,.GV (Gw.GK LM),I NO,.Gh nm,.bool uZ,I (Hf L (IntKind.i64.wrap (a+1))).GY]]:=by
      rw[Bu];rfl
     have bQ:Gj.HS (l++[t])=Gj.HS l+(1+(Gw.mk f2 s2 YO YR YS i2 m2 LM NO).wt):=by rw[Gj.HY];simp only[Gj.HS,Gj.wt,t];omega
     have YN:∀x∈l++[t],x.cond.WF:=λx hx=>by
      exact Adq
     obtain⟨k,hk⟩:=ih (e:=e5) (b:=b5) (n:=n2) AJO.1 AA _ YN AB (eo:=12) (.inr rfl) λl' a' e' b' n' h1 h2 h3 h4=>hQ l' a' e' b' n' h1 h2 h3 Aap;refine⟨k,λs nx o1 h0 h1 h2 hn h4=>?_⟩;unfold aH;refine ATj rY rfl rfl (Kj h0 rfl) rfl ?_;refine ATj AMm rfl rfl AbQ rfl ?_;refine pQ_v (Jp rfl rfl hf (HQ Ph) zh (Uo.imp (λh=>by rw[h];rfl) λh=>h.symm)) ?_;rw[<- Gl];exact IF (WG 12 1 _ k _ _ _) rfl (by exact h1) AZp (by exact hn) λJs=>hk Js _ (nx+1)
    cases fS:TK L a2 e2 ⟨#[99,111,110,116,105,110,117,101]⟩with
    |false=>
     obtain⟨a3,e3,b3,TJ,Wq⟩:=YE (b:=b2) (n:=n2) (e:=e2) hL Lt ⟨#[116,104,101,110]⟩;obtain⟨k,hk⟩:=Ju false a3 e3 b3 Wq.1 (Wq.le Lt);refine⟨k+1,λhp o1 nx=>?_⟩;show PI _ _ _ _ _ _ _ _;unfold PI;refine AZb h2 ?_;refine AZb Jy ?_;refine AZb SA ?_;refine AZb I4 ?_;refine ATj (Nw (b:=b2) (n:=n2) hL Lt fS) rfl rfl AbQ rfl ?_;refine GI TJ rfl rfl AbQ rfl ?_;exact hk _ nx o1 zh zh zh rfl zh
    |true=>
     obtain⟨YI,SR⟩:=L8 hL Lt fS;obtain⟨k,hk⟩:=Ju true (a2+1) e2 b2 SR (by rw[Ha YI,Ha YI];omega);refine⟨k+1,λhp o1 nx=>?_⟩;show PI _ _ _ _ _ _ _ _;unfold PI;refine AZb h2 ?_;refine AZb Jy ?_;refine AZb SA ?_;refine AZb I4 ?_;refine ATj (Nx (b:=b2) (n:=n2) hL Lt fS) rfl rfl AbQ rfl ?_;exact hk _ nx o1 zh zh zh rfl zh
def tP(hL:Ii L)(ha:At L a)(w:BA):PF L 168 [.Gh w] a e b n λr a' e' b' n'=>∃l:List Gj,r=.HL 12 (l.map Gj.GG)/\NN.WF l/\At L a'/\(Gj.HS l:Int)+mu L a' e'<=mu L a e:=by
 obtain⟨k,hk⟩:=wi hL (w:=w) (mu L a e).toNat (a:=a) (e:=e) (b:=b) (n:=n) ha AJ [] AD AD (eo:=0) (.inl rfl)
  (Q:=λr a' e' b' n'=>∃l:List Gj,r=.HL 12 (l.map Gj.GG)/\NN.WF l/\At L a'/\(Gj.HS l:Int)+mu L a' e'<=mu L a e) λl' a' e' b' n' h1 h2 h3 h4=>⟨l',rfl,⟨AA,h1⟩,h3,by simpa[Gj.HS]using h4⟩
 refine AGb 12 rfl _ _ ?_;unfold APg;refine zv ?_;refine⟨k,?_⟩;exact IF (WG 12 1 _ k _ _ _) rfl rfl rfl rfl λJs=>hk Js _ 0
end
end
section
open Go.Proofs
def PIs(L:List PT)(a e b n:Int):Prop:=PF L 150 [] a e b n λr a' e' b' n'=>∃l:List Item,r=.HL 12 (l.map Item.GG)/\(∀x∈l,x.WF)/\l.length<=200/\At L a'/\(Item.HS l:Int)+mu L a' e'<=mu L a e
def PLs(L:List PT)(a e b n:Int):Prop:=PF L 149 [] a e b n λr a' e' b' n'=>∃l:List Ge,r=.HL 5 (l.map Ge.GG)/\TB.WF l/\At L a'/\(l.length:Int)+mu L a' e'<=mu L a e
def PDs(L:List PT)(a e b n:Int):Prop:=PF L 147 [] a e b n λr a' e' b' n'=>∃l:List Ge,r=.HL 5 (l.map Ge.GG)/\TB.WF l/\(∀v∈l,v.Ga=[])/\At L a'/\(l.length:Int)+mu L a' e'<=mu L a e
def PSt(L:List PT)(a e b n:Int):Prop:=PF L 166 [] a e b n λr a' e' b' n'=>∃nm JB Jg GA GQ GY,r=.agg [.Gh nm,.GV (JB.map Gj.GG),.GV (Jg.map Gj.GG),.GV (GA.map Ge.GG),.GV (GQ.map Item.GG),I GY]/\(GD.mk nm JB Jg GA GQ GY).WF/\At L a'/\((GD.mk nm JB Jg GA GQ GY).wt:Int)+mu L a' e'<=mu L a e
def AFu{s:St}{nm:BA}{bu bt bi:Nat}{GY:Int}{lv:PV}{ru rt ri rl:LLP}(h:lv.data=some (.GV rl)):
  (bif Br 0 0 then OB (Lg [.agg [.Gh nm,.HL bu ru,.HL bt rt,lv,.HL bi ri,I GY]])else TV 0 s (Lg [.agg [.Gh nm,.HL bu ru,.HL bt rt,lv,.HL bi ri,I GY]]))=
   some (.agg [.Gh nm,.GV ru,.GV rt,.GV rl,.GV ri,I GY]):=by
 have:JC [.Gh nm,.HL bu ru,.HL bt rt,lv,.HL bi ri,I GY]=some [.Gh nm,.GV ru,.GV rt,.GV rl,.GV ri,I GY]:=by
  simp only[JC,h];rfl
 exact AfD
section
variable{L:List PT} {a e b n:Int}
def kj(hL:Ii L){M:Int}(Zs:∀a e b n,At L a->mu L a e<=M->PIs L a e b n){a0 e0:Int}{nm:BA}{JB:List Gj}{GA:List Ge}{lv:PV}{YH:Int}(hlv:lv.data=some (.GV (GA.map Ge.GG)))(hls:lv.IT=true)(hu:NN.WF JB)(hv:TB.WF GA)
  (ha:At L a)(hm:mu L a e<=M)(hW:(1:Int)+Gj.HS JB+GA.length+mu L a e<=mu L a0 e0){bu:Nat}{hp:HO}{nx:Nat}:
  UI 0 1 (λr c=>∃a' e' b' n',c=[cells L a' e' b' n']/\∃nm JB Jg GA GQ GY,r=.agg [.Gh nm,.GV (JB.map Gj.GG),.GV (Jg.map Gj.GG),.GV (GA.map Ge.GG),.GV (GQ.map Item.GG),I GY]/\(GD.mk nm JB Jg GA GQ GY).WF/\At L a'/\((GD.mk nm JB Jg GA GQ GY).wt:Int)+mu L a' e'<=mu L a0 e0)
   (.GN 0 0) (.GN 1 0) (.GN 2 0) (Qx [.box (cells L a e b n),.box [(.Gh ⟨#[]⟩),.nil,.nil,.nil,.nil,(I 0)],.box [.Gh nm,.HL bu (JB.map Gj.GG),.nil,lv,.nil,I YH]] hp (nx+3)):=by
 unfold UI;refine H6 hL rfl ha λa1 e1 b1 h1=>?_;have YK:=h1.le ha;refine(Zs a1 e1 b1 n h1.1 AA).call rfl rfl λr a2 e2 b2 n2 h2=>?_;obtain⟨l,rfl,hwl,HM,Lt,Me⟩:=h2;refine zv ?_;refine(tP hL Lt _).call rfl rfl λr a3 e3 b3 n3 h3=>?_;obtain⟨Jg,rfl,Pv,SR,lU⟩:=h3;refine zv ?_;refine Fy (IZ rfl rfl (by simp only[Co,hls];rfl) rfl) ?_;refine GW Abh (AFu hlv) rfl ⟨_,_,_,_,rfl,nm,JB,Jg,GA,l,YH,rfl,.mk _ _ _ _ _ _ hu Pv hv AA hwl,SR,?_⟩;simp only[GD.wt];omega
def AE0(hL:Ii L){M:Int}(Zs:∀a e b n,At L a->mu L a e<=M->PIs L a e b n)(TI:∀a e b n,At L a->PLs L a e b n)(ha:At L a)(hm:mu L a e<=M)(he:e=0):PSt L a e b n:=by
 refine AGZ 0 rfl _ ?_;unfold APe;refine zv ?_;refine NX rfl ha ?_;refine zv ?_;refine H6 hL rfl ha λa1 e1 b1 h1=>?_;have YK:=h1.2.1 he;refine Nr hL rfl h1.1 λnm a2 e2 b2 h2=>?_;have cM:=h2.le h1.1;refine zv ?_;refine(tP hL h2.1 _).call rfl rfl λr a3 e3 b3 n3 h3=>?_;obtain⟨JB,rfl,hwu,SR,lU⟩:=h3;refine zv ?_;refine Ln hL rfl SR (λfS=>?_) λfS he3 qR=>?_
 .refine zv ?_;exact IF (UI 0 1 _ _ _ _) rfl rfl rfl rfl λJs=>kj hL Zs (GA:=[]) rfl rfl hwu ⟨AD,AD⟩ SR AA (by simp only[List.length_nil];omega) (nx:=1)
 .have G7:mu L (a3+1) e3<mu L a3 e3:=by rw[Ha he3,Ha he3];omega
  refine zv ?_;refine(TI (a3+1) e3 b3 n3 qR).call rfl rfl λr a5 e5 b5 n5 h5=>?_;obtain⟨GA,rfl,qW,xw,AHS⟩:=h5;refine zv ?_;exact IF (UI 0 1 _ _ _ _) rfl rfl rfl rfl λJs=>kj hL Zs (GA:=GA) rfl rfl hwu qW xw AA AA (nx:=2)
end
end
end Go.Vi
