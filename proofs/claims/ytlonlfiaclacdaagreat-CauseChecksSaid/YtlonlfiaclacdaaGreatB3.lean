/- Part of the proof of CauseChecks (own work, made small). -/
import Derived.Test.YtlonlfiaclacdaaGreatB2
import Derived.Test.YtlonlfiaclacdaaGreatProg
import Derived.KernelRfl
set_option linter.all false
set_option maxRecDepth 100000
section
variable{p:Prop}
def AF(q:p:=by kernel_rfl):=q
def AdW(q:p:=by
 refine zv ?_;refine⟨by kernel_rfl,?_⟩;refine zv ?_;refine eG (GG:=[I f,I s1,.Gh nm,I tk,I tl,I i,I m,.GV (BB GP),I GY]) rfl rfl ?_;refine eG (GG:=[I f,I s1,.Gh nm,I tk,I tl,I i,I m,.GV (BB GP),I GY]) rfl rfl ?_;refine xE (GG:=[I f,I s1,.Gh nm,I tk,I tl,I i,I m,.GV (BB GP),I GY]) (GK:=BB GP) rfl rfl ?_;refine AT6 ?_ λh3=>?_
 .refine zv ?_;refine Oi AA rfl λe' a' he=>?_;refine GW rfl rfl rfl ⟨_,_,rfl,rfl,λh=>Zq h he⟩
 .obtain⟨k,Jm⟩:=loop GP.length e a 0 AA AA AA (Q:=λr e' a'=>r=.tuple []/\(e'=0->e=0/\OM N S nd (.mk f s1 nm tk tl i m GP GY))) λe' a' h=>⟨rfl,λlP=>by
   obtain⟨g1,g2⟩:=h lP;refine⟨g1,.mk _ _ _ _ _ _ _ _ _ Tq Tk (λTl=>?_) λk hk=>?_⟩
   .rw[Gw.Iu,Bb]at h3;simp only[DS,decide_eq_false_iff_not,C6,beq_eq_false_iff_ne]at h3;omega
   .obtain⟨q,hq,rfl⟩:=B4 hk;exact g2 q hq AA⟩
  refine⟨k,?_⟩;exact VE (Rx 0 1 _ k _ _ _ _ _) rfl rfl rfl λJs=>Jm Js):=q
def AdX(q:p:=by
 refine zv ?_;refine Nr hL rfl Lt λw a3 e3 b3 h3=>?_;have mg:=h3.le Lt;refine zv ?_;refine H6 hL rfl h3.1 λa4 e4 b4 h4=>?_;have lT:=h4.le h3.1;refine(Q4 a4 e4 b4 n h4.1 AA).call rfl rfl λf1 s1 sJ tJ tK i1 m1 Qo Mr a5 e5 b5 n5 SY xw AHS=>?_;refine zv ?_;refine H6 hL rfl xw λa6 e6 b6 h6=>?_;have x7:=h6.le xw;refine zv ?_;refine(Q4 a6 e6 b6 n5 h6.1 AA).ie rfl rfl λf2 s2 YO YR YS i2 m2 LM NO a7 e7 b7 n7 S3 ha7 AMe=>?_;refine zv ?_;refine⟨by kernel_rfl,?_⟩;exact LW (Jb 0 1 _ _ _ _) rfl rfl rfl rfl rfl λJs=>Oa hL ha7 (GP:=[.mk f1 s1 sJ tJ tK i1 m1 Qo Mr,.mk f2 s2 YO YR YS i2 m2 LM NO]) (zF AA SY S3) (wl2 AA) rfl rfl rfl):=q
def Aer(q:p:=by
 simp only[G1,HI,Gx,KB,MQ,Jl,dN,M5,OY,CC,CG];simp[Hl,IA,Iy];exact⟨λ_=>by omega,⟨λ_=>by omega,by kernel_rfl⟩,λ_=>⟨AA,AA⟩⟩):=q
def Agl(q:p:=by
 simp only[G1,HI,dN,M5,OY,CC,CG];simp[Hl,IA,Iy];kernel_rfl):=q
end
open Eq renaming mp->FI
open Go renaming Code->C5,Func->Dm,FuncId->B9,TypeId->Bz
open Go.Proofs.Tryz renaming prog->BZ
namespace Go.Vi
section
open Go.Proofs
abbrev QT:=PV->LLP->Prop
abbrev F0:=St->Prop
abbrev F1:=PV->F0
abbrev F2:=PV->F1
abbrev F3:=PV->F2
abbrev F4:=PV->F3
abbrev F5:=PV->F4
abbrev F6:=PV->F5
abbrev F7:=PV->F6
abbrev F8:=PV->F7
abbrev F9:=PV->F8
abbrev qY:=PV->F9
abbrev wy:=PV->qY
abbrev Ym:=PV->wy
abbrev zH:=PV->Ym
abbrev F14:=PV->zH
abbrev F15:=PV->F14
abbrev F16:=PV->F15
abbrev F17:=PV->F16
abbrev LF:=(List Vd->List Vd)->F0
abbrev I(n:Int):PV:=.int .i64 n
abbrev bT:PV:=.bool true
abbrev bF:PV:=.bool false
abbrev S0:PV:=.Gh ⟨#[]⟩
abbrev zE:LP:=[.int .i64 0,.int .i64 0,.Gh ⟨#[]⟩,.int .i64 0,.int .i64 0,.int .i64 0,.int .i64 0,.nil,.int .i64 0]
abbrev zT:LP:=[.int .i64 0,.Gh ⟨#[]⟩,.int .i64 0,.int .i64 0,.int .i64 0,.int .i64 0]
abbrev zI:LP:=[.nil,.int .i64 0,.int .i64 0,.Gh ⟨#[]⟩,.int .i64 0,.int .i64 0,.int .i64 0,.int .i64 0,.nil,.int .i64 0,.nil,.int .i64 0]
abbrev zS:LP:=[.Gh ⟨#[]⟩,.nil,.nil,.nil,.nil,.int .i64 0]
noncomputable abbrev qB(b:BinOp)(t:Bz)(x y:PV):Option JJ:=HC BZ b t x y
abbrev dN(l:List Vd->List Vd)(s s':St)(r u:LN):List Vd->List Vd:=λt=>l ((r,u++H2 s.next s'.next)::t)
abbrev oQ(q:Option JJ)(K:F1):F0:=λs=>pQ q s K
abbrev dQ(q:Option JJ)(K:PV->LF):LF:=λlg s=>I2 q s λv s' r u=>K v (dN lg s s' r u) s'
abbrev Gi(x:PV):=oQ (HR x)
abbrev PN(x:PV):=dQ (HR x)
abbrev G5(c a b:PV):=oQ (Gp c a b)
abbrev M0(c a b:PV):=dQ (Gp c a b)
abbrev LK(x:PV):=oQ (Ht x)
abbrev IX(z:LP)(l:List (Option (Nat×Nat)×PV)):=oQ (Gf z l)
abbrev dJ(z:LP)(l:List (Option (Nat×Nat)×PV)):=dQ (Gf z l)
abbrev On(n:Nat)(l:LP):=oQ (Hu n l)
abbrev VY(n:Nat)(l:LP):=dQ (Hu n l)
abbrev AEF(n:Nat)(l:LP):=oQ (Ia n l)
abbrev H4(a:PV):=oQ (GJ a)
abbrev IS(a:PV):=dQ (GJ a)
abbrev Gd(n:Nat)(a:PV):=oQ (GM n a)
abbrev I3(n:Nat)(a:PV):=dQ (GM n a)
abbrev GZ(n:Nat)(x a:PV):=oQ (Gc n x a)
abbrev KC(n:Nat)(x a:PV):=dQ (Gc n x a)
abbrev O2(x:PV):=oQ (HK x)
abbrev NF(x:PV):=dQ (HK x)
noncomputable abbrev IM(b:BinOp)(t:Bz)(x y:PV):=oQ (HC BZ b t x y)
noncomputable abbrev jF(b:BinOp)(t:Bz)(x y:PV):=dQ (HC BZ b t x y)
abbrev T2(o:UnOp)(x:PV):=oQ (JI o x)
abbrev dUn(o:UnOp)(x:PV):=dQ (JI o x)
abbrev ASB(i:IntKind)(x:PV):=oQ (G6 i x)
abbrev AAi(a b:Bool)(x:PV)(l:LP):=oQ (Hs a b x l)
abbrev AEL(n:Nat)(a b:Bool)(x:PV)(l:LP):=oQ (Hq n a b x l)
abbrev AT8(n:Nat)(a b:Bool)(x:PV)(l:LP):=dQ (Hq n a b x l)
abbrev bf(n:Nat)(x:PV):=oQ (Ho n x)
abbrev ai(n:Nat)(x:PV):=dQ (Ho n x)
abbrev oF1(n:Nat)(x:PV):=oQ (JZ n x)
abbrev Jo(n:Nat)(x i:PV):=oQ (Ip n x i)
abbrev MF(n:Nat)(x i:PV):=dQ (Ip n x i)
abbrev oIS(x i:PV):=oQ (JN x i)
abbrev TT(n:Nat)(x:PV):=oQ (JW n x)
abbrev dEx(n:Nat)(x:PV):=dQ (JW n x)
abbrev VS(x:PV):=oQ (G2 x)
abbrev G8(x:PV):=oQ (Gq x)
abbrev AI8(x:PV):=dQ (Gq x)
abbrev PZ(n m:Nat)(x y:PV):=oQ (Hb n m x y)
abbrev OS(n m:Nat)(x y:PV):=dQ (Hb n m x y)
abbrev sM(n m:Nat)(x y:PV):=oQ (II n m x y)
abbrev ASD(n m:Nat)(z:LP)(x y:PV):=oQ (IY n m z x y)
abbrev AI9(n m:Nat)(z:LP)(x y:PV):=dQ (IY n m z x y)
abbrev AWU(x y:PV):=oQ (Jq x y)
abbrev ACK(x y:PV):=dQ (Jq x y)
abbrev LO:=oQ (some (.HE 0 0 λb=> .HL b []))
abbrev Kh(l:LP):=oQ (some (.box l λb=> .GN b 0))
abbrev dBx(l:LP):=dQ (some (.box l λb=> .GN b 0))
abbrev AH7:=oQ (some (.map [] λb=> .map b))
noncomputable abbrev AKE(x y:PV):Option JJ:=HC BZ .add 3 x y
noncomputable abbrev Jw(x y:PV):=oQ (HC BZ .add 3 x y)
noncomputable abbrev HG(x y:PV)(K:F1):=oQ (HC BZ .add 3 x y) λa=>Gi a K
noncomputable abbrev ASN(x y:PV):Option JJ:=HC BZ .sub 3 x y
noncomputable abbrev bg(x y:PV):=oQ (HC BZ .sub 3 x y)
noncomputable abbrev Uy(x y:PV)(K:F1):=oQ (HC BZ .sub 3 x y) λa=>Gi a K
noncomputable abbrev AEI(x y:PV):=oQ (HC BZ .mul 3 x y)
noncomputable abbrev AEJ(x y:PV)(K:F1):=oQ (HC BZ .mul 3 x y) λa=>Gi a K
noncomputable abbrev ASM(x y:PV):Option JJ:=HC BZ .quo 3 x y
noncomputable abbrev ASE(x y:PV):=oQ (HC BZ .quo 3 x y)
noncomputable abbrev ANU(x y:PV)(K:F1):=oQ (HC BZ .rem 3 x y) λa=>Gi a K
noncomputable abbrev IN(x y:PV):Option JJ:=HC BZ .eql 3 x y
noncomputable abbrev JR(x y:PV):=oQ (HC BZ .eql 3 x y)
noncomputable abbrev Hy(x y:PV)(K:F1):=oQ (HC BZ .eql 3 x y) λa=>Gi a K
noncomputable abbrev AI6(x y:PV):=dQ (HC BZ .eql 3 x y)
noncomputable abbrev Mn(x y:PV):Option JJ:=HC BZ .neq 3 x y
noncomputable abbrev LD(x y:PV):=oQ (HC BZ .neq 3 x y)
noncomputable abbrev AEK(x y:PV)(K:F1):=oQ (HC BZ .neq 3 x y) λa=>Gi a K
noncomputable abbrev AP2(x y:PV):=dQ (HC BZ .neq 3 x y)
noncomputable abbrev kV(x y:PV):Option JJ:=HC BZ .lss 3 x y
noncomputable abbrev HU(x y:PV):=oQ (HC BZ .lss 3 x y)
noncomputable abbrev ASL(x y:PV):Option JJ:=HC BZ .leq 3 x y
noncomputable abbrev ASC(x y:PV):=oQ (HC BZ .leq 3 x y)
noncomputable abbrev SH(x y:PV):Option JJ:=HC BZ .gtr 3 x y
noncomputable abbrev Pa(x y:PV):=oQ (HC BZ .gtr 3 x y)
noncomputable abbrev ANT(x y:PV)(K:F1):=oQ (HC BZ .gtr 3 x y) λa=>Gi a K
noncomputable abbrev AI7(x y:PV):=dQ (HC BZ .gtr 3 x y)
noncomputable abbrev AEd(x y:PV):Option JJ:=HC BZ .geq 3 x y
noncomputable abbrev Yh(x y:PV):=oQ (HC BZ .geq 3 x y)
noncomputable abbrev AP1(x y:PV):=dQ (HC BZ .geq 3 x y)
abbrev Hr(n:Nat)(x:PV)(K:F1):=bf n x λa=>H4 a K
abbrev K8(n:Nat)(x:PV)(K:PV->LF):LF:=ai n x λa=>IS a K
abbrev Mg(n m:Nat)(y x:PV)(K:F1):=bf n x λa=>GZ m y a K
abbrev Rq(f:B9)(x:LP)(K:F1):F0:=λs=>Gn BZ f x s λa s=>pQ (HR a) s K
abbrev JV(n:Nat)(x:PV)(K:F1):=O2 x λx=>Hr n x K
abbrev oC(f:B9)(x:LP)(k:F1):F0:=λs=>Gn BZ f x s k
abbrev oG(X:Mode)(f:B9)(x:LP)(k:F1):F0:=λs=>pC BZ X f x s k
abbrev oD(X:Mode)(x:LP)(k:F1):F0:=λs=>Jz BZ X x s k
abbrev oR(X:Mode)(g:PV)(b:PV->F0->F0)(K:F0):F0:=λs=>Jc BZ X g b K s
abbrev dC(f:B9)(x:LP)(k:PV->LF):LF:=λl s=>Gb BZ f x s λv s' r u=>k v (dN l s s' r u) s'
abbrev dG(X:Mode)(f:B9)(x:LP)(k:PV->LF):LF:=λl s=>Nm BZ X f x s λv s' r u=>k v (dN l s s' r u) s'
abbrev dV(k:LF):LF:=λl s=>k (dN l s s [] []) s
abbrev dS(k:LF):F0:=λs=>k (λt=>t) s
abbrev dE(b:LN)(k:F0):LF:=λl s=>Hl [] (l []) b=false/\k s
abbrev Lh(g:PV)(x:PV)(K:F1):F0:=λs=>Ic g true (λk=>k x s [] []) (λv s' _ _=>K v s') s
abbrev xa(g:PV)(x:PV)(K:PV->LF):LF:=λl s=>Ic g true (λk=>k x s [] []) (λv s' r u=>K v (dN l s s' r u) s') s
abbrev H7(g:PV)(q:Option JJ)(K:F1):F0:=λs=>Ic g true (λk=>I2 q s k) (λv s' _ _=>K v s') s
abbrev Ve(g:PV)(q:Option JJ)(K:PV->LF):LF:=λl s=>Ic g true (λk=>I2 q s k) (λv s' r u=>K v (dN l s s' r u) s') s
abbrev hCT(g:PV)(f:B9)(x:LP)(K:F1):F0:=λs=>Ic g true (λk=>Gb BZ f x s k) (λv s' _ _=>K v s') s
abbrev eCT(g:PV)(f:B9)(x:LP)(K:PV->LF):LF:=λl s=>Ic g true (λk=>Gb BZ f x s k) (λv s' r u=>K v (dN l s s' r u) s') s
abbrev hGT(g:PV)(X:Mode)(f:B9)(x:LP)(K:F1):F0:=λs=>Ic g true (λk=>OJ BZ X f x s k) (λv s' _ _=>K v s') s
abbrev SN(g:PV)(x:PV)(K:F1):F0:=λs=>Ic g false (λk=>k x s [] []) (λv s' _ _=>K v s') s
abbrev Sv(g:PV)(x:PV)(K:PV->LF):LF:=λl s=>Ic g false (λk=>k x s [] []) (λv s' r u=>K v (dN l s s' r u) s') s
abbrev Iq(g:PV)(q:Option JJ)(K:F1):F0:=λs=>Ic g false (λk=>I2 q s k) (λv s' _ _=>K v s') s
abbrev Kp(g:PV)(q:Option JJ)(K:PV->LF):LF:=λl s=>Ic g false (λk=>I2 q s k) (λv s' r u=>K v (dN l s s' r u) s') s
abbrev hCF(g:PV)(f:B9)(x:LP)(K:F1):F0:=λs=>Ic g false (λk=>Gb BZ f x s k) (λv s' _ _=>K v s') s
abbrev eCF(g:PV)(f:B9)(x:LP)(K:PV->LF):LF:=λl s=>Ic g false (λk=>Gb BZ f x s k) (λv s' r u=>K v (dN l s s' r u) s') s
abbrev cN(x:PV)(A B:F0):F0:=λs=>Gs x (A s) (B s)
abbrev sF(l:St->List (Option PV))(Q:F1):F0:=λs=>HA (Q5 (l s)) λl=>Q (Lg l) s
abbrev rF(l:St->List (Option PV))(e n:Nat)(Q:QT):F0:=λs=>HA (Q5 (l s)) λl=>HZ e n (Lg l) s Q
abbrev s0(Q:F1):F0:=λs=>HA (Q5 []) λl=>Q (Lg l) s
abbrev r0(e n:Nat)(Q:QT):F0:=λs=>HA (Q5 []) λl=>HZ e n (Lg l) s Q
abbrev s1(a0:PV)(Q:F1):F0:=λs=>HA (Q5 [some a0]) λl=>Q (Lg l) s
abbrev r1(a0:PV)(e n:Nat)(Q:QT):F0:=λs=>HA (Q5 [some a0]) λl=>HZ e n (Lg l) s Q
abbrev s2(a0 a1:PV)(Q:F1):F0:=λs=>HA (Q5 [some a0,some a1]) λl=>Q (Lg l) s
abbrev r2(a0 a1:PV)(e n:Nat)(Q:QT):F0:=λs=>HA (Q5 [some a0,some a1]) λl=>HZ e n (Lg l) s Q
abbrev r3(a0 a1 a2:PV)(e n:Nat)(Q:QT):F0:=λs=>HA (Q5 [some a0,some a1,some a2]) λl=>HZ e n (Lg l) s Q
abbrev J0(c:F0):Ks:=λf=>c
abbrev J1(c:F1)(i0:Nat):Ks:=λf=>c (f i0)
abbrev J2(c:F2)(i0 i1:Nat):Ks:=λf=>c (f i0) (f i1)
abbrev e2(L:Nat->F2)(a0 a1:PV):F0:=λs=>∃m,L m a0 a1 s
abbrev N2:F2:=λ_ _ _=>False
abbrev J3(c:F3)(i0 i1 i2:Nat):Ks:=λf=>c (f i0) (f i1) (f i2)
abbrev e3(L:Nat->F3)(a0 a1 a2:PV):F0:=λs=>∃m,L m a0 a1 a2 s
abbrev N3:F3:=λ_ _ _ _=>False
abbrev J4(c:F4)(i0 i1 i2 i3:Nat):Ks:=λf=>c (f i0) (f i1) (f i2) (f i3)
abbrev e4(L:Nat->F4)(a0 a1 a2 a3:PV):F0:=λs=>∃m,L m a0 a1 a2 a3 s
abbrev N4:F4:=λ_ _ _ _ _=>False
abbrev J5(c:F5)(i0 i1 i2 i3 i4:Nat):Ks:=λf=>c (f i0) (f i1) (f i2) (f i3) (f i4)
abbrev e5(L:Nat->F5)(a0 a1 a2 a3 a4:PV):F0:=λs=>∃m,L m a0 a1 a2 a3 a4 s
abbrev N5:F5:=λ_ _ _ _ _ _=>False
abbrev J6(c:F6)(i0 i1 i2 i3 i4 i5:Nat):Ks:=λf=>c (f i0) (f i1) (f i2) (f i3) (f i4) (f i5)
abbrev e6(L:Nat->F6)(a0 a1 a2 a3 a4 a5:PV):F0:=λs=>∃m,L m a0 a1 a2 a3 a4 a5 s
abbrev N6:F6:=λ_ _ _ _ _ _ _=>False
abbrev J7(c:F7)(i0 i1 i2 i3 i4 i5 i6:Nat):Ks:=λf=>c (f i0) (f i1) (f i2) (f i3) (f i4) (f i5) (f i6)
abbrev e7(L:Nat->F7)(a0 a1 a2 a3 a4 a5 a6:PV):F0:=λs=>∃m,L m a0 a1 a2 a3 a4 a5 a6 s
abbrev N7:F7:=λ_ _ _ _ _ _ _ _=>False
abbrev J8(c:F8)(i0 i1 i2 i3 i4 i5 i6 i7:Nat):Ks:=λf=>c (f i0) (f i1) (f i2) (f i3) (f i4) (f i5) (f i6) (f i7)
abbrev e8(L:Nat->F8)(a0 a1 a2 a3 a4 a5 a6 a7:PV):F0:=λs=>∃m,L m a0 a1 a2 a3 a4 a5 a6 a7 s
abbrev N8:F8:=λ_ _ _ _ _ _ _ _ _=>False
abbrev J9(c:F9)(i0 i1 i2 i3 i4 i5 i6 i7 i8:Nat):Ks:=λf=>c (f i0) (f i1) (f i2) (f i3) (f i4) (f i5) (f i6) (f i7) (f i8)
abbrev e9(L:Nat->F9)(a0 a1 a2 a3 a4 a5 a6 a7 a8:PV):F0:=λs=>∃m,L m a0 a1 a2 a3 a4 a5 a6 a7 a8 s
abbrev N9:F9:=λ_ _ _ _ _ _ _ _ _ _=>False
abbrev J10(c:qY)(i0 i1 i2 i3 i4 i5 i6 i7 i8 i9:Nat):Ks:=λf=>c (f i0) (f i1) (f i2) (f i3) (f i4) (f i5) (f i6) (f i7) (f i8) (f i9)
abbrev e10(L:Nat->qY)(a0 a1 a2 a3 a4 a5 a6 a7 a8 a9:PV):F0:=λs=>∃m,L m a0 a1 a2 a3 a4 a5 a6 a7 a8 a9 s
abbrev N10:qY:=λ_ _ _ _ _ _ _ _ _ _ _=>False
abbrev J11(c:wy)(i0 i1 i2 i3 i4 i5 i6 i7 i8 i9 i10:Nat):Ks:=λf=>c (f i0) (f i1) (f i2) (f i3) (f i4) (f i5) (f i6) (f i7) (f i8) (f i9) (f i10)
abbrev e11(L:Nat->wy)(a0 a1 a2 a3 a4 a5 a6 a7 a8 a9 ts:PV):F0:=λs=>∃m,L m a0 a1 a2 a3 a4 a5 a6 a7 a8 a9 ts s
abbrev N11:wy:=λ_ _ _ _ _ _ _ _ _ _ _ _=>False
abbrev J12(c:Ym)(i0 i1 i2 i3 i4 i5 i6 i7 i8 i9 i10 i11:Nat):Ks:=λf=>c (f i0) (f i1) (f i2) (f i3) (f i4) (f i5) (f i6) (f i7) (f i8) (f i9) (f i10) (f i11)
abbrev e12(L:Nat->Ym)(a0 a1 a2 a3 a4 a5 a6 a7 a8 a9 ts zL:PV):F0:=λs=>∃m,L m a0 a1 a2 a3 a4 a5 a6 a7 a8 a9 ts zL s
abbrev N12:Ym:=λ_ _ _ _ _ _ _ _ _ _ _ _ _=>False
abbrev J13(c:zH)(i0 i1 i2 i3 i4 i5 i6 i7 i8 i9 i10 i11 i12:Nat):Ks:=λf=>c (f i0) (f i1) (f i2) (f i3) (f i4) (f i5) (f i6) (f i7) (f i8) (f i9) (f i10) (f i11) (f i12)
abbrev e13(L:Nat->zH)(a0 a1 a2 a3 a4 a5 a6 a7 a8 a9 ts zL a12:PV):F0:=λs=>∃m,L m a0 a1 a2 a3 a4 a5 a6 a7 a8 a9 ts zL a12 s
abbrev N13:zH:=λ_ _ _ _ _ _ _ _ _ _ _ _ _ _=>False
abbrev J14(c:F14)(i0 i1 i2 i3 i4 i5 i6 i7 i8 i9 i10 i11 i12 i13:Nat):Ks:=λf=>c (f i0) (f i1) (f i2) (f i3) (f i4) (f i5) (f i6) (f i7) (f i8) (f i9) (f i10) (f i11) (f i12) (f i13)
abbrev e14(L:Nat->F14)(a0 a1 a2 a3 a4 a5 a6 a7 a8 a9 ts zL a12 a13:PV):F0:=λs=>∃m,L m a0 a1 a2 a3 a4 a5 a6 a7 a8 a9 ts zL a12 a13 s
abbrev N14:F14:=λ_ _ _ _ _ _ _ _ _ _ _ _ _ _ _=>False
abbrev J15(c:F15)(i0 i1 i2 i3 i4 i5 i6 i7 i8 i9 i10 i11 i12 i13 i14:Nat):Ks:=λf=>c (f i0) (f i1) (f i2) (f i3) (f i4) (f i5) (f i6) (f i7) (f i8) (f i9) (f i10) (f i11) (f i12) (f i13) (f i14)
abbrev e15(L:Nat->F15)(a0 a1 a2 a3 a4 a5 a6 a7 a8 a9 ts zL a12 a13 a14:PV):F0:=λs=>∃m,L m a0 a1 a2 a3 a4 a5 a6 a7 a8 a9 ts zL a12 a13 a14 s
abbrev N15:F15:=λ_ _ _ _ _ _ _ _ _ _ _ _ _ _ _ _=>False
abbrev J17(c:F17)(i0 i1 i2 i3 i4 i5 i6 i7 i8 i9 i10 i11 i12 i13 i14 i15 i16:Nat):Ks:=λf=>c (f i0) (f i1) (f i2) (f i3) (f i4) (f i5) (f i6) (f i7) (f i8) (f i9) (f i10) (f i11) (f i12) (f i13) (f i14) (f i15) (f i16)
abbrev e17(L:Nat->F17)(a0 a1 a2 a3 a4 a5 a6 a7 a8 a9 ts zL a12 a13 a14 a15 a16:PV):F0:=λs=>∃m,L m a0 a1 a2 a3 a4 a5 a6 a7 a8 a9 ts zL a12 a13 a14 a15 a16 s
abbrev N17:F17:=λ_ _ _ _ _ _ _ _ _ _ _ _ _ _ _ _ _ _=>False
section
variable{P:Program} {md:Bool} {X:Mode} {nt:Nat} {rg:Bool}
def wA{c:C5}{K:Kx}{T:Ks}(J:Ks)(h:I6 P md X nt c rg K=T)(hJ:∀f s,T f s=J f s:=by intro _ _;kernel_rfl):I6 P md X nt c rg K=J:=ASt J h hJ
def wL{c:C5}{K:Kx}(L:Nat->Ks){T:Nat->Ks}(h:∀n,I6 P md X nt c rg (eL (L n) K)=T n)(hJ:∀n f s,T n f s=L (n+1) f s:=by intro _ _ _;kernel_rfl)(h0:∀f s,L 0 f s=False:=by intro _ _;kernel_rfl):I6 P md X nt (.loop c) rg K=λf s=>∃n,L n f s:=AOF L h0 λn=>ASt _ (h n) (hJ n)
end
abbrev P0(f:B9)(c:Nat->Nat->QT->F0):Prop:=∀(e:Nat) {n:Nat} {HV:LLP} (_:HV.length=n) {Q:QT} (_:c e n Q (MJ HV)),PQ BZ f [] HV Q
def p0{f:B9}{c:Nat->Nat->QT->F0}{fn:Dm}(PR:Tryz.prog.funcs[f]?=some fn)(nt:Nat){T:Nat->Nat->QT->Ks}{b:C5}(ht:∀e n Q,I6 BZ false .old nt b true (ll BZ e n fn.results.toList Q)=T e n Q)(hb:fn.body=some b:=by rfl)(Uq:max 0 fn.ntmps=nt:=by kernel_rfl)(hA:∀e n Q s,c e n Q s=T e n Q (KZ []) s:=by intros;kernel_rfl):P0 f c:=λe _ _ hn Q h=>nI hn PR hb e Uq (ht e _ Q) (FI (hA e _ Q _) h)
abbrev P1(f:B9)(c:Nat->Nat->QT->F1):Prop:=∀(e:Nat) {n:Nat} {HV:LLP} (_:HV.length=n) {Q:QT} (a0:PV) (_:c e n Q a0 (MJ HV)),PQ BZ f [a0] HV Q
abbrev D1(md:Bool)(f:B9)(c:Mode->F1->F1):Prop:=∀(X:Mode) {Q:F1} (a0:PV) {s:St} (_:c X Q a0 s),Cd BZ md X f [a0] Q s
def p1{f:B9}{c:Nat->Nat->QT->F1}{fn:Dm}(PR:Tryz.prog.funcs[f]?=some fn)(nt:Nat){T:Nat->Nat->QT->Ks}{b:C5}(ht:∀e n Q,I6 BZ false .old nt b true (ll BZ e n fn.results.toList Q)=T e n Q)(hb:fn.body=some b:=by rfl)(Uq:max 1 fn.ntmps=nt:=by kernel_rfl)(hA:∀e n Q (a0:PV) s,c e n Q a0 s=T e n Q (KZ [a0]) s:=by intros;kernel_rfl):P1 f c:=λe _ _ hn Q a0 h=>nI hn PR hb e Uq (ht e _ Q) (FI (hA e _ Q a0 _) h)
def d1{f:B9}{md:Bool}{c:Mode->F1->F1}{fn:Dm}(PR:Tryz.prog.funcs[f]?=some fn)(nt:Nat){T:Mode->F1->Ks}{b:C5}(ht:∀X Q,I6 BZ md X nt b true (ka BZ fn.results.toList Q)=T X Q)(hb:fn.body=some b:=by rfl)(Uq:max 1 fn.ntmps=nt:=by kernel_rfl)(hA:∀X Q (a0:PV) s,c X Q a0 s=T X Q (KZ [a0]) s:=by intros;kernel_rfl):D1 md f c:=λX Q a0 _ h=>mQ PR hb Uq (ht X Q) (FI (hA X Q a0 _) h)
abbrev P2(f:B9)(c:Nat->Nat->QT->F2):Prop:=∀(e:Nat) {n:Nat} {HV:LLP} (_:HV.length=n) {Q:QT} (a0 a1:PV) (_:c e n Q a0 a1 (MJ HV)),PQ BZ f [a0,a1] HV Q
abbrev D2(md:Bool)(f:B9)(c:Mode->F1->F2):Prop:=∀(X:Mode) {Q:F1} (a0 a1:PV) {s:St} (_:c X Q a0 a1 s),Cd BZ md X f [a0,a1] Q s
def p2{f:B9}{c:Nat->Nat->QT->F2}{fn:Dm}(PR:Tryz.prog.funcs[f]?=some fn)(nt:Nat){T:Nat->Nat->QT->Ks}{b:C5}(ht:∀e n Q,I6 BZ false .old nt b true (ll BZ e n fn.results.toList Q)=T e n Q)(hb:fn.body=some b:=by rfl)(Uq:max 2 fn.ntmps=nt:=by kernel_rfl)(hA:∀e n Q (a0 a1:PV) s,c e n Q a0 a1 s=T e n Q (KZ [a0,a1]) s:=by intros;kernel_rfl):P2 f c:=λe _ _ hn Q a0 a1 h=>nI hn PR hb e Uq (ht e _ Q) (FI (hA e _ Q a0 a1 _) h)
def d2{f:B9}{md:Bool}{c:Mode->F1->F2}{fn:Dm}(PR:Tryz.prog.funcs[f]?=some fn)(nt:Nat){T:Mode->F1->Ks}{b:C5}(ht:∀X Q,I6 BZ md X nt b true (ka BZ fn.results.toList Q)=T X Q)(hb:fn.body=some b:=by rfl)(Uq:max 2 fn.ntmps=nt:=by kernel_rfl)(hA:∀X Q (a0 a1:PV) s,c X Q a0 a1 s=T X Q (KZ [a0,a1]) s:=by intros;kernel_rfl):D2 md f c:=λX Q a0 a1 _ h=>mQ PR hb Uq (ht X Q) (FI (hA X Q a0 a1 _) h)
abbrev P3(f:B9)(c:Nat->Nat->QT->F3):Prop:=∀(e:Nat) {n:Nat} {HV:LLP} (_:HV.length=n) {Q:QT} (a0 a1 a2:PV) (_:c e n Q a0 a1 a2 (MJ HV)),PQ BZ f [a0,a1,a2] HV Q
abbrev D3(md:Bool)(f:B9)(c:Mode->F1->F3):Prop:=∀(X:Mode) {Q:F1} (a0 a1 a2:PV) {s:St} (_:c X Q a0 a1 a2 s),Cd BZ md X f [a0,a1,a2] Q s
def p3{f:B9}{c:Nat->Nat->QT->F3}{fn:Dm}(PR:Tryz.prog.funcs[f]?=some fn)(nt:Nat){T:Nat->Nat->QT->Ks}{b:C5}(ht:∀e n Q,I6 BZ false .old nt b true (ll BZ e n fn.results.toList Q)=T e n Q)(hb:fn.body=some b:=by rfl)(Uq:max 3 fn.ntmps=nt:=by kernel_rfl)(hA:∀e n Q (a0 a1 a2:PV) s,c e n Q a0 a1 a2 s=T e n Q (KZ [a0,a1,a2]) s:=by intros;kernel_rfl):P3 f c:=λe _ _ hn Q a0 a1 a2 h=>nI hn PR hb e Uq (ht e _ Q) (FI (hA e _ Q a0 a1 a2 _) h)
def d3{f:B9}{md:Bool}{c:Mode->F1->F3}{fn:Dm}(PR:Tryz.prog.funcs[f]?=some fn)(nt:Nat){T:Mode->F1->Ks}{b:C5}(ht:∀X Q,I6 BZ md X nt b true (ka BZ fn.results.toList Q)=T X Q)(hb:fn.body=some b:=by rfl)(Uq:max 3 fn.ntmps=nt:=by kernel_rfl)(hA:∀X Q (a0 a1 a2:PV) s,c X Q a0 a1 a2 s=T X Q (KZ [a0,a1,a2]) s:=by intros;kernel_rfl):D3 md f c:=λX Q a0 a1 a2 _ h=>mQ PR hb Uq (ht X Q) (FI (hA X Q a0 a1 a2 _) h)
abbrev P4(f:B9)(c:Nat->Nat->QT->F4):Prop:=∀(e:Nat) {n:Nat} {HV:LLP} (_:HV.length=n) {Q:QT} (a0 a1 a2 a3:PV) (_:c e n Q a0 a1 a2 a3 (MJ HV)),PQ BZ f [a0,a1,a2,a3] HV Q
abbrev D4(md:Bool)(f:B9)(c:Mode->F1->F4):Prop:=∀(X:Mode) {Q:F1} (a0 a1 a2 a3:PV) {s:St} (_:c X Q a0 a1 a2 a3 s),Cd BZ md X f [a0,a1,a2,a3] Q s
def p4{f:B9}{c:Nat->Nat->QT->F4}{fn:Dm}(PR:Tryz.prog.funcs[f]?=some fn)(nt:Nat){T:Nat->Nat->QT->Ks}{b:C5}(ht:∀e n Q,I6 BZ false .old nt b true (ll BZ e n fn.results.toList Q)=T e n Q)(hb:fn.body=some b:=by rfl)(Uq:max 4 fn.ntmps=nt:=by kernel_rfl)(hA:∀e n Q (a0 a1 a2 a3:PV) s,c e n Q a0 a1 a2 a3 s=T e n Q (KZ [a0,a1,a2,a3]) s:=by intros;kernel_rfl):P4 f c:=λe _ _ hn Q a0 a1 a2 a3 h=>nI hn PR hb e Uq (ht e _ Q) (FI (hA e _ Q a0 a1 a2 a3 _) h)
def d4{f:B9}{md:Bool}{c:Mode->F1->F4}{fn:Dm}(PR:Tryz.prog.funcs[f]?=some fn)(nt:Nat){T:Mode->F1->Ks}{b:C5}(ht:∀X Q,I6 BZ md X nt b true (ka BZ fn.results.toList Q)=T X Q)(hb:fn.body=some b:=by rfl)(Uq:max 4 fn.ntmps=nt:=by kernel_rfl)(hA:∀X Q (a0 a1 a2 a3:PV) s,c X Q a0 a1 a2 a3 s=T X Q (KZ [a0,a1,a2,a3]) s:=by intros;kernel_rfl):D4 md f c:=λX Q a0 a1 a2 a3 _ h=>mQ PR hb Uq (ht X Q) (FI (hA X Q a0 a1 a2 a3 _) h)
abbrev P5(f:B9)(c:Nat->Nat->QT->F5):Prop:=∀(e:Nat) {n:Nat} {HV:LLP} (_:HV.length=n) {Q:QT} (a0 a1 a2 a3 a4:PV) (_:c e n Q a0 a1 a2 a3 a4 (MJ HV)),PQ BZ f [a0,a1,a2,a3,a4] HV Q
abbrev D5(md:Bool)(f:B9)(c:Mode->F1->F5):Prop:=∀(X:Mode) {Q:F1} (a0 a1 a2 a3 a4:PV) {s:St} (_:c X Q a0 a1 a2 a3 a4 s),Cd BZ md X f [a0,a1,a2,a3,a4] Q s
def p5{f:B9}{c:Nat->Nat->QT->F5}{fn:Dm}(PR:Tryz.prog.funcs[f]?=some fn)(nt:Nat){T:Nat->Nat->QT->Ks}{b:C5}(ht:∀e n Q,I6 BZ false .old nt b true (ll BZ e n fn.results.toList Q)=T e n Q)(hb:fn.body=some b:=by rfl)(Uq:max 5 fn.ntmps=nt:=by kernel_rfl)(hA:∀e n Q (a0 a1 a2 a3 a4:PV) s,c e n Q a0 a1 a2 a3 a4 s=T e n Q (KZ [a0,a1,a2,a3,a4]) s:=by intros;kernel_rfl):P5 f c:=λe _ _ hn Q a0 a1 a2 a3 a4 h=>nI hn PR hb e Uq (ht e _ Q) (FI (hA e _ Q a0 a1 a2 a3 a4 _) h)
def d5{f:B9}{md:Bool}{c:Mode->F1->F5}{fn:Dm}(PR:Tryz.prog.funcs[f]?=some fn)(nt:Nat){T:Mode->F1->Ks}{b:C5}(ht:∀X Q,I6 BZ md X nt b true (ka BZ fn.results.toList Q)=T X Q)(hb:fn.body=some b:=by rfl)(Uq:max 5 fn.ntmps=nt:=by kernel_rfl)(hA:∀X Q (a0 a1 a2 a3 a4:PV) s,c X Q a0 a1 a2 a3 a4 s=T X Q (KZ [a0,a1,a2,a3,a4]) s:=by intros;kernel_rfl):D5 md f c:=λX Q a0 a1 a2 a3 a4 _ h=>mQ PR hb Uq (ht X Q) (FI (hA X Q a0 a1 a2 a3 a4 _) h)
abbrev D9(md:Bool)(f:B9)(c:Mode->F1->F9):Prop:=∀(X:Mode) {Q:F1} (a0 a1 a2 a3 a4 a5 a6 a7 a8:PV) {s:St} (_:c X Q a0 a1 a2 a3 a4 a5 a6 a7 a8 s),Cd BZ md X f [a0,a1,a2,a3,a4,a5,a6,a7,a8] Q s
def d9{f:B9}{md:Bool}{c:Mode->F1->F9}{fn:Dm}(PR:Tryz.prog.funcs[f]?=some fn)(nt:Nat){T:Mode->F1->Ks}{b:C5}(ht:∀X Q,I6 BZ md X nt b true (ka BZ fn.results.toList Q)=T X Q)(hb:fn.body=some b:=by rfl)(Uq:max 9 fn.ntmps=nt:=by kernel_rfl)(hA:∀X Q (a0 a1 a2 a3 a4 a5 a6 a7 a8:PV) s,c X Q a0 a1 a2 a3 a4 a5 a6 a7 a8 s=T X Q (KZ [a0,a1,a2,a3,a4,a5,a6,a7,a8]) s:=by intros;kernel_rfl):D9 md f c:=λX Q a0 a1 a2 a3 a4 a5 a6 a7 a8 _ h=>mQ PR hb Uq (ht X Q) (FI (hA X Q a0 a1 a2 a3 a4 a5 a6 a7 a8 _) h)
end
end Go.Vi
