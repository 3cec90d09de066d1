/- Part of the proof of CauseOrders (own work, made small). -/
import Derived.Test.YtlonlfiaclacdaaGreatB2
import Derived.Test.YtlonlfiaclacdaaGreatProg
import Derived.KernelRfl
set_option linter.all false
set_option maxRecDepth 100000
section
variable{p:Prop}
def AF(q:p:=by kernel_rfl):=q
def AfL(q:p:=by
 refine zv ?_;refine⟨by kernel_rfl,?_⟩;refine zv ?_;refine iV (Gy:=[I f,I s1,.HK nm,I tk,I tl,I i,I m,.HC (A4 G9),I HI]) rfl rfl ?_;refine iV (Gy:=[I f,I s1,.HK nm,I tk,I tl,I i,I m,.HC (A4 G9),I HI]) rfl rfl ?_;refine AAi (Gy:=[I f,I s1,.HK nm,I tk,I tl,I i,I m,.HC (A4 G9),I HI]) (G1:=A4 G9) rfl rfl ?_;refine AWH ?_ λh3=>?_
 .refine zv ?_;refine Pw AA rfl λe' a' he=>?_;refine HB rfl rfl rfl ⟨_,_,rfl,rfl,λh=>Zq h he⟩
 .obtain⟨k,Jr⟩:=loop G9.length e a 0 AA AA AA (Q:=λr e' a'=>r=.tuple []/\(e'=0->e=0/\Qc N S nd (.mk f s1 nm tk tl i m G9 HI))) λe' a' h=>⟨rfl,λoV=>by
   obtain⟨g1,g2⟩:=h oV;refine⟨g1,.mk _ _ _ _ _ _ _ _ _ Vk Vf (λaO=>?_) λk hk=>?_⟩
   .rw[Hh.Jc,BX]at h3;simp only[DV,decide_eq_false_iff_not,Cn,beq_eq_false_iff_ne]at h3;omega
   .obtain⟨q,hq,rfl⟩:=By hk;exact g2 q hq AA⟩
  refine⟨k,?_⟩;exact XR (Tt 0 1 _ k _ _ _ _ _) rfl rfl rfl λK3=>Jr K3):=q
def AfN(q:p:=by
 refine zv ?_;refine O1 hL rfl My λw a3 e3 b3 h3=>?_;have sU:=h3.le My;refine zv ?_;refine Ib hL rfl h3.1 λa4 e4 b4 h4=>?_;have hl4:=h4.le h3.1;refine(Sk a4 e4 b4 n h4.1 AA).call rfl rfl λf1 s1 wO xH xI i1 m1 SJ Nx a5 e5 b5 n5 TN ha5 AKL=>?_;refine zv ?_;refine Ib hL rfl ha5 λa6 e6 b6 h6=>?_;have hl6:=h6.le ha5;refine zv ?_;refine(Sk a6 e6 b6 n5 h6.1 AA).lP rfl rfl λf2 s2 ax az bA i2 m2 MV OV a7 e7 b7 n7 Uu ha7 APO=>?_;refine zv ?_;refine⟨by kernel_rfl,?_⟩;exact Mc (KN 0 1 _ _ _ _) rfl rfl rfl rfl rfl λK3=>Pl hL ha7 (G9:=[.mk f1 s1 wO xH xI i1 m1 SJ Nx,.mk f2 s2 ax az bA i2 m2 MV OV]) (ACQ AA TN Uu) (wl2 AA) rfl rfl rfl):=q
def Agz(q:p:=by
 simp only[Hj,Hz,Hu,LZ,NN,Lu,dN,OC,Pf,CX,CL];simp[Ih,I6,Jv];exact⟨λ_=>by omega,⟨λ_=>by omega,by kernel_rfl⟩,λ_=>⟨AA,AA⟩⟩):=q
def AjT(q:p:=by
 simp only[Hj,Hz,dN,OC,Pf,CX,CL];simp[Ih,I6,Jv];kernel_rfl):=q
end
open Eq renaming mp->GP
open Go renaming BinOp->EP,Code->DA,Func->Eb,FuncId->CE,TypeId->Bm
open Go.Proofs.Tryz renaming prog->BW
namespace Go.Vi
section
open Go.Proofs
abbrev QT:=PV->LLP->Prop
abbrev F0:=St->Prop
abbrev F1:=PV->F0
abbrev F2:=PV->F1
abbrev F3:=PV->F2
abbrev F4:=PV->F3
abbrev F5:=PV->F4
abbrev F6:=PV->F5
abbrev F7:=PV->F6
abbrev F8:=PV->F7
abbrev F9:=PV->F8
abbrev F10:=PV->F9
abbrev qm:=PV->F10
abbrev bl:=PV->qm
abbrev F13:=PV->bl
abbrev F14:=PV->F13
abbrev F15:=PV->F14
abbrev F16:=PV->F15
abbrev F17:=PV->F16
abbrev LF:=(List af->List af)->F0
abbrev I(n:Int):PV:=.int .i64 n
abbrev bT:PV:=.bool true
abbrev bF:PV:=.bool false
abbrev S0:PV:=.HK ⟨#[]⟩
abbrev zE:LP:=[.int .i64 0,.int .i64 0,.HK ⟨#[]⟩,.int .i64 0,.int .i64 0,.int .i64 0,.int .i64 0,.nil,.int .i64 0]
abbrev zT:LP:=[.int .i64 0,.HK ⟨#[]⟩,.int .i64 0,.int .i64 0,.int .i64 0,.int .i64 0]
abbrev zI:LP:=[.nil,.int .i64 0,.int .i64 0,.HK ⟨#[]⟩,.int .i64 0,.int .i64 0,.int .i64 0,.int .i64 0,.nil,.int .i64 0,.nil,.int .i64 0]
abbrev zS:LP:=[.HK ⟨#[]⟩,.nil,.nil,.nil,.nil,.int .i64 0]
noncomputable abbrev qB(b:EP)(t:Bm)(x y:PV):Option KC:=H7 BW b t x y
abbrev dN(l:List af->List af)(s s':St)(r u:LN):List af->List af:=λt=>l ((r,u++It s.next s'.next)::t)
abbrev oQ(q:Option KC)(K:F1):F0:=λs=>pQ q s K
abbrev dQ(q:Option KC)(K:PV->LF):LF:=λlg s=>Jy q s λv s' r u=>K v (dN lg s s' r u) s'
abbrev HL(x:PV):=oQ (IJ x)
abbrev QR(x:PV):=dQ (IJ x)
abbrev Hy(c a b:PV):=oQ (Hf c a b)
abbrev RE(c a b:PV):=dQ (Hf c a b)
abbrev Mr(x:PV):=oQ (Ij x)
abbrev JI(z:LP)(l:List (Option (Nat×Nat)×PV)):=oQ (HS z l)
abbrev gZ(z:LP)(l:List (Option (Nat×Nat)×PV)):=dQ (HS z l)
abbrev Om(n:Nat)(l:LP):=oQ (Ik n l)
abbrev Xj(n:Nat)(l:LP):=dQ (Ik n l)
abbrev AMr(n:Nat)(l:LP):=oQ (Jx n l)
abbrev ASa(n:Nat)(l:LP):=dQ (Jx n l)
abbrev JR(a:PV):=oQ (G3 a)
abbrev MC(a:PV):=dQ (G3 a)
abbrev HN(n:Nat)(a:PV):=oQ (G4 n a)
abbrev Jz(n:Nat)(a:PV):=dQ (G4 n a)
abbrev HG(n:Nat)(x a:PV):=oQ (HQ n x a)
abbrev MD(n:Nat)(x a:PV):=dQ (HQ n x a)
abbrev On(x:PV):=oQ (IA x)
abbrev Nk(x:PV):=dQ (IA x)
noncomputable abbrev JB(b:EP)(t:Bm)(x y:PV):=oQ (H7 BW b t x y)
noncomputable abbrev oO(b:EP)(t:Bm)(x y:PV):=dQ (H7 BW b t x y)
abbrev WC(o:UnOp)(x:PV):=oQ (KV o x)
abbrev dUn(o:UnOp)(x:PV):=dQ (KV o x)
abbrev AUg(i:IntKind)(x:PV):=oQ (Hx i x)
abbrev ADj(a b:Bool)(x:PV)(l:LP):=oQ (Ig a b x l)
abbrev AK3(n:Nat)(a b:Bool)(x:PV)(l:LP):=oQ (Ie n a b x l)
abbrev AWK(n:Nat)(a b:Bool)(x:PV)(l:LP):=dQ (Ie n a b x l)
abbrev iS(n:Nat)(x:PV):=oQ (Iz n x)
abbrev ga(n:Nat)(x:PV):=dQ (Iz n x)
abbrev oF1(n:Nat)(x:PV):=oQ (LH n x)
abbrev Kq(n:Nat)(x i:PV):=oQ (Jq n x i)
abbrev PL(n:Nat)(x i:PV):=dQ (Jq n x i)
abbrev oIS(x i:PV):=oQ (Kp x i)
abbrev bV(n:Nat)(x:PV):=oQ (LG n x)
abbrev dEx(n:Nat)(x:PV):=dQ (LG n x)
abbrev Xc(x:PV):=oQ (Hw x)
abbrev Hv(x:PV):=oQ (Hg x)
abbrev uv(x:PV):=dQ (Hg x)
abbrev PU(n m:Nat)(x y:PV):=oQ (IT n m x y)
abbrev O2(n m:Nat)(x y:PV):=dQ (IT n m x y)
abbrev AMq(n m:Nat)(x y:PV):=oQ (Jk n m x y)
abbrev ASZ(n m:Nat)(x y:PV):=dQ (Jk n m x y)
abbrev AG1(n m:Nat)(z:LP)(x y:PV):=oQ (KB n m z x y)
abbrev AYZ(x y:PV):=oQ (MS x y)
abbrev oIf(t:Bm)(x:PV):=oQ (Sn t x)
abbrev oAs(t:Bm)(x:PV):=oQ (SZ t x)
abbrev dAs(t:Bm)(x:PV):=dQ (SZ t x)
abbrev Le:=oQ (some (.Hm 0 0 λb=> .H6 b []))
abbrev MM(l:LP):=oQ (some (.box l λb=> .G5 b 0))
abbrev dBx(l:LP):=dQ (some (.box l λb=> .G5 b 0))
abbrev AP8:=oQ (some (.map [] λb=> .map b))
noncomputable abbrev AM2(x y:PV):Option KC:=H7 BW .add 3 x y
noncomputable abbrev Ky(x y:PV):=oQ (H7 BW .add 3 x y)
noncomputable abbrev H3(x y:PV)(K:F1):=oQ (H7 BW .add 3 x y) λa=>HL a K
noncomputable abbrev AUt(x y:PV):Option KC:=H7 BW .sub 3 x y
noncomputable abbrev jO(x y:PV):=oQ (H7 BW .sub 3 x y)
noncomputable abbrev XN(x y:PV)(K:F1):=oQ (H7 BW .sub 3 x y) λa=>HL a K
noncomputable abbrev ASc(x y:PV):=dQ (H7 BW .sub 3 x y)
noncomputable abbrev ABr(x y:PV):=oQ (H7 BW .mul 3 x y)
noncomputable abbrev AG2(x y:PV)(K:F1):=oQ (H7 BW .mul 3 x y) λa=>HL a K
noncomputable abbrev AUs(x y:PV):Option KC:=H7 BW .quo 3 x y
noncomputable abbrev AUi(x y:PV):=oQ (H7 BW .quo 3 x y)
noncomputable abbrev AP9(x y:PV)(K:F1):=oQ (H7 BW .quo 3 x y) λa=>HL a K
noncomputable abbrev AQA(x y:PV)(K:F1):=oQ (H7 BW .rem 3 x y) λa=>HL a K
noncomputable abbrev JJ(x y:PV):Option KC:=H7 BW .eql 3 x y
noncomputable abbrev KA(x y:PV):=oQ (H7 BW .eql 3 x y)
noncomputable abbrev IX(x y:PV)(K:F1):=oQ (H7 BW .eql 3 x y) λa=>HL a K
noncomputable abbrev AL1(x y:PV):=dQ (H7 BW .eql 3 x y)
noncomputable abbrev UF(x y:PV):Option KC:=H7 BW .neq 3 x y
noncomputable abbrev Nc(x y:PV):=oQ (H7 BW .neq 3 x y)
noncomputable abbrev fU(x y:PV):Option KC:=H7 BW .lss 3 x y
noncomputable abbrev ID(x y:PV):=oQ (H7 BW .lss 3 x y)
noncomputable abbrev AL3(x y:PV):=dQ (H7 BW .lss 3 x y)
noncomputable abbrev AUr(x y:PV):Option KC:=H7 BW .leq 3 x y
noncomputable abbrev AUh(x y:PV):=oQ (H7 BW .leq 3 x y)
noncomputable abbrev UE(x y:PV):Option KC:=H7 BW .gtr 3 x y
noncomputable abbrev QM(x y:PV):=oQ (H7 BW .gtr 3 x y)
noncomputable abbrev AG0(x y:PV)(K:F1):=oQ (H7 BW .gtr 3 x y) λa=>HL a K
noncomputable abbrev AL2(x y:PV):=dQ (H7 BW .gtr 3 x y)
noncomputable abbrev AHS(x y:PV):Option KC:=H7 BW .geq 3 x y
noncomputable abbrev ZO(x y:PV):=oQ (H7 BW .geq 3 x y)
noncomputable abbrev ASb(x y:PV):=dQ (H7 BW .geq 3 x y)
abbrev Ia(n:Nat)(x:PV)(K:F1):=iS n x λa=>JR a K
abbrev MJ(n:Nat)(x:PV)(K:PV->LF):LF:=ga n x λa=>MC a K
abbrev Nb(n m:Nat)(y x:PV)(K:F1):=iS n x λa=>HG m y a K
abbrev XM(f:CE)(x:LP)(K:F1):F0:=λs=>Hb BW f x s λa s=>pQ (IJ a) s K
abbrev KZ(n:Nat)(x:PV)(K:F1):=On x λx=>Ia n x K
abbrev oC(f:CE)(x:LP)(k:F1):F0:=λs=>Hb BW f x s k
abbrev oG(X:Mode)(f:CE)(x:LP)(k:F1):F0:=λs=>pC BW X f x s k
abbrev oD(X:Mode)(x:LP)(k:F1):F0:=λs=>MW BW X x s k
abbrev oI(X:Mode)(n:String)(x:LP)(k:F1):F0:=λs=>MX BW X n x s k
abbrev oR(X:Mode)(g:PV)(b:PV->F0->F0)(K:F0):F0:=λs=>MH BW X g b K s
abbrev dC(f:CE)(x:LP)(k:PV->LF):LF:=λl s=>HP BW f x s λv s' r u=>k v (dN l s s' r u) s'
abbrev dG(X:Mode)(f:CE)(x:LP)(k:PV->LF):LF:=λl s=>Rs BW X f x s λv s' r u=>k v (dN l s s' r u) s'
abbrev dV(k:LF):LF:=λl s=>k (dN l s s [] []) s
abbrev dS(k:LF):F0:=λs=>k (λt=>t) s
abbrev dE(b:LN)(k:F0):LF:=λl s=>Ih [] (l []) b=false/\k s
abbrev Mx(g:PV)(x:PV)(K:F1):F0:=λs=>JZ g true (λk=>k x s [] []) (λv s' _ _=>K v s') s
abbrev eVT(g:PV)(x:PV)(K:PV->LF):LF:=λl s=>JZ g true (λk=>k x s [] []) (λv s' r u=>K v (dN l s s' r u) s') s
abbrev Is(g:PV)(q:Option KC)(K:F1):F0:=λs=>JZ g true (λk=>Jy q s k) (λv s' _ _=>K v s') s
abbrev eQT(g:PV)(q:Option KC)(K:PV->LF):LF:=λl s=>JZ g true (λk=>Jy q s k) (λv s' r u=>K v (dN l s s' r u) s') s
abbrev hCT(g:PV)(f:CE)(x:LP)(K:F1):F0:=λs=>JZ g true (λk=>HP BW f x s k) (λv s' _ _=>K v s') s
abbrev eCT(g:PV)(f:CE)(x:LP)(K:PV->LF):LF:=λl s=>JZ g true (λk=>HP BW f x s k) (λv s' r u=>K v (dN l s s' r u) s') s
abbrev hIT(g:PV)(X:Mode)(n:String)(x:LP)(K:F1):F0:=λs=>JZ g true (λk=>AMz BW X n x s k) (λv s' _ _=>K v s') s
abbrev U8(g:PV)(x:PV)(K:F1):F0:=λs=>JZ g false (λk=>k x s [] []) (λv s' _ _=>K v s') s
abbrev ju(g:PV)(x:PV)(K:PV->LF):LF:=λl s=>JZ g false (λk=>k x s [] []) (λv s' r u=>K v (dN l s s' r u) s') s
abbrev Kz(g:PV)(q:Option KC)(K:F1):F0:=λs=>JZ g false (λk=>Jy q s k) (λv s' _ _=>K v s') s
abbrev Nl(g:PV)(q:Option KC)(K:PV->LF):LF:=λl s=>JZ g false (λk=>Jy q s k) (λv s' r u=>K v (dN l s s' r u) s') s
abbrev hCF(g:PV)(f:CE)(x:LP)(K:F1):F0:=λs=>JZ g false (λk=>HP BW f x s k) (λv s' _ _=>K v s') s
abbrev eCF(g:PV)(f:CE)(x:LP)(K:PV->LF):LF:=λl s=>JZ g false (λk=>HP BW f x s k) (λv s' r u=>K v (dN l s s' r u) s') s
abbrev hGF(g:PV)(X:Mode)(f:CE)(x:LP)(K:F1):F0:=λs=>JZ g false (λk=>SY BW X f x s k) (λv s' _ _=>K v s') s
abbrev hIF(g:PV)(X:Mode)(n:String)(x:LP)(K:F1):F0:=λs=>JZ g false (λk=>AMz BW X n x s k) (λv s' _ _=>K v s') s
abbrev cN(x:PV)(A B:F0):F0:=λs=>He x (A s) (B s)
abbrev sF(l:St->List (Option PV))(Q:F1):F0:=λs=>H2 (So (l s)) λl=>Q (NF l) s
abbrev rF(l:St->List (Option PV))(e n:Nat)(Q:QT):F0:=λs=>H2 (So (l s)) λl=>IN e n (NF l) s Q
abbrev s0(Q:F1):F0:=λs=>H2 (So []) λl=>Q (NF l) s
abbrev r0(e n:Nat)(Q:QT):F0:=λs=>H2 (So []) λl=>IN e n (NF l) s Q
abbrev s1(a0:PV)(Q:F1):F0:=λs=>H2 (So [some a0]) λl=>Q (NF l) s
abbrev r1(a0:PV)(e n:Nat)(Q:QT):F0:=λs=>H2 (So [some a0]) λl=>IN e n (NF l) s Q
abbrev s2(a0 a1:PV)(Q:F1):F0:=λs=>H2 (So [some a0,some a1]) λl=>Q (NF l) s
abbrev r2(a0 a1:PV)(e n:Nat)(Q:QT):F0:=λs=>H2 (So [some a0,some a1]) λl=>IN e n (NF l) s Q
abbrev r3(a0 a1 a2:PV)(e n:Nat)(Q:QT):F0:=λs=>H2 (So [some a0,some a1,some a2]) λl=>IN e n (NF l) s Q
abbrev J0(c:F0):Ks:=λf=>c
abbrev J1(c:F1)(i0:Nat):Ks:=λf=>c (f i0)
abbrev J2(c:F2)(i0 i1:Nat):Ks:=λf=>c (f i0) (f i1)
abbrev e2(L:Nat->F2)(a0 a1:PV):F0:=λs=>∃m,L m a0 a1 s
abbrev N2:F2:=λ_ _ _=>False
abbrev J3(c:F3)(i0 i1 i2:Nat):Ks:=λf=>c (f i0) (f i1) (f i2)
abbrev e3(L:Nat->F3)(a0 a1 a2:PV):F0:=λs=>∃m,L m a0 a1 a2 s
abbrev N3:F3:=λ_ _ _ _=>False
abbrev J4(c:F4)(i0 i1 i2 i3:Nat):Ks:=λf=>c (f i0) (f i1) (f i2) (f i3)
abbrev e4(L:Nat->F4)(a0 a1 a2 a3:PV):F0:=λs=>∃m,L m a0 a1 a2 a3 s
abbrev N4:F4:=λ_ _ _ _ _=>False
abbrev J5(c:F5)(i0 i1 i2 i3 i4:Nat):Ks:=λf=>c (f i0) (f i1) (f i2) (f i3) (f i4)
abbrev e5(L:Nat->F5)(a0 a1 a2 a3 a4:PV):F0:=λs=>∃m,L m a0 a1 a2 a3 a4 s
abbrev N5:F5:=λ_ _ _ _ _ _=>False
abbrev J6(c:F6)(i0 i1 i2 i3 i4 i5:Nat):Ks:=λf=>c (f i0) (f i1) (f i2) (f i3) (f i4) (f i5)
abbrev e6(L:Nat->F6)(a0 a1 a2 a3 a4 a5:PV):F0:=λs=>∃m,L m a0 a1 a2 a3 a4 a5 s
abbrev N6:F6:=λ_ _ _ _ _ _ _=>False
abbrev J7(c:F7)(i0 i1 i2 i3 i4 i5 i6:Nat):Ks:=λf=>c (f i0) (f i1) (f i2) (f i3) (f i4) (f i5) (f i6)
abbrev e7(L:Nat->F7)(a0 a1 a2 a3 a4 a5 a6:PV):F0:=λs=>∃m,L m a0 a1 a2 a3 a4 a5 a6 s
abbrev N7:F7:=λ_ _ _ _ _ _ _ _=>False
abbrev J8(c:F8)(i0 i1 i2 i3 i4 i5 i6 i7:Nat):Ks:=λf=>c (f i0) (f i1) (f i2) (f i3) (f i4) (f i5) (f i6) (f i7)
abbrev e8(L:Nat->F8)(a0 a1 a2 a3 a4 a5 a6 a7:PV):F0:=λs=>∃m,L m a0 a1 a2 a3 a4 a5 a6 a7 s
abbrev N8:F8:=λ_ _ _ _ _ _ _ _ _=>False
abbrev J9(c:F9)(i0 i1 i2 i3 i4 i5 i6 i7 i8:Nat):Ks:=λf=>c (f i0) (f i1) (f i2) (f i3) (f i4) (f i5) (f i6) (f i7) (f i8)
abbrev e9(L:Nat->F9)(a0 a1 a2 a3 a4 a5 a6 a7 a8:PV):F0:=λs=>∃m,L m a0 a1 a2 a3 a4 a5 a6 a7 a8 s
abbrev N9:F9:=λ_ _ _ _ _ _ _ _ _ _=>False
abbrev J10(c:F10)(i0 i1 i2 i3 i4 i5 i6 i7 i8 i9:Nat):Ks:=λf=>c (f i0) (f i1) (f i2) (f i3) (f i4) (f i5) (f i6) (f i7) (f i8) (f i9)
abbrev e10(L:Nat->F10)(a0 a1 a2 a3 a4 a5 a6 a7 a8 a9:PV):F0:=λs=>∃m,L m a0 a1 a2 a3 a4 a5 a6 a7 a8 a9 s
abbrev N10:F10:=λ_ _ _ _ _ _ _ _ _ _ _=>False
abbrev J11(c:qm)(i0 i1 i2 i3 i4 i5 i6 i7 i8 i9 i10:Nat):Ks:=λf=>c (f i0) (f i1) (f i2) (f i3) (f i4) (f i5) (f i6) (f i7) (f i8) (f i9) (f i10)
abbrev e11(L:Nat->qm)(a0 a1 a2 a3 a4 a5 a6 a7 a8 a9 uK:PV):F0:=λs=>∃m,L m a0 a1 a2 a3 a4 a5 a6 a7 a8 a9 uK s
abbrev N11:qm:=λ_ _ _ _ _ _ _ _ _ _ _ _=>False
abbrev J12(c:bl)(i0 i1 i2 i3 i4 i5 i6 i7 i8 i9 i10 i11:Nat):Ks:=λf=>c (f i0) (f i1) (f i2) (f i3) (f i4) (f i5) (f i6) (f i7) (f i8) (f i9) (f i10) (f i11)
abbrev xT(L:Nat->bl)(a0 a1 a2 a3 a4 a5 a6 a7 a8 a9 uK a11:PV):F0:=λs=>∃m,L m a0 a1 a2 a3 a4 a5 a6 a7 a8 a9 uK a11 s
abbrev N12:bl:=λ_ _ _ _ _ _ _ _ _ _ _ _ _=>False
abbrev J13(c:F13)(i0 i1 i2 i3 i4 i5 i6 i7 i8 i9 i10 i11 i12:Nat):Ks:=λf=>c (f i0) (f i1) (f i2) (f i3) (f i4) (f i5) (f i6) (f i7) (f i8) (f i9) (f i10) (f i11) (f i12)
abbrev e13(L:Nat->F13)(a0 a1 a2 a3 a4 a5 a6 a7 a8 a9 uK a11 a12:PV):F0:=λs=>∃m,L m a0 a1 a2 a3 a4 a5 a6 a7 a8 a9 uK a11 a12 s
abbrev N13:F13:=λ_ _ _ _ _ _ _ _ _ _ _ _ _ _=>False
abbrev J14(c:F14)(i0 i1 i2 i3 i4 i5 i6 i7 i8 i9 i10 i11 i12 i13:Nat):Ks:=λf=>c (f i0) (f i1) (f i2) (f i3) (f i4) (f i5) (f i6) (f i7) (f i8) (f i9) (f i10) (f i11) (f i12) (f i13)
abbrev e14(L:Nat->F14)(a0 a1 a2 a3 a4 a5 a6 a7 a8 a9 uK a11 a12 a13:PV):F0:=λs=>∃m,L m a0 a1 a2 a3 a4 a5 a6 a7 a8 a9 uK a11 a12 a13 s
abbrev N14:F14:=λ_ _ _ _ _ _ _ _ _ _ _ _ _ _ _=>False
abbrev J15(c:F15)(i0 i1 i2 i3 i4 i5 i6 i7 i8 i9 i10 i11 i12 i13 i14:Nat):Ks:=λf=>c (f i0) (f i1) (f i2) (f i3) (f i4) (f i5) (f i6) (f i7) (f i8) (f i9) (f i10) (f i11) (f i12) (f i13) (f i14)
abbrev e15(L:Nat->F15)(a0 a1 a2 a3 a4 a5 a6 a7 a8 a9 uK a11 a12 a13 a14:PV):F0:=λs=>∃m,L m a0 a1 a2 a3 a4 a5 a6 a7 a8 a9 uK a11 a12 a13 a14 s
abbrev N15:F15:=λ_ _ _ _ _ _ _ _ _ _ _ _ _ _ _ _=>False
abbrev J17(c:F17)(i0 i1 i2 i3 i4 i5 i6 i7 i8 i9 i10 i11 i12 i13 i14 i15 i16:Nat):Ks:=λf=>c (f i0) (f i1) (f i2) (f i3) (f i4) (f i5) (f i6) (f i7) (f i8) (f i9) (f i10) (f i11) (f i12) (f i13) (f i14) (f i15) (f i16)
abbrev e17(L:Nat->F17)(a0 a1 a2 a3 a4 a5 a6 a7 a8 a9 uK a11 a12 a13 a14 a15 a16:PV):F0:=λs=>∃m,L m a0 a1 a2 a3 a4 a5 a6 a7 a8 a9 uK a11 a12 a13 a14 a15 a16 s
abbrev N17:F17:=λ_ _ _ _ _ _ _ _ _ _ _ _ _ _ _ _ _ _=>False
section
variable{P:Program} {md:Bool} {X:Mode} {nt:Nat} {rg:Bool}
def wA{c:DA}{K:Kx}{T:Ks}(J:Ks)(h:Jn P md X nt c rg K=T)(hJ:∀f s,T f s=J f s:=by intro _ _;kernel_rfl):Jn P md X nt c rg K=J:=AVG J h hJ
def wL{c:DA}{K:Kx}(L:Nat->Ks){T:Nat->Ks}(h:∀n,Jn P md X nt c rg (iY (L n) K)=T n)(hJ:∀n f s,T n f s=L (n+1) f s:=by intro _ _ _;kernel_rfl)(h0:∀f s,L 0 f s=False:=by intro _ _;kernel_rfl):Jn P md X nt (.loop c) rg K=λf s=>∃n,L n f s:=AQu L h0 λn=>AVG _ (h n) (hJ n)
end
abbrev P0(f:CE)(c:Nat->Nat->QT->F0):Prop:=∀(e:Nat) {n:Nat} {IC:LLP} (_:IC.length=n) {Q:QT} (_:c e n Q (Ol IC)),PQ BW f [] IC Q
def p0{f:CE}{c:Nat->Nat->QT->F0}{fn:Eb}(QU:Tryz.prog.funcs[f]?=some fn)(nt:Nat){T:Nat->Nat->QT->Ks}{b:DA}(ht:∀e n Q,Jn BW false .old nt b true (oj BW e n fn.results.toList Q)=T e n Q)(hb:fn.body=some b:=by rfl)(Xl:max 0 fn.ntmps=nt:=by kernel_rfl)(hA:∀e n Q s,c e n Q s=T e n Q (MO []) s:=by intros;kernel_rfl):P0 f c:=λe _ _ hn Q h=>qK hn QU hb e Xl (ht e _ Q) (GP (hA e _ Q _) h)
abbrev P1(f:CE)(c:Nat->Nat->QT->F1):Prop:=∀(e:Nat) {n:Nat} {IC:LLP} (_:IC.length=n) {Q:QT} (a0:PV) (_:c e n Q a0 (Ol IC)),PQ BW f [a0] IC Q
abbrev D1(md:Bool)(f:CE)(c:Mode->F1->F1):Prop:=∀(X:Mode) {Q:F1} (a0:PV) {s:St} (_:c X Q a0 s),Cd BW md X f [a0] Q s
def p1{f:CE}{c:Nat->Nat->QT->F1}{fn:Eb}(QU:Tryz.prog.funcs[f]?=some fn)(nt:Nat){T:Nat->Nat->QT->Ks}{b:DA}(ht:∀e n Q,Jn BW false .old nt b true (oj BW e n fn.results.toList Q)=T e n Q)(hb:fn.body=some b:=by rfl)(Xl:max 1 fn.ntmps=nt:=by kernel_rfl)(hA:∀e n Q (a0:PV) s,c e n Q a0 s=T e n Q (MO [a0]) s:=by intros;kernel_rfl):P1 f c:=λe _ _ hn Q a0 h=>qK hn QU hb e Xl (ht e _ Q) (GP (hA e _ Q a0 _) h)
def d1{f:CE}{md:Bool}{c:Mode->F1->F1}{fn:Eb}(QU:Tryz.prog.funcs[f]?=some fn)(nt:Nat){T:Mode->F1->Ks}{b:DA}(ht:∀X Q,Jn BW md X nt b true (om BW fn.results.toList Q)=T X Q)(hb:fn.body=some b:=by rfl)(Xl:max 1 fn.ntmps=nt:=by kernel_rfl)(hA:∀X Q (a0:PV) s,c X Q a0 s=T X Q (MO [a0]) s:=by intros;kernel_rfl):D1 md f c:=λX Q a0 _ h=>uh QU hb Xl (ht X Q) (GP (hA X Q a0 _) h)
abbrev P2(f:CE)(c:Nat->Nat->QT->F2):Prop:=∀(e:Nat) {n:Nat} {IC:LLP} (_:IC.length=n) {Q:QT} (a0 a1:PV) (_:c e n Q a0 a1 (Ol IC)),PQ BW f [a0,a1] IC Q
abbrev D2(md:Bool)(f:CE)(c:Mode->F1->F2):Prop:=∀(X:Mode) {Q:F1} (a0 a1:PV) {s:St} (_:c X Q a0 a1 s),Cd BW md X f [a0,a1] Q s
def p2{f:CE}{c:Nat->Nat->QT->F2}{fn:Eb}(QU:Tryz.prog.funcs[f]?=some fn)(nt:Nat){T:Nat->Nat->QT->Ks}{b:DA}(ht:∀e n Q,Jn BW false .old nt b true (oj BW e n fn.results.toList Q)=T e n Q)(hb:fn.body=some b:=by rfl)(Xl:max 2 fn.ntmps=nt:=by kernel_rfl)(hA:∀e n Q (a0 a1:PV) s,c e n Q a0 a1 s=T e n Q (MO [a0,a1]) s:=by intros;kernel_rfl):P2 f c:=λe _ _ hn Q a0 a1 h=>qK hn QU hb e Xl (ht e _ Q) (GP (hA e _ Q a0 a1 _) h)
def d2{f:CE}{md:Bool}{c:Mode->F1->F2}{fn:Eb}(QU:Tryz.prog.funcs[f]?=some fn)(nt:Nat){T:Mode->F1->Ks}{b:DA}(ht:∀X Q,Jn BW md X nt b true (om BW fn.results.toList Q)=T X Q)(hb:fn.body=some b:=by rfl)(Xl:max 2 fn.ntmps=nt:=by kernel_rfl)(hA:∀X Q (a0 a1:PV) s,c X Q a0 a1 s=T X Q (MO [a0,a1]) s:=by intros;kernel_rfl):D2 md f c:=λX Q a0 a1 _ h=>uh QU hb Xl (ht X Q) (GP (hA X Q a0 a1 _) h)
abbrev P3(f:CE)(c:Nat->Nat->QT->F3):Prop:=∀(e:Nat) {n:Nat} {IC:LLP} (_:IC.length=n) {Q:QT} (a0 a1 a2:PV) (_:c e n Q a0 a1 a2 (Ol IC)),PQ BW f [a0,a1,a2] IC Q
abbrev D3(md:Bool)(f:CE)(c:Mode->F1->F3):Prop:=∀(X:Mode) {Q:F1} (a0 a1 a2:PV) {s:St} (_:c X Q a0 a1 a2 s),Cd BW md X f [a0,a1,a2] Q s
def p3{f:CE}{c:Nat->Nat->QT->F3}{fn:Eb}(QU:Tryz.prog.funcs[f]?=some fn)(nt:Nat){T:Nat->Nat->QT->Ks}{b:DA}(ht:∀e n Q,Jn BW false .old nt b true (oj BW e n fn.results.toList Q)=T e n Q)(hb:fn.body=some b:=by rfl)(Xl:max 3 fn.ntmps=nt:=by kernel_rfl)(hA:∀e n Q (a0 a1 a2:PV) s,c e n Q a0 a1 a2 s=T e n Q (MO [a0,a1,a2]) s:=by intros;kernel_rfl):P3 f c:=λe _ _ hn Q a0 a1 a2 h=>qK hn QU hb e Xl (ht e _ Q) (GP (hA e _ Q a0 a1 a2 _) h)
def d3{f:CE}{md:Bool}{c:Mode->F1->F3}{fn:Eb}(QU:Tryz.prog.funcs[f]?=some fn)(nt:Nat){T:Mode->F1->Ks}{b:DA}(ht:∀X Q,Jn BW md X nt b true (om BW fn.results.toList Q)=T X Q)(hb:fn.body=some b:=by rfl)(Xl:max 3 fn.ntmps=nt:=by kernel_rfl)(hA:∀X Q (a0 a1 a2:PV) s,c X Q a0 a1 a2 s=T X Q (MO [a0,a1,a2]) s:=by intros;kernel_rfl):D3 md f c:=λX Q a0 a1 a2 _ h=>uh QU hb Xl (ht X Q) (GP (hA X Q a0 a1 a2 _) h)
abbrev P4(f:CE)(c:Nat->Nat->QT->F4):Prop:=∀(e:Nat) {n:Nat} {IC:LLP} (_:IC.length=n) {Q:QT} (a0 a1 a2 a3:PV) (_:c e n Q a0 a1 a2 a3 (Ol IC)),PQ BW f [a0,a1,a2,a3] IC Q
abbrev D4(md:Bool)(f:CE)(c:Mode->F1->F4):Prop:=∀(X:Mode) {Q:F1} (a0 a1 a2 a3:PV) {s:St} (_:c X Q a0 a1 a2 a3 s),Cd BW md X f [a0,a1,a2,a3] Q s
def p4{f:CE}{c:Nat->Nat->QT->F4}{fn:Eb}(QU:Tryz.prog.funcs[f]?=some fn)(nt:Nat){T:Nat->Nat->QT->Ks}{b:DA}(ht:∀e n Q,Jn BW false .old nt b true (oj BW e n fn.results.toList Q)=T e n Q)(hb:fn.body=some b:=by rfl)(Xl:max 4 fn.ntmps=nt:=by kernel_rfl)(hA:∀e n Q (a0 a1 a2 a3:PV) s,c e n Q a0 a1 a2 a3 s=T e n Q (MO [a0,a1,a2,a3]) s:=by intros;kernel_rfl):P4 f c:=λe _ _ hn Q a0 a1 a2 a3 h=>qK hn QU hb e Xl (ht e _ Q) (GP (hA e _ Q a0 a1 a2 a3 _) h)
def d4{f:CE}{md:Bool}{c:Mode->F1->F4}{fn:Eb}(QU:Tryz.prog.funcs[f]?=some fn)(nt:Nat){T:Mode->F1->Ks}{b:DA}(ht:∀X Q,Jn BW md X nt b true (om BW fn.results.toList Q)=T X Q)(hb:fn.body=some b:=by rfl)(Xl:max 4 fn.ntmps=nt:=by kernel_rfl)(hA:∀X Q (a0 a1 a2 a3:PV) s,c X Q a0 a1 a2 a3 s=T X Q (MO [a0,a1,a2,a3]) s:=by intros;kernel_rfl):D4 md f c:=λX Q a0 a1 a2 a3 _ h=>uh QU hb Xl (ht X Q) (GP (hA X Q a0 a1 a2 a3 _) h)
abbrev P5(f:CE)(c:Nat->Nat->QT->F5):Prop:=∀(e:Nat) {n:Nat} {IC:LLP} (_:IC.length=n) {Q:QT} (a0 a1 a2 a3 a4:PV) (_:c e n Q a0 a1 a2 a3 a4 (Ol IC)),PQ BW f [a0,a1,a2,a3,a4] IC Q
abbrev D5(md:Bool)(f:CE)(c:Mode->F1->F5):Prop:=∀(X:Mode) {Q:F1} (a0 a1 a2 a3 a4:PV) {s:St} (_:c X Q a0 a1 a2 a3 a4 s),Cd BW md X f [a0,a1,a2,a3,a4] Q s
def p5{f:CE}{c:Nat->Nat->QT->F5}{fn:Eb}(QU:Tryz.prog.funcs[f]?=some fn)(nt:Nat){T:Nat->Nat->QT->Ks}{b:DA}(ht:∀e n Q,Jn BW false .old nt b true (oj BW e n fn.results.toList Q)=T e n Q)(hb:fn.body=some b:=by rfl)(Xl:max 5 fn.ntmps=nt:=by kernel_rfl)(hA:∀e n Q (a0 a1 a2 a3 a4:PV) s,c e n Q a0 a1 a2 a3 a4 s=T e n Q (MO [a0,a1,a2,a3,a4]) s:=by intros;kernel_rfl):P5 f c:=λe _ _ hn Q a0 a1 a2 a3 a4 h=>qK hn QU hb e Xl (ht e _ Q) (GP (hA e _ Q a0 a1 a2 a3 a4 _) h)
def d5{f:CE}{md:Bool}{c:Mode->F1->F5}{fn:Eb}(QU:Tryz.prog.funcs[f]?=some fn)(nt:Nat){T:Mode->F1->Ks}{b:DA}(ht:∀X Q,Jn BW md X nt b true (om BW fn.results.toList Q)=T X Q)(hb:fn.body=some b:=by rfl)(Xl:max 5 fn.ntmps=nt:=by kernel_rfl)(hA:∀X Q (a0 a1 a2 a3 a4:PV) s,c X Q a0 a1 a2 a3 a4 s=T X Q (MO [a0,a1,a2,a3,a4]) s:=by intros;kernel_rfl):D5 md f c:=λX Q a0 a1 a2 a3 a4 _ h=>uh QU hb Xl (ht X Q) (GP (hA X Q a0 a1 a2 a3 a4 _) h)
end
end Go.Vi
