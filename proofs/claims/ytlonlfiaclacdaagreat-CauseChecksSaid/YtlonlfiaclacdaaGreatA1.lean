/- Part of the proof of CauseChecks (own work, made small). -/
import Derived.CallsIn
import Derived.Laws.AppendOwn
import Derived.Laws.StructEq
set_option linter.all false
set_option maxRecDepth 100000
abbrev BA:=ByteArray
abbrev LLI:=List (List Int)
abbrev OLI:=Option Nat×List Int
abbrev LOL:=List (Option Nat×List Int)
abbrev LI:=List Int
abbrev LN:=List Nat
abbrev ON:=Option Nat
abbrev LB:=List ByteArray
abbrev LV:=List Go.Value
abbrev QX:=Go.Exit->Go.Act->Go.World->Prop
abbrev AV0:=Array Go.Value
def Ng:=@if_neg
def Ps:=@if_pos
def Zq:=@absurd
def Zy:=@of_decide_eq_false
def Ot:=@of_decide_eq_true
section
variable{p:Prop}
def AA(q:p:=by omega):=q
def AB(q:p:=by simp;omega):=q
def AD(q:p:=by simp):=q
def AE(q:p:=by simpa using h):=q
def AG(q:p:=by rw[Kg Nl];have:=Qp (e:=e) ha;omega):=q
def AH(q:p:=by rw[Az rfl];simp):=q
def AI(q:p:=by simpa using h9):=q
def AJ(q:p:=by have:=Qp (e:=e) ha;omega):=q
def AK(q:p:=by show s.next+1+1+1+1=_;omega):=q
def AL(q:p:=by decide):=q
def AM(q:p:=by rw[hs];exact MI):=q
def AN(q:p:=by assumption):=q
def AO(q:p:=by rw[hs];omega):=q
def AP(q:p:=by rw[show((t.Ku.length:Int)-1-C.length).toNat=t.Ku.length-1-C.length by omega];exact h4):=q
def AQ(q:p:=by rintro⟨_,h⟩;exact hw h):=q
def AS(q:p:=by rw[Lz];simp):=q
def AT(q:p:=by show s.next+1+1+1=_;omega):=q
def AU(q:p:=by rintro rfl;rw[hr.R8 hb]at hx;cases hx):=q
def AV(q:p:=by simp only[KU.H2,KU.HE,Bm,Bf,CD];exact .inr (.inr (.inr (.inr ⟨p,hp,hc⟩)))):=q
def AW(q:p:=by simp[hv]):=q
def AX(q:p:=by simp only[Bm,Bf];exact .inr (.inr (.inr hb))):=q
def AY(q:p:=by simpa using hb):=q
def AZ(q:p:=by simp only[Item.GB];omega):=q
def AZ0(q:p:=by unfold Zz;simp):=q
def AZ1(q:p:=by unfold MV at k1;rw[ES.eR]at k1;exact k1):=q
def AZ2(q:p:=by rw[hc];simp):=q
def AZ3(q:p:=by rw[Kq];exact St.Kr):=q
def AZ4(q:p:=by rw[<- vQ];exact I0):=q
def AZ5(q:p:=by have hc:g.ba=some c:=hc;simp[Gr.H2,hc]):=q
def AZ6(q:p:=by rintro r yw ⟨_,rfl⟩;exact⟨h1.Iw,h1.Iv⟩):=q
def AZ7(q:p:=by have hc:g.nb=some c:=hc;simp[KU.H2,hc]):=q
def AZ8(q:p:=by have hc:g.ba=some c:=hc;simp[KU.H2,hc]):=q
def AZ9(q:p:=by rw[fN];exact Go.Ab.Rw Lz):=q
def AZj(q:p:=by simp only[Gx,MQ];exact zh):=q
def AZk(q:p:=by simp[KU.H2]):=q
def AZl(q:p:=by rw[ht,CT (Bg _),Nat.sub_self];rfl):=q
def AZm(q:p:=by show s.next+1+1=_;omega):=q
def AZn(q:p:=by simp only[G1,HI];omega):=q
def AZo(q:p:=by simp[hp]):=q
def AZp(q:p:=by rw[Gl,Bd];rfl):=q
def AZq(q:p:=by rw[<- L7,Bd];exact zh):=q
def AZr(q:p:=by rcases hX with rfl|rfl<;>exactλ_ _ _=>trivial):=q
def AZs(q:p:=by show s.next+1=_;omega):=q
def AZt(q:p:=by have:=Qp (e:=e2) Lt;simp only[BG]at Me;omega):=q
def AZu(q:p:=by simp only[Bm,Bf];exact .inr (.inr (.inl hb))):=q
def AZv(q:p:=by simp only[GD.GA,Bd,Bb];omega):=q
def AZw(q:p:=by first|omega|(simp only[G1,HI,Ky,Jl];omega)):=q
def AZx(q:p:=by simp at hm;exact hm):=q
def AZy(q:p:=by simpa using hc):=q
def AZz(q:p:=by simpa using hn):=q
def Aa0(q:p:=by rw[CZ];exact hx):=q
def Aa1(q:p:=by rw[Kq];exact H9):=q
def Aa2(q:p:=by rw[hW];rfl):=q
def Aa3(q:p:=by have:=(Bp.1 hj).1;omega):=q
def Aa4(q:p:=by have:=Gu hf Ur.GY;omega):=q
def Aa5(q:p:=by simpa using ha):=q
def Aa6(q:p:=by simpa using ho):=q
def Aa7(q:p:=by simp[Ce];omega):=q
def Aa8(q:p:=by simp[TS.qQ,h0]):=q
def Aa9(q:p:=by simp[kN];omega):=q
def AaA(q:p:=by rw[hs,Ha he,Ha he];omega):=q
def AaB(q:p:=by show(if _ then _ else _)=_;rw[Ps rfl]):=q
def AaC(q:p:=by simpa[Je]using hs):=q
def AaD(q:p:=by rw[NJ,Bd];rfl):=q
def AaE(q:p:=by simp only[Bm,Bf];exact .inr (.inl hb)):=q
def AaF(q:p:=by have:=Me;simp only[BG]at this;omega):=q
def AaG(q:p:=by have:=Zy h;omega):=q
def AaH(q:p:=by rw[Int.sub_zero]):=q
def AaI(q:p:=by have:=Qz.2.2.2.2;omega):=q
def AaJ(q:p:=by simp only[G1,IG];omega):=q
def AaK(q:p:=by rw[hs];exact Lt):=q
def AaL(q:p:=by simp at KM;simp;omega):=q
def AaM(q:p:=by rw[e];rfl):=q
def AaN(q:p:=by rw[Nz];exact KT):=q
def AaO(q:p:=by simpa using hc0):=q
def AaP(q:p:=by rw[Bd];exact zh):=q
def AaQ(q:p:=by rcases hX with rfl|rfl<;>exact c1):=q
def AaR(q:p:=by rw[hx];simp[MM]):=q
def AaS(q:p:=by rw[CA,vQ];omega):=q
def AaT(q:p:=by simp[stepG,stepG.exec,Frame.atR]):=q
def AaU(q:p:=by rw[<- I0];simp only[GD.GA];omega):=q
def AaV(q:p:=by rintro rfl;rw[hb]at hd;cases hd):=q
def AaW(q:p:=by simpa using hl):=q
def AaX(q:p:=by simpa using hi):=q
def AaY(q:p:=by simpa using e2):=q
def AaZ(q:p:=by simpa using G7):=q
def Aaa(q:p:=by simpa using hk):=q
def Aab(q:p:=by rw[hb];exact MA rfl):=q
def Aac(q:p:=by simp[BE]):=q
def Aad(q:p:=by unfold At at*;omega):=q
def Aae(q:p:=by simp[KF]):=q
def Aaf(q:p:=by simpa using c):=q
def Aag(q:p:=by simp;have:=Qp (e:=e) ha;omega):=q
def Aah(q:p:=by rw[CT (by omega),EC];exact hr):=q
def Aai(q:p:=by simp[Item.GB]):=q
def Aaj(q:p:=by rcases hX with rfl|rfl<;>simp):=q
def Aak(q:p:=by rw[hxE];omega):=q
def Aal(q:p:=by simp[KU.H2,h]):=q
def Aam(q:p:=by simpa using S7 hwn):=q
def Aan(q:p:=by simp only[JT,Ng fN];exact OK):=q
def Aao(q:p:=by simp only[ND,MQ,Jl];exact zh):=q
def Aap(q:p:=by rw[bQ]at h4;omega):=q
def Aaq(q:p:=by rw[CA];omega):=q
def Aar(q:p:=by simpa using S7 hv):=q
def Aas(q:p:=by simp only[Qy,Lv];rw[Ps h0]):=q
def Aat(q:p:=by rw[<- XY];exact(Bp.1 ha).1):=q
def Aau(q:p:=by rw[hx];simp):=q
def Aav(q:p:=by have:=Qp (e:=e3) qR;omega):=q
def Aaw(q:p:=by have:=Qp (e:=e2) Lt;omega):=q
def Aax(q:p:=by simp only[HI,Gx,MQ];omega):=q
def Aay(q:p:=by simp only[GD.GA,Bd];omega):=q
def Aaz(q:p:=by simp only[BG]at Me;omega):=q
def Ab0(q:p:=by exact Mw rfl (HQ Ki) (G4 AB AA) zn):=q
def Ab1(q:p:=by exact Gk AA (GG:=st.GG) (by simp[hk]) st.GX):=q
def Ab2(q:p:=by exact Kj (cs:=ck N e1 a1) AZj rfl):=q
def Ab3(q:p:=by exact JE AA Gl rfl):=q
def Ab4(q:p:=by exact H5 (GK:=l.map Aq) rfl):=q
def Ab5(q:p:=by exact KJ h.Ig (v:=.int .i64 (t.Ig w)) Aam):=q
def Ab6(q:p:=by exact Gk AA (GG:=n.GG) (by simp[VN]) n.GX):=q
def Ab7(q:p:=by exact H5 (GK:=N.map Ay) rfl):=q
def Ab8(q:p:=by exact GH hg.box rfl):=q
def Ab9(q:p:=by exact JE h0 (Lc h0 G7) rfl):=q
def AbA(q:p:=by rw[d1];exact hd.ext e1):=q
def AbB(q:p:=by cases h):=q
def AbC(q:p:=by simp only at hkE;omega):=q
def AbD(q:p:=by rintro rfl;exact h1 hb):=q
def AbE(q:p:=by rintro⟨_,hc⟩;cases hc):=q
def AbF(q:p:=by rw[hw,he]):=q
def AbG(q:p:=by rw[h0];exactλb _=>rfl):=q
def AbH(q:p:=by rw[<- Bu];exact HQ Ki):=q
def AbI(q:p:=by rw[a1.IK,YK];simp[ha]):=q
def AbJ(q:p:=by rw[bQ];omega):=q
def AbK(q:p:=by simp<;>omega):=q
def AbL(q:p:=by simp[hu]):=q
def AbM(q:p:=by rw[JK];simp):=q
def AbN(q:p:=by rw[h1];simp):=q
def AbO(q:p:=by rw[h3];simp):=q
def AbP(q:p:=by simp[hti]):=q
def AbQ(q:p:=by exact Kj zh rfl):=q
def AbR(q:p:=by exact Ib (G3 zo)):=q
def AbS(q:p:=by exact Gt (OO AA AA)):=q
def AbT(q:p:=by exact λh=>Zq he AE):=q
def AbV(q:p:=by exact λc t fr h=>by cases h):=q
def AbW(q:p:=by exact Gt (Nv AA)):=q
def AbX(q:p:=by exact Gt (Nt AA)):=q
def AbY(q:p:=by exact Jp rfl (HQ Gz) (G4 AB AA) (HQ Gz) zh (.inr rfl)):=q
def AbZ(q:p:=by exact Gk h0 Gl t.GX):=q
def Aba(q:p:=by exact Gk AA (GG:=v.GG) AW rfl):=q
def Abb(q:p:=by exact Gk cK Gl rfl):=q
def Abd(q:p:=by exact Jp rfl rfl hf (HQ MG) rfl (Uo.imp (λh=>by rw[h];rfl) λh=>h.symm)):=q
def Abe(q:p:=by exact Jp rfl (HQ Ki) (G4 AB AA) (HQ Ki) zh (.inr rfl)):=q
def Abf(q:p:=by exact Gk h0 (Ql h0 G7) (Gw.GX _)):=q
def Abg(q:p:=by exact λh=>Zq AE he):=q
def Abh(q:p:=by exact Ib (G3 (Hm rfl rfl))):=q
def Abi(q:p:=by exact JE AA Jn rfl):=q
def Abj(q:p:=by exact H5 (GK:=l.map Am) rfl):=q
def Abk(q:p:=by exact Qu (G3 (Hm rfl rfl))):=q
def Abl(q:p:=by exact Jp rfl (HQ Gz) (G4 AB AA) (HQ Gz) zh (ho.imp (λh=>by rw[h];rfl) λh=>h.symm)):=q
def Abm(q:p:=by exact H5 (GK:=x.GB.map A8) rfl):=q
def Abn(q:p:=by exact λa=>by rw[hW];exact Go.Ab.L6 w.drew _ (λc t fr e=>by cases e;rfl) a):=q
def Abo(q:p:=by exact Jp rfl rfl hf (HQ Gw.Qv) rfl (Uo.imp (λh=>by rw[h];rfl) λh=>h.symm)):=q
def Abp(q:p:=by exact GH zh (BU x)):=q
def Abq(q:p:=by exact λh=>Zq (Ot h) AA):=q
def Abr(q:p:=by exact Jp rfl rfl hf (HQ fB) zh (Uo.imp (λh=>by rw[h];rfl) λh=>h.symm)):=q
def Abs(q:p:=by exact λc t fr e=>by cases e;rfl):=q
def Abt(q:p:=by exact Gk hi Gl (BK _)):=q
def Abu(q:p:=by exact GH zh (BR x)):=q
def Abv(q:p:=by exact λx hx=>by cases hw x hx with|mk _ _ _ _ _ _ h3 _=>exact h3):=q
def Abw(q:p:=by exact IZ (Az rfl) rfl rfl rfl):=q
def Abx(q:p:=by exact IZ zh (BK _) (Item.Vb _) rfl):=q
def Aby(q:p:=by exact Mw rfl (HQ Gz) (G4 AB AA) zn):=q
def Abz(q:p:=by exact λe' a' lP=>hQ e' a' [] AD (λn h=>by cases h) λh=>Zq h lP):=q
def Ac0(q:p:=by exact JE AA OE rfl):=q
def AcA(q:p:=by exact z7 zh rfl):=q
def AcB(q:p:=by exact λh=>by cases h):=q
def AcC(q:p:=by exact Mw rfl rfl (G4 AD AA) zn):=q
def AcD(q:p:=by exact JE h0 Gl rfl):=q
def AcE(q:p:=by exact Gk h0 Gl rfl):=q
def AcF(q:p:=by exact Jp (GK:=[]) rfl rfl (G4 AD AA) rfl zh (.inl rfl)):=q
def AcG(q:p:=by exact H5 (GK:=v.Ga.map A9) rfl):=q
def AcH(q:p:=by exact H5 (GK:=x.GL.map GC) rfl):=q
def AcI(q:p:=by exact cJ (v:=ρ x0) Mt):=q
def AcJ(q:p:=by exact Mh (Gw.Vb _) zn):=q
def AcK(q:p:=by exact Qu (G3 zo)):=q
def AcL(q:p:=by exact Jp rfl rfl (G4 Aag AA) (HQ Gz) zh (.inr rfl)):=q
def AcM(q:p:=by exact Jp rfl (HQ Ki) (G4 AB AA) AbH AaP (.inr rfl)):=q
def AcN(q:p:=by exact H5 (GK:=GB.map A8) rfl):=q
def AcO(q:p:=by exact H5 (GK:=ns.map GC) rfl):=q
def AcP(q:p:=by exact Gk AA (GG:=GP[i].GG) (by simp[hki]) GP[i].GX):=q
def AcQ(q:p:=by exact Hg (v:=.GV (v.Ga.map A9)) rfl):=q
def AcR(q:p:=by exact IZ (Az rfl) x.GX (by rw[hxr,Gw.IC];rfl) rfl):=q
def AcS(q:p:=by exact GH zh (Item.wF x)):=q
def AcT(q:p:=by exact IB (Gw.GX _)):=q
def AcU(q:p:=by exact Gk h0 (Io h0 G7) rfl):=q
def AcV(q:p:=by exact λn h=>by cases h):=q
def AcW(q:p:=by exact Gt (Nt AB)):=q
def AcX(q:p:=by exact Gt (Nv AB)):=q
def AcY(q:p:=by exact KJ lX (v:=Hk p) AZo):=q
def AcZ(q:p:=by exact Gk AA (GG:=t.GG) AbP t.GX):=q
def Aca(q:p:=by exact GH h.fix.nb rfl):=q
def Acb(q:p:=by exact λl c e=>by cases e):=q
def Acd(q:p:=by exact Gk h0 Gl (GO.GX _)):=q
def Ace(q:p:=by exact M7 zh (Item.cut x)):=q
def Acf(q:p:=by exact Gk h0 re (Gw.GX _)):=q
def Acg(q:p:=by exact pg rfl (j9 n) h2 (j5 h3) (by rw[hf])):=q
def Ach(q:p:=by exact λs hs=>by cases hs):=q
def Aci(q:p:=by exact Gk AA (GG:=v.GG) (by simp[hvi]) rfl):=q
def Acj(q:p:=by exact Gk AA (GG:=x.GG) (by simp[lZ]) x.GX):=q
def Ack(q:p:=by exact KJ h.KN (v:=.int .i64 (t.KN v)) Aar):=q
def Acl(q:p:=by exact GH zh (Item.Vj x)):=q
def Acm(q:p:=by exact Gk AA (GG:=GC n) (by simp[hj]) rfl):=q
def Acn(q:p:=by exact Hg (v:=.Gh v.name) rfl):=q
def Aco(q:p:=by exact Gk AA h1 h2):=q
def Acp(q:p:=by exact Mh (l:=[.GV (N.map Ay)]) rfl rfl):=q
def Acq(q:p:=by exact Hm (cs:=[.GV (N.map Ay)]) zh rfl):=q
def Acr(q:p:=by exact GH lD rfl):=q
def Acs(q:p:=by exact λe' a' lP=>hQ e' a' λh=>Zq h lP):=q
def Acu(q:p:=by exact λh=>Zq AE (show¬op=0 by omega)):=q
def Acv(q:p:=by exact Ij rfl Uo NB):=q
def Acw(q:p:=by exact wJ (G3 (Hm rfl rfl))):=q
def Acx(q:p:=by exact Gk h0 (Lc h0 G7) rfl):=q
def Acy(q:p:=by exact Gk h0 Gl (BK _)):=q
def Acz(q:p:=by exact Gk h0 OX (BP _)):=q
def Ad0(q:p:=by
 refine⟨1,λeo s hx h2 ho hl=>?_⟩;show UO _ _ _ _ _ _ _ _;unfold UO;refine zv ?_;refine AT7 (λh9=>?_) ?_
 .have:=Ot h9;rw[jr]at this;omega
 .unfold iS;refine zv ?_;exact GW rfl AdR rfl ⟨rfl,U,rfl,AA,hUS⟩):=q
def Ad1(q:p:=by
 refine⟨1,λhp v1=>?_⟩;show Ja _ _ _ _ _ _ _ _;unfold Ja;refine zv ?_;cases h:e==0
 case true=>exact Zq AE he
 refine zv ?_;exact IF (OG 0 1 _ _ _) rfl rfl rfl rfl λJs=>Pf hL ha (LA:=l) (.inr ⟨_,rfl⟩) hw HM hW):=q
def Ad2(q:p:=by
 refine zv ?_;refine yg _ _ rfl λf s1 nm tk tl i m GP GY a1 e1 b1 n1 hw MI mh=>?_;refine zv ?_;refine GW AbR rfl rfl ⟨_,_,_,_,rfl,3,2,_,0,0,0,0,[.mk f s1 nm tk tl i m GP GY],_,rfl,XV AA AA hw,MI,wl1 AA⟩):=q
def Ad3(q:p:=by
 split at h
 .rename_i l;split at h
  .rename_i k hk;simp at h;subst h;cases hv with
   |data _ _ hd=>cases hd
   |agg _ l' hl=>exact .agg _ _ (hl.Q7 hk)
  .cases h
 .exact .data _ _ (hv.Q7 h)):=q
def Ad4(q:p:=by
 refine zv ?_;refine Fy (GH zh QQ) ?_;exact fail):=q
def Ad5(q:p:=by
 obtain⟨_,_,_,_⟩:=x;simp only[BF,Item.GB];omega):=q
def Ad6(q:p:=by exact GW rfl rfl rfl ⟨rfl,_,rfl⟩):=q
def Ad7(q:p:=by
 obtain⟨f,s1,nm,tk,tl,i,m,GP,GY,rfl,hw,h2,h3⟩:=h;exact hk f s1 nm tk tl i m GP GY a' e' b' n' hw h2 h3):=q
def Ad8(q:p:=by
 exfalso
 have qT:bs[i]?=some st.next:=by
  have:=Cq.1 Ak;obtain⟨G7,heq,_⟩:=this;rw[Bc G7];simpa using heq
 obtain⟨B,a1,a2⟩:=g3 i _ qT;obtain⟨cs,JK,_⟩:=hr.P6 _ _ a2;rw[this]at JK;cases JK):=q
def Ad9(q:p:=by
 refine⟨1,λhp o1=>?_⟩;show PH _ _ _ _ _ _ _;unfold PH;refine zv ?_;refine GF Abg λh=>?_;refine zv ?_;refine GW rfl (Ij rfl Uo MG) rfl ⟨_,_,_,_,rfl,hQ _ _ _ _ AA (λh=>Zq h he) ha (Ct _)⟩):=q
def AdA(q:p:=by exact Mw rfl (HQ Gz) (G4 AB AA) rfl):=q
def AdB(q:p:=by exact hc _ _ (.Zs n _ v a h1 h2 h3)):=q
def AdC(q:p:=by exact KJ fO (v:=Hk p) AZo):=q
def AdD(q:p:=by exact Ij (eo:=2) AaD (.inr rfl) MG):=q
def AdE(q:p:=by exact Gt (ACf AA)):=q
def AdF(q:p:=by exact IB (BP _)):=q
def AdG(q:p:=by exact GH h0 rfl):=q
def AdH(q:p:=by exact H5 (Ub hg.nm)):=q
def AdI(q:p:=by exact λh=>Zq (Ot h) G7):=q
def AdJ(q:p:=by exact λh=>Zq LX AE):=q
def AdK(q:p:=by exact Gk h0 OX rfl):=q
def AdL(q:p:=by exact IB (GO.GX _)):=q
def AdM(q:p:=by exact Gk h0 Q9 rfl):=q
def AdN(q:p:=by exact Gk hj Gl rfl):=q
def AdO(q:p:=by exact Ij rfl Uo Gw.Qv):=q
def AdP(q:p:=by exact GH h.fix.lb rfl):=q
def AdQ(q:p:=by exact XV AA AA SY):=q
def AdR(q:p:=by exact Ij h2 ho Gz):=q
def AdS(q:p:=by exact Mh rfl rfl):=q
def AdV(q:p:=by
 simp only[Bo,decide_eq_true_eq,Bb,beq_iff_eq]at h9;exact Zq h9 Iz):=q
def AdY(q:p:=by
 refine KA hL AA rfl ha λe' b' he=>?_;refine zv ?_;refine GW AbR rfl rfl ⟨_,_,_,_,rfl,_,_,_,_,_,_,_,_,_,rfl,N1,QW hL ha he⟩):=q
def AdZ(q:p:=by
 obtain⟨GL,e,GB,GY⟩:=x;have vP:st.WF:=by cases hw _ hx with|mk _ _ _ _ h1 h2 h3 h4=>exact h4 st I0
 have h1:Ax GB<=As l:=by
  obtain⟨a,b,rfl⟩:=List.append_of_mem hx;rw[Item.HY];simp only[As,BF];omega
 have h2:st.wt<=Ax GB:=by
  obtain⟨a,b,qS⟩:=List.append_of_mem I0;simp only[Item.GB]at qS;rw[qS,GD.HY];simp only[Ax];omega
 have h3:As st.GQ<st.wt:=by cases st;simp only[BG,GD.GQ];omega
 have:=@ih (As st.GQ) AA st.GQ (Bg _) vP.AHm.1 vP.AHm.2;exact@this):=q
def Ada(q:p:=by
 refine zv ?_;refine KA hL AA rfl ha λe' b' he=>?_;refine GW rfl rfl rfl ⟨_,_,_,_,rfl,rfl,⟨_,rfl⟩,Nn hL ha he⟩):=q
def Adb(q:p:=by have:=Ot h9;rw[Bb]at this;omega):=q
def Adc(q:p:=by refine GW AbR rfl rfl ⟨_,_,_,_,rfl,hQ _ _ _ _ _ ⟨f,s1,nm,tk,tl,i,m,GP,GY,rfl,hw,ha,Ct _⟩⟩):=q
def Ade(q:p:=by
 refine⟨⟨h6.set hB (g:=gk) rfl _ _,?_⟩,?_⟩
 .have h8:=B.out.1.r.mono ADJ;rw[Bt Ox,<- B3]at h8;have h9:=Rows.tB (c:=c) h8 hdr;rw[<- cG Ox c,<- B3];have hl9:(dn++(l0.take d).map λv=>v.on c).length=dn.length+d:=by simp;omega
  rw[hl9]at h9;exact h9
 .by_cases hgg:gc=gn
  .rw[hgg];exact hk6
  .rw[rW gc hgg];exact B.out.2):=q
def Adf(q:p:=by
 show(do let d<-Cl (.func (.func f) #[] #[]) (args.toList.map a.eval).toArray;EB d.target d.args:Sem FV).run P w=_;simp only[Cl,pure_bind,EB];simp):=q
def Adg(q:p:=by
 refine zv ?_;exact LW (Jb 0 1 _ _ _ _) rfl rfl rfl rfl rfl λJs=>Oa hL h5.1 (GP:=[.mk f1 s1 sJ tJ tK i1 m1 Qo Mr]) AdQ (wl1 AA) rfl rfl rfl):=q
def Adh(q:p:=by
 obtain⟨r,c,IE,rfl,rfl⟩:=this;exact IE):=q
def Adi(q:p:=by
 refine zv ?_;refine IU zh ?_;refine AT6 ?_ λh9=>?_
 case refine_2=>simp[he]at h9;omega
 refine zv ?_;refine pQ_v AbZ ?_;refine Fy (MB t.cut) ?_;refine GI IE (KX rfl) rfl AbQ rfl ?_;simp only[Gx,MQ];refine zv ?_;rw[OH];exact ih _ e1 a1 bs _ AA AA AA (h.ck e1 a1)):=q
def Adj(q:p:=by
 refine zv ?_;refine Oi AA rfl λe' a' he=>?_;refine GW rfl rfl rfl ⟨_,_,rfl,rfl,λh=>Zq h he⟩):=q
def Adk(q:p:=by
 simp only[Gr.H2,Bm,Bf,h.gp,h.bo,h.ba]at hb⊢;rcases hb with h1|h1|h1|h1
 .exact .inl (.inl h1)
 .exact .inl (.inr (.inl h1))
 .exact .inl (.inr (.inr (.inl h1)))
 .rcases h.HE b h1 with h2|h2
  .exact .inl (.inr (.inr (.inr h2)))
  .exact .inr h2):=q
def Adl(q:p:=by
 exact Gt (v:=I (i+1:Nat)) (by
  show some (PVI (IntKind.i64.wrap _))=_;rw[HB AA AA];simp)):=q
def Adm(q:p:=by
 rw[CB AA]at hU;simp only[kY,CG]at hU;subst hU;refine⟨1,λb eo s hx h2 ho hl=>?_⟩;show RK _ _ _ _ _ _ _ _;unfold RK;refine zv ?_;refine AT7 (λh9=>?_) ?_
 .have:=Ot h9;rw[jr]at this;omega
 .unfold iT;refine zv ?_;exact GW rfl AdR rfl ⟨rfl,rfl⟩):=q
def Adn(q:p:=by
 refine⟨1,λhp Od JK=>?_⟩;show Jj _ _ _ _ _ _ _ _;unfold Jj;refine zv ?_;refine GF Abg λh=>?_;unfold OR;refine H6 hL rfl ha λa9 e9 b9 h9=>?_;have hl9:=h9.le ha;exact IF (MZ 0 1 _ _ _ _) rfl rfl rfl rfl λJs=>Tv hL h9.1 (GL:=l) rfl rfl xp AA AA JK):=q
def Ado(q:p:=by
 refine⟨i,1,AA,AA,?_,?_⟩
 .intro x hx;have:i.toNat=t.size:=AA;rw[this]at hx;simp at hx
 intro e n Q Zu w97 v s hw;show No _ _ _ _ _ _ _ _ _ _;unfold No;refine zv ?_;cases h:decide (i<↑t.size)
 .refine zv ?_;exact hw
 .exact Zq (Ot h) AA):=q
def Adp(q:p:=by exact GW rfl rfl hs (hQ _ _)):=q
def Adq(q:p:=by
 rcases Bf.1 hx with hx|hx
 .exact hw x hx
 .rw[By.1 hx];exact S3):=q
def Adr(q:p:=by
 refine zv ?_;refine GW AbR rfl rfl ⟨_,_,_,_,rfl,f,s1,nm,tk,tl,i,m,GP,GY,rfl,hw,MI,mh⟩):=q
def Ads(q:p:=by
 refine ATj IE rfl rfl AbQ rfl ?_;refine GW rfl rfl Ab2 (hQ _ _ [] AD AD λh=>Zq h h2)):=q
def Adt(q:p:=by
 obtain⟨g1,g2⟩:=(VN x hx).dv hs;have hxe:x.e.WF:=by cases hw x hx with|mk _ _ _ _ _ h2 _ _=>exact h2
 exact⟨λw hw=>hMS w (g1 w hw),fq AA Rk hxe g2 (by
  have:=lF x hx;obtain⟨_,_,_,_⟩:=x;simp only[BF]at this;simp only[Item.e];omega)⟩):=q
def Adu(q:p:=by have:=Zy h9;rw[Bb]at this;omega):=q
def Adw(q:p:=by
 refine zv ?_;refine KA hL AA rfl ha λe' b' he=>?_;refine GW rfl rfl rfl ⟨_,_,_,_,rfl,rfl,⟨_,rfl,AA,AA⟩,Nn hL ha he⟩):=q
def Adx(q:p:=by exact GW rfl rfl rfl ⟨rfl,rfl⟩):=q
def Ady(q:p:=by
 obtain⟨Ju,Lu⟩:=IE;have:vsc.toList[j]?=some u:=by rw[<- Lu,CL (Bp.1 hu).1];exact hu
 rw[show((⟨gc,0,none⟩:Addr).add j)=⟨gc,j,none⟩ by simp only[Addr.add];split<;>simp_all];rw[Df _ _ _ _ _ _ hwc];simpa using this):=q
def Adz(q:p:=by
 refine zv ?_;refine⟨?_,?_⟩
 .exact zc
 refine zv ?_;exact GW rfl rfl rfl hQ):=q
def Ae0(q:p:=by
 refine⟨i,1,AA,AA,?_⟩;intro e n Q Zu v s hw;show O9 _ _ _ _ _ _ _ _ _;unfold O9;refine zv ?_;refine GF Abq λ_=>hw):=q
def Ae1(q:p:=by
 obtain⟨r,c,hp,rfl,N,ok,rfl,h1,h2⟩:=this;exact⟨N,ok,hp,h1,h2⟩):=q
def Ae2(q:p:=by
 refine Fy AbX ?_;refine cf ?_;exact hW s g (.refl hf hg) rfl):=q
def Ae3(q:p:=by
 have h7:=congrArg (List.take r.length) h5;rw[CE,List.take_take,C7 AA,List.reverse_cons,Bu,D7 AD]at h7;exact h7):=q
def Ae4(q:p:=by
 refine ATj IE rfl rfl AbQ rfl ?_;refine AT6 ?_ (λh9=>Zq AI Nl);refine zv ?_;refine GW rfl rfl AbQ (ZF _ _ Nl)):=q
def Ae5(q:p:=by
 unfold xQ;refine GW rfl rfl hs ⟨rfl, -1,rfl,.inr ⟨rfl,λv hv=>?_⟩⟩;obtain⟨j,hj,rfl⟩:=B4 hv;exact Pt j hj AA):=q
def Ae6(q:p:=by
 refine Fy AbS ?_;refine Fy Il ?_;exact pJ):=q
def Ae7(q:p:=by
 refine zv ?_;exact⟨zc,ct (fin _)⟩):=q
def Ae8(q:p:=by
 rw[h1];cases k<;>cases k'<;>simp[I1.NM]at hk<;>(simp only[I1.desc]at hd;subst hd)<;>simp[Em,I1.val,BH,Es]):=q
def Ae9(q:p:=by
 by_cases c:T b=true
 .rw[Ps c]at hb;exact .inl ⟨c,hb⟩
 .rw[Ng c]at hb;exact .inr ⟨by simpa using c,hb⟩):=q
def AeA(q:p:=by exact⟨λh=>⟨h.1.1,AA,h.1.2⟩,λh=>⟨⟨h.1,h.2.2⟩,by have:=h.2.1;omega⟩⟩):=q
def AeB(q:p:=by
 by_cases c:x=b
 .rw[Ps c]at Ts;cases Ts;exact .inl ⟨c,rfl⟩
 .rw[Ng c]at Ts;exact .inr ⟨c,Ts⟩):=q
def AeC(q:p:=by
 unfold xO;refine GW rfl rfl hs ⟨rfl,?_⟩
 have:Kv S w=false:=by
  cases hh:Kv S w
  .rfl
  .obtain⟨x,hx,he⟩:=OV.1 hh;obtain⟨j,hj,rfl⟩:=B4 hx;exact Zq he (Pt j hj AA)
 rw[this]):=q
def AeD(q:p:=by
 refine⟨1,λhp Od JK=>?_⟩;show KY _ _ _ _ _ _ _ _;unfold KY;refine zv ?_;refine GF Abg λh=>?_;exact IF (MR 0 1 _ _ _ _) rfl rfl rfl rfl λJs=>QZ hL ha (GB:=l) rfl rfl hw HM hW hP JK):=q
def AeE(q:p:=by
 refine zv ?_;refine pQ_v Acf ?_;refine Fy (Hg hr8) ?_;exact fail):=q
def AeF(q:p:=by
 split at h
 .rename_i x hx;simp at h;obtain⟨rfl,rfl⟩:=h;exact bV (rd:=[b]) (λb' hb=>by simp at hb;subst hb;rw[JK];simp) λt _ SS=>by simp only[A2,SS b AD,JK,hx]
 .cases h):=q
def AeG(q:p:=by
 simp only[DL,B6,run_program,Result.andThen_ok,PR,hn,Cw,if_false,ji,Option.isNone_some];rfl):=q
def AeH(q:p:=by cases hv with|cons _ u _ _ _ h2=>cases h2 with|cons _ v _ _ _ h3=>cases h3;exact⟨u,v,rfl⟩):=q
def AeI(q:p:=by
 have:=Cq.1 Ak;obtain⟨G7,heq,_⟩:=this;rw[Bc G7];simpa using heq):=q
def AeJ(q:p:=by
 simp[A2]at h;obtain⟨rfl,rfl⟩:=h;exact gN λt ht=>by simp[A2,ht]):=q
def AeK(q:p:=by
 refine⟨1,λhp o1=>?_⟩;show PG _ _ _ _ _ _ _;unfold PG;refine zv ?_;refine GF (λh=>?_) Abg;refine zv ?_;refine GW rfl Acv rfl ⟨_,_,_,_,rfl,hQ _ _ _ _ _ hw HM ha (Ct _)⟩):=q
def AeL(q:p:=by
 refine⟨1,λhp o1=>?_⟩;show PJ _ _ _ _ _ _ _ _;unfold PJ;refine zv ?_;refine GF Abg λh=>?_;refine zv ?_;refine GW rfl AdO rfl ⟨_,_,_,_,rfl,hQ _ _ _ _ _ hw HM ha (Ct _)⟩):=q
def AeM(q:p:=by exact GW rfl rfl hs ⟨rfl,_,rfl⟩):=q
def AeN(q:p:=by
 obtain⟨g1,g2⟩:=(VN x hx).dv hs;have hxe:x.e.WF:=by cases hw x hx with|mk _ _ _ _ _ h2 _ _=>exact h2
 exact⟨cH hU hB hN xu hNt AA hVw hxe g2,λw hw=>hMS w (g1 w hw)⟩):=q
def AeO(q:p:=by
 refine zv ?_;refine GW AbR rfl rfl ⟨_,_,_,_,rfl,f,s1,nm,tk,tl,i,m,GP,GY,rfl,hw,lM,mh⟩):=q
def AeP(q:p:=by
 cases b
 .refine zv ?_;exact hk
 .refine zv ?_;exact hk):=q
def AeQ(q:p:=by exact GW rfl rfl AbQ ⟨_,_,rfl,rfl⟩):=q
def AeR(q:p:=by
 rw[List.getElem?_set];by_cases h:v=i
 .subst h;by_cases hl:v<n
  .simp[hl]
  .simp[hl]
 .rw[Ng h];by_cases hl:i<n
  .simp[hl,Ne.symm h]
  .simp[hl]):=q
def AeS(q:p:=by
 rcases QN hd with h1|h1
 .exact .inl h1
 .simp only[Bh]at h1;subst h1;rcases a4 with⟨h,_⟩|⟨_,h,_⟩
  .exact .inl (CD.2 ⟨_,hpm,h⟩)
  .exact .inr AA):=q
def AeT(q:p:=by
 refine pQ_v Ab3 ?_;exact Qm QQ hQ Jk (h.ty u)):=q
def AeU(q:p:=by
 refine⟨1,λhp=>?_⟩;show R2 _ _ _ _ _ _ _;unfold R2;refine zv ?_;refine AT7 (λh=>?_) ?_
 .have:=Ot h;omega
 .unfold fc;refine GW rfl rfl rfl ⟨rfl,_,rfl⟩):=q
def AeV(q:p:=by
 constructor
 .rintro⟨h1,h2|h2⟩
  .exact .inr ⟨AA,h2⟩
  .exact .inl ⟨AA,h2⟩
 .rintro(⟨h1,h2⟩|⟨h1,h2⟩)
  .exact⟨AA,.inr h2⟩
  .exact⟨AA,.inl h2⟩):=q
def AeW(q:p:=by
 rename_i l;split at h
 .rename_i k hk;simp at h;subst h;cases hv with
  |data _ _ hd=>cases hd
  |tuple _ l' hl=>exact .tuple _ _ (cV hl hk)
 .cases h):=q
def AeX(q:p:=by
 simp only[Cr,resolve,pure_bind,invoke];rw[JH ρ args];rfl):=q
def AeY(q:p:=by exact key _ ⟨zh,zh,zh,by simp only[G1,HI,IG,Ky,Jl,CE,List.length_nil];omega⟩ zh):=q
def AeZ(q:p:=by
 rw[h1,h2,h3,h4]at hc;rw[hr,hc]at IE;exact IE):=q
def Aea(q:p:=by simpa using this):=q
def Aeb(q:p:=by
 rw[Ng (Kk x B hx)]at d;rw[Ng (Kk x' B Ts)]at d';exact hr.LJ x x' B hx Ts d d'):=q
def Aec(q:p:=by
 obtain⟨r,c,IE,rfl,w,rfl⟩:=this;exact⟨w,IE⟩):=q
def Aed(q:p:=by
 by_cases e:k=i
 .subst e;rw[Ps ⟨by rw[hD'];simp,hw⟩]
 .rw[Ng,ih AA AA];rintro⟨h3,h4⟩;rw[hD',jn k AA AA hw h4]at h3;simp at h3;omega):=q
def Aee(q:p:=by
 have h6:(cells.take (v::r).length)[r.length]?=((v::r).reverse.map λu=>BD .i64 (u:Nat))[r.length]?:=by rw[h5]
 rw[DI AD]at h6;rw[h6];simp):=q
def Aef(q:p:=by
 refine zv ?_;refine IU zh ?_;refine AT6 ?_ λh9=>?_
 case refine_2=>simp[he]at h9;omega
 exact⟨k2,Jm 0 e a s AA AA (Int.le_of_eq AaH) h⟩):=q
def Aeg(q:p:=by
 intro r hr;obtain⟨v,_,rfl⟩:=B8.1 hr;rfl):=q
def Aeh(q:p:=by
 intro x hx;obtain⟨q,hq,pN⟩:=B4 hx;have h1:=Oh hq;have h2:As l=As (l.take q)+As (l.drop q):=by rw[<- Item.HY,CX]
 rw[pN]at h1;omega):=q
def Aei(q:p:=by
 obtain⟨cs,hc⟩:=hr.P6 x B hx;refine⟨cs,?_⟩;rw[Ng (Kk x B hx)];exact hc):=q
def Aej(q:p:=by
 rcases a4 with⟨h,_⟩|⟨h,h2,_⟩
 .exact .inl h
 .refine .inr ⟨h,λhm=>?_⟩;obtain⟨q,hq,hqc⟩:=CD.1 hm;have:=Gu hf (Wz hq hqc);omega):=q
def Aek(q:p:=by
 refine zv ?_;exact GW AcK rfl rfl ⟨rfl,N,false,rfl,hw,λh=>by cases h⟩):=q
def Ael(q:p:=by
 rw[he]at h;cases h;refine⟨k1,λrg K hK=>k2 rg _ ?_⟩;show(bif Br jz id then K .normal else K (.exit jz)) s'.f s'.st;rw[he];exact hK):=q
def Aem(q:p:=by
 refine⟨1,λs=>?_⟩;show UG _ _ _ _ _ _ _ _;unfold UG;refine zv ?_;refine GF Abq λh=>?_;unfold ny;exact GW rfl rfl rfl (hQ _ AA AA)):=q
def Aen(q:p:=by
 show UY _ _ _ _ _ _ _ _ _;unfold UY;refine zv ?_;refine IU rfl ?_;refine AT6 ?_ λh=>?_
 .exact⟨k2,Jm hp⟩
 .simp[he]at h;omega):=q
def Aeo(q:p:=by
 refine zv ?_
 repeat' first
  |exact AGy rfl (λ_ _ h=>h)
  |exact AP9 AA h2 rfl (λ_ _ h=>h)
  |(refine AT5 ?_ ?_)
  |refine zv ?_):=q
def Aep(q:p:=by refine GW rfl rfl rfl ⟨_,_,_,_,rfl,rfl,rfl,rfl,rfl,.inr ⟨rfl,he⟩⟩):=q
def Aeq(q:p:=by
 simp only[Bo,decide_eq_true_eq,jr,beq_iff_eq]at h9;exact Zq h9 Iz):=q
def Aes(q:p:=by simp only[map_eq_pure_bind,B6,q1,Result.andThen_ok,Sem.run_pure]):=q
def Aet(q:p:=by
 by_cases c:b∈wr
 .exact Zq (hf b AA) (L.ex b (.inr c))
 .rw[L.OD b c (λhh=>by unfold Mf at hh;omega)];exact hf b AA):=q
def Aeu(q:p:=by
 split at h
 .rename_i Oc SV;simp at h;obtain⟨rfl,rfl⟩:=h;exact YC AbM λt _ SS=>by simp only[A2,SS,JK,SV]
 .cases h):=q
def Aev(q:p:=by
 refine zv ?_;refine GW AbR rfl rfl ⟨_,_,_,_,rfl,1,0,_,_,_,_,0,[],_,rfl,TA AA (hL.tk _ ha),by rw[hs];exact MI,wl0 AaA⟩):=q
def Aew(q:p:=by
 cases hA with|cons _ v _ l' h5 h6=>
  cases h6;cases h5 with
  |data _ _ h7=>cases h7
  |GN i B hi=>simp at hi;rw[hi]):=q
def Aex(q:p:=by
 unfold xN;refine zv ?_;have hj:j.toNat=l.length:=AA;rw[hj,DG]at hd;refine GW rfl (Ij rfl Uo Gz) rfl ⟨rfl,by rw[hd]⟩):=q
def Aey(q:p:=by
 refine zv ?_;exact GW AcK rfl rfl ⟨rfl,N,_,rfl,hw,λ_=>hn rfl⟩):=q
def Aez(q:p:=by
 rw[Ng,ih AA AA];rintro⟨h3,h4⟩;by_cases e':k=i
 .subst e';rw[hD]at h3;cases h3
 .rw[jn k AA AA h4]at h3;cases h3):=q
def Af0(q:p:=by
 rcases a4 with⟨h,_⟩|⟨_,h,_⟩
 .rintro rfl;exact h1 h
 .have:=hg.lt hf hd;omega):=q
def Af1(q:p:=by
 simp only[hb];split at h
 .rename_i hv;cases h;exact⟨by rw[hv],rfl⟩
 .cases h):=q
def Af2(q:p:=by
 rintro x B hx rfl;obtain⟨o,h1,h2⟩:=hr.P6 x B hx;rw[hb]at h1;cases h1;cases h2):=q
def Af3(q:p:=by
 rcases e2.bU B ks Jm with⟨_,_,_,_,h1⟩|h1|h1
 .cases h1
 .exact h1
 .omega):=q
def Af4(q:p:=by
 refine zv ?_;unfold Ob;refine zv ?_;rw[SY];simp only[bp,hs,hd]at h9;exact h9):=q
def Af5(q:p:=by
 rintro rfl;rcases a4 with⟨h,_⟩|⟨_,h,_⟩
 .exact h2 (CD.2 ⟨_,hpm,h⟩)
 .omega):=q
def Af6(q:p:=by exact LW (Lj 0 1 _ (Lk 0 1 _ k) _ _ _) rfl rfl rfl rfl rfl λJs=>hk Js Od JK):=q
def Af7(q:p:=by exact⟨Kt,_,_,rfl,by rw[HM,PU.out];first|exact At.out|(rw[Bb];exact At.out)⟩):=q
def Af8(q:p:=by
 obtain⟨r,c,IE,rfl,b,rfl⟩:=this;exact⟨b,IE⟩):=q
def Af9(q:p:=by
 rw[hs];exact h4 e n Q Zu v s hw):=q
def AfA(q:p:=by
 have:=h.on;unfold SO at this;split at this
 .rw[this]at hv;simp at hv
 .rename_i b hb;exact⟨b,hb,this⟩):=q
def AfB(q:p:=by
 rw[hm]at h2;refine AZb h2 ?_;refine GW rfl (Ij rfl Uo Ph) rfl ⟨_,_,_,_,rfl,hQ _ _ _ _ _ hw HM ha (Ct _)⟩):=q
def AfC(q:p:=by
 intro a e b m ha hc;have he:e≠0:=λh=>by have:=Om ha h;omega
 exact⟨0,[],a,e,b,.eT 0 a e b m he,ha,AD,AD⟩):=q
def AfD(q:p:=by
 show OB (.agg _)=_;simp only[OB,YU,this]):=q
def AfE(q:p:=by simp only[FB,SU,a0,a1,B6,Bv hu,Result.andThen_ok,Iz,lO,Dz,Bv hd,f1,Sem.run_pure,Go.Ab.S9 w B MH Ga g2]):=q
def AfF(q:p:=by
 refine Fy AbS ?_;refine Fy Il ?_;exact Xy (i+1) AA G7 s):=q
def AfG(q:p:=by
 refine zv ?_;exact IF (OG 0 1 _ _ _) rfl rfl rfl rfl λJs=>Pf hL ha (LA:=[]) (.inl ⟨rfl,rfl⟩) AD AD hW):=q
def AfH(q:p:=by
 unfold RF;refine zv ?_;refine AT6 ?_ (λh=>Zq KM AaG);refine zv ?_;refine GW sl rfl rfl (hQ [] _ _ AA)):=q
def AfI(q:p:=by
 intro r hr;obtain⟨x,_,rfl⟩:=B8.1 hr;rfl):=q
def AfJ(q:p:=by
 simp at hi hv;subst hi;simp only[List.filterMap_cons,hp,CP]at KO;exact Zq (CD.2 ⟨q,Bn hv,hq⟩) KO.1):=q
def AfK(q:p:=by
 simp at hi hv;subst hv;simp only[List.filterMap_cons,hq,CP]at KO;exact Zq (CD.2 ⟨p,Bn hi,hp⟩) KO.1):=q
def AfL(q:p:=by
 have h9:=Rows.dr (Zi (K:=K6) c) AaO hk6 (Cs _) (c:=oS) (by simpa using AC8);rw[Bb]at h9;exact h9):=q
def AfM(q:p:=by
 refine zv ?_;refine pQ_v AcD ?_;exact inc _ (Ow (ub,uE)) ub uE ⟨zh,zh,zh,h.lt⟩ zh (.inl rfl) hkE):=q
def AfN(q:p:=by exact Rf (UF 0 1 _ k _ _ _ _ _ _) rfl rfl λJs=>Jm Js):=q
def AfO(q:p:=by exact IF (OG 0 1 _ _ _) rfl rfl rfl rfl λJs=>Pf hL (BQ hL) (LA:=[]) (.inl ⟨rfl,rfl⟩) AD AD AG):=q
def AfP(q:p:=by
 refine zv ?_;refine GW rfl rfl rfl ⟨a,e,b,n,rfl,?_,rfl,rfl,rfl,rfl⟩;simp only[TK,h,h1,h2];rfl):=q
def AfQ(q:p:=by rw[Ps c]at hx;cases hx;trivial):=q
def AfR(q:p:=by
 show(if _ then _ else _)=_;rw[Ps rfl]):=q
def AfS(q:p:=by
 split at hb
 .rename_i hs;exact⟨hs,hb⟩
 .cases hb):=q
def AfT(q:p:=by exact IF (MR 0 1 _ _ _ _) rfl rfl rfl rfl λJs=>QZ hL (BQ hL) (GB:=[]) rfl rfl AD AD AG AG JK):=q
def AfU(q:p:=by
 refine zv ?_;refine GW rfl rfl rfl ⟨_,_,_,_,rfl,rfl,⟨_,rfl⟩,?_⟩;rw[Oq hL ha];exact XX Aad he):=q
def AfV(q:p:=by exact IF (MR 0 1 _ _ _ _) rfl rfl rfl rfl λJs=>QZ hL (BQ hL) (GB:=l) rfl rfl hw HM AG AG JK):=q
def AfW(q:p:=by
 have hx1:m.HE x=some y:=hx;obtain⟨n,e,hd⟩:=hr.Qq x y hx1;refine⟨n,e,?_⟩;rw[Ng AaV];exact hd):=q
def AfX(q:p:=by exact IF (OG 0 1 _ _ _) rfl rfl rfl rfl λJs=>Pf hL (BQ hL) (LA:=l) (.inr ⟨_,rfl⟩) hw HM AG):=q
def AfY(q:p:=by
 refine zv ?_;refine GW AbR rfl rfl ⟨_,_,_,_,rfl,0,0,⟨#[]⟩,0,0,0,0,[],0,rfl,N1,QW hL ha he⟩):=q
def AfZ(q:p:=by
 split
 .rename_i he;rw[he]at h;exact h
 .rename_i c he;rw[he]at h;exact(hk c he).trans h):=q
def Afa(q:p:=by
 refine a3 d ?_;rintro rfl;rcases a4 with⟨h,_⟩|⟨_,h,_⟩
 .exact tY h
 .exact hd (hf d AA)):=q
def Afb(q:p:=by
 rw[Bb];refine Fy AbX ?_;refine cf ?_;exact hW s h):=q
def Afc(q:p:=by
 by_cases e:k=i
 .subst e;rw[Ng AQ,Ng AQ]
 .have:D' k=D k:=by rw[hD'];simp[e]
  rw[this]):=q
def Afd(q:p:=by
 obtain⟨x,_,rfl⟩:=B8.1 hr;exact x.GX):=q
def Afe(q:p:=by
 unfold Xa;refine zv ?_;refine GW Abk rfl rfl (hQ _ _ _ _ _ _ _ (λ_=>⟨AA,AA,AA,rfl,Of⟩))):=q
def Aff(q:p:=by
 refine⟨_,_,m',HW,(Lx.drew m w).trans k1,k2,.ME _ _ _ _ k3 hge ?_⟩;rw[k4,Of];exact Bg _):=q
def Afg(q:p:=by
 refine⟨_,by simp[FT,DJ,storeVar,IP hs,Of,ADW],k1,k2.congr λz=>?_,rfl⟩;simp only[BN,I0]):=q
def Afh(q:p:=by
 refine Fy Lq ?_;exact L5 (Q:=λr (s:St)=>r=.bool true) (s:=St.mk (λ_=>none) 0) rfl rfl):=q
def Afi(q:p:=by
 refine zv ?_;refine GW AbR rfl rfl ⟨_,_,_,_,rfl,f,s1,nm,tk,tl,i,m,GP,GY,rfl,S3,Lt,AA⟩):=q
def Afj(q:p:=by
 simp at h;subst h;simp[A2]at HW;obtain⟨rfl,rfl⟩:=HW;exact IL (Lx.refl m w) hr (cJ Mt)):=q
def Afk(q:p:=by
 simp only[hb];split at h
 .rename_i hv;cases h;exact⟨by rw[hv,ES.Zm],rfl⟩
 .cases h):=q
def Afl(q:p:=by
 simp only[hb]at this;exact .inr (.inr ⟨_,this⟩)):=q
def Afm(q:p:=by
 refine zv ?_;exact⟨zc,ct (next _)⟩):=q
def Afn(q:p:=by
 obtain⟨r,c,IE,rfl,a,e,rfl⟩:=this;exact⟨a,e,IE⟩):=q
def Afo(q:p:=by
 refine zv ?_;exact qE hQ h0 ht dj hkm hm hd hc):=q
def Afp(q:p:=by
 unfold mL;refine GW rfl rfl rfl ⟨rfl, -1,rfl,.inr ⟨rfl,λj n hj hja=>Pt j n hj Aa3⟩⟩):=q
def Afq(q:p:=by
 unfold mL;refine GW rfl rfl rfl ⟨rfl, -1,rfl,.inr ⟨rfl,λj n hj hja=>Pt j n hj AaG⟩⟩):=q
def Afr(q:p:=by
 refine ATj I4 rfl rfl (Kj zh rfl) rfl ?_;refine GW rfl rfl (Kj zh rfl) (ZF _ _ YI)):=q
def Afs(q:p:=by
 refine pQ_v Abb ?_;refine Oi AA rfl λe' a' he=>?_;exact GW rfl rfl rfl (ZF _ _ he)):=q
def Afu(q:p:=by exact⟨k,hk 0 e a _ AA AA AA ⟨zh,by simp[IG]⟩⟩):=q
def Afv(q:p:=by
 refine zm ?_;exact⟨_,loop l.length 0 AA AA _⟩):=q
def Afw(q:p:=by
 simp only[Bo,decide_eq_true_eq,Bb]at h9;omega):=q
def Afx(q:p:=by
 rcases a4 with⟨h,_⟩|⟨_,h,_⟩
 .exact JQ fO (Wz hpm h) AD
 .have:=Gu hf fO;omega):=q
def Afy(q:p:=by
 show(bif Br x.cells.length 1&&x.cells.all PV.IT then _ else _)=_;rw[hc];simp[hx]):=q
def Afz(q:p:=by
 by_cases c:x=b
 .rw[(Nat.beq_eq ..).mpr c,Ps c];rfl
 .rw[Go.Ab.tz c,Ng c];rfl):=q
def Ag(q:p:=by rw[show(V++GA).map Ao=V.map Ao++GA.map Ao from Bu];exact n3 t ht):=q
def Ag0(q:p:=by
 have:=hxc.length;rw[ZI]at this;simpa using this.symm):=q
def Ag1(q:p:=by
 rw[Ng c]at hx;exact(hr.bl x o hx).Hi hle λ_ _ _=>rfl):=q
def Ag2(q:p:=by exact eU hE hr h1 h2 h3 h4 (.cons _ _ _ _ hu ha) ro):=q
def Ag3(q:p:=by
 have:=congrArg List.length hx;simp[MM]at this;omega):=q
def Ag4(q:p:=by
 obtain⟨x,hx,rfl⟩:=B8.1 hw;have:=hV.val v x hx;omega):=q
def Ag5(q:p:=by
 refine zv ?_;exact⟨K,hK 0 0 0 _ AA AA AA zh zh AaJ⟩):=q
def Ag6(q:p:=by
 rw[hn]at hc;rw[hr,hc]at IE;exact⟨w,a',e',b',IE,pA⟩):=q
def Ag7(q:p:=by
 show(if _ then _ else _)=_;rw[Ng AA];exact h.hd.kb):=q
def Ag8(q:p:=by simp only[KU.HE,Bf,CD];exact .inr (.inr ⟨p,hp,hd⟩)):=q
def Ag9(q:p:=by
 unfold WV;refine zv ?_;rw[Zt];exact hK _ zh zh Aax):=q
def AgA(q:p:=by
 show(bif Br l.length l.length&&l.all PV.IT then _ else _)=_;rw[hx];simp;rfl):=q
def AgB(q:p:=by
 have:=h.HE p hp;unfold KQ at this;rw[hb]at this;exact .inr (.inr ⟨_,this⟩)):=q
def AgC(q:p:=by exact .inl h1):=q
def AgD(q:p:=by exact .inr AA):=q
def AgE(q:p:=by refine GW rfl rfl rfl ⟨_,_,rfl,hQ _ _ λhe=>⟨he,λq hq hjq=>Zq ⟨AA,he⟩ Iz⟩⟩):=q
def AgF(q:p:=by
 have:x∈MM (Li e):=by rw[hx];simp
 obtain⟨n,_,rfl⟩:=B8.1 this;exact⟨n,rfl⟩):=q
def AgG(q:p:=by
 refine zv ?_;refine AWe (Xz f) ?_;exact GF (λ_=>yes) λ_=>next e a s hK h):=q
def AgH(q:p:=by rw[CV,Bc AA];rfl):=q
def AgI(q:p:=by exact GW rfl rfl hs ⟨rfl,_,rfl,AA,AA,AA⟩):=q
def AgJ(q:p:=by exact IF (Lj 0 1 _ (Lk 0 1 _ k) _ _ _) rfl rfl rfl rfl λJs=>hk Js Od JK):=q
def AgK(q:p:=by
 refine zv ?_;exact AE8 hQ h0 ht dj hk hc):=q
def AgL(q:p:=by
 by_cases c:b∈fp
 .have:=(Vg b c).1;omega
 .rw[L9 c AA];exact hf b AA):=q
def AgM(q:p:=by
 have:=h.on;unfold SO at this;rw[hb]at this;exact .inr (.inl ⟨hb,this⟩)):=q
def AgN(q:p:=by
 rw[h]at this;simp only[Option.map_some,Bh,Ch]at this;exact⟨i,rfl,this⟩):=q
def AgO(q:p:=by
 refine zv ?_;exact wh hQ h0 ht dj hk hc):=q
def AgP(q:p:=by refine GW rfl rfl rfl ⟨_,_,rfl,hQ _ _ λhe=>⟨he,λq hq hjq=>by omega⟩⟩):=q
def AgQ(q:p:=by
 have:=hTS b ht (by rw[h2];simp);simp only[jR,this,if_true];exact hb):=q
def AgR(q:p:=by
 refine zv ?_;refine GW Abk rfl rfl (hQ _ _ _ _ _ _ _ (λh=>Zq h AA))):=q
def AgS(q:p:=by cases hC with|cons B0 _ Bs _ _ _ _ _ _ hr=>cases hr;exact⟨B0,rfl⟩):=q
def AgT(q:p:=by refine GW rfl Acv rfl ⟨_,_,_,_,rfl,hQ _ _ _ _ _ hw HM (BQ hL) AG⟩):=q
def AgU(q:p:=by
 refine zv ?_;exact go _):=q
def AgV(q:p:=by
 simp only[Bh]at h;subst h;cases hv with|data _ _ hd=>cases hd;rfl):=q
def AgW(q:p:=by
 simp only[builtin,B6];rw[show[u,v].toArray=#[u,v]from rfl,g1];rfl):=q
def AgX(q:p:=by exact .inl ⟨h1,by show(if _ then _ else _)=_;rw[Ng c];exact h2⟩):=q
def AgY(q:p:=by
 rcases Bf.1 hx with hx|hx
 .simp at hx
 .rw[By.1 hx];exact S3):=q
def AgZ(q:p:=by
 show(HV[b]?).map BI=none;have OK:HV.length<=b:=hb;rw[Ck OK];rfl):=q
def Aga(q:p:=by
 simp only[Bo,decide_eq_true_eq,Bb,beq_iff_eq]at h;exact Zq h Iz):=q
def Agb(q:p:=by
 obtain⟨k,e1,hc⟩:=hr.Qq x y h1;exact⟨k,e1,by rw[Ng c];exact hc⟩):=q
def Agc(q:p:=by
 split
 .unfold Je;rfl
 .rename_i c he;unfold Je;exact h c he):=q
def Agd(q:p:=by
 refine zv ?_;exact GW AbR rfl AbQ (hQ _ _ _ ⟨true,[],rfl,AD⟩)):=q
def Age(q:p:=by
 simp only[Bh]at hi;subst hi;show _=_;rw[Ar hbc.symm];exact a2):=q
def Agf(q:p:=by
 unfold Ns;refine Fy AbS ?_;exact fW):=q
def Agg(q:p:=by refine GW rfl rfl rfl ⟨_,_,_,_,rfl,rfl,rfl,rfl,rfl,.inl rfl⟩):=q
def Agh(q:p:=by
 obtain⟨ds,hd⟩:=hr.P6 x B' hx;exact⟨ds,by rw[Ng c];exact hd⟩):=q
def Agi(q:p:=by
 rcases Bf.1 hv with hv|hv
 .exact h4 v hv
 .exact g4 v hv):=q
def Agj(q:p:=by
 unfold Qf;refine zv ?_;rw[OH];exact ih _ _ s AA AA AA h hb):=q
def Agk(q:p:=by
 obtain⟨k,hk⟩:=sX l.length;exact⟨k,hk 0 e a _ AA AA AA zh⟩):=q
def Agm(q:p:=by exact⟨_,by simp[Ew,SU,Bv hu,goInt],.data _ _ (.int _ _)⟩):=q
def Agn(q:p:=by
 have:(k==i)=false:=by simpa using Ne.symm e
 simp[e,this]):=q
def Ago(q:p:=by refine GW Acw rfl rfl ⟨rfl,[],_,_,rfl,AD,AD,by simp[BC]⟩):=q
def Agp(q:p:=by
 split at hj
 .rw[Cu]at hj;exact ao hr Jm hj
 .cases hj):=q
def Agq(q:p:=by
 refine zv ?_;refine GW rfl rfl AbQ (hQ _ _ T hT hTy id)):=q
def Agr(q:p:=by exact this.mono AB):=q
def Ags(q:p:=by
 refine zv ?_;exact GW rfl rfl rfl (by rw[hp];exact hQ)):=q
def Agt(q:p:=by exact GW rfl rfl AbQ (hQ _ _ _)):=q
def Agu(q:p:=by
 refine GI I4 rfl rfl AbQ rfl ?_;exact next e2 a2 _ zh):=q
def Agv(q:p:=by
 refine zv ?_;refine⟨zc,?_⟩;exact ct (oa rfl VZ hkk h)):=q
def Agw(q:p:=by
 rintro rfl;rcases ADA with h|h
 .exact h1 h
 .omega):=q
def Agx(q:p:=by
 rw[OT rfl g1];exact IL g2 g3 g4):=q
def Agy(q:p:=by rw[Ps c]at hx;cases hx;cases Pt):=q
def Agz(q:p:=by simp only[B6,Go.Ab.Ni,Result.andThen_ok,Sem.run_pure]):=q
def Ah(q:p:=by simp[h]):=q
def AhA(q:p:=by exact⟨k1.trans k3,λrg K hK=>k2 rg _ (k4 rg K hK)⟩):=q
def AhB(q:p:=by rw[JY];exact a6.trans (IV AS)):=q
def AhC(q:p:=by
 simp[he]at h9;omega):=q
def AhD(q:p:=by cases vR with|mk _ _ _ _ _ _ _ h9=>exact h9 _ I0):=q
def AhE(q:p:=by cases vR with|mk _ _ _ _ _ _ _ h9=>exact h9 _ hs):=q
def AhF(q:p:=by exact GW AbR rfl AbQ (hQ _ _ _ ⟨false,E,rfl,AA⟩)):=q
def AhG(q:p:=by
 obtain⟨r,c,IE,rfl,r',rfl,h⟩:=this;exact⟨r',IE,h⟩):=q
def AhH(q:p:=by
 show s2.heap c=_;rw[JY,Ar (Ne.symm x6)];exact a2):=q
def AhI(q:p:=by exact IL (Lx.refl m w) hr g2):=q
def AhJ(q:p:=by
 refine zv ?_;rw[OH];exact ih _ e a s AA AA AA h):=q
def AhK(q:p:=by rename_i hd;simp at h;subst h;simp[isAgg,Bv hd]):=q
def AhL(q:p:=by
 obtain⟨q,hq,rfl⟩:=B4 hx;exact(Jk he).2 q hq AA):=q
def AhM(q:p:=by
 obtain⟨r,c,IE,rfl,w,rfl,h⟩:=this;exact⟨w,IE,h⟩):=q
def AhN(q:p:=by rw[CY];intro r hr;obtain⟨v,_,rfl⟩:=B8.1 hr;rfl):=q
def AhO(q:p:=by exact vV _ _ hs):=q
def AhP(q:p:=by exact⟨h1,h2,a8 c (JQ h1 fO AD) h2 (Gu hf h1)⟩):=q
def AhQ(q:p:=by
 refine zv ?_;rw[OH];exact ih _ _ s AA AA AA h):=q
def AhR(q:p:=by
 rw[L7,Bd];exact zh):=q
def AhS(q:p:=by
 show(if _ then _ else _)=_;rw[Ng AU];exact hx):=q
def AhT(q:p:=by exact Rf (Xc 0 0 _ k _ _) rfl rfl λJs=>Jm Js):=q
def AhU(q:p:=by
 have:j=i.toNat:=AA;subst this;simpa using h2):=q
def AhV(q:p:=by
 rcases br hm with h1|h1
 .cases h1
 .omega):=q
def AhW(q:p:=by show(if _ then _ else _)=_;rw[Ps c];exact hb):=q
def AhX(q:p:=by
 simp only[Bo,decide_eq_true_eq,Bb]at h;omega):=q
def AhY(q:p:=by exact .data _ _ (.int _ _)):=q
def AhZ(q:p:=by exact .inr (.inr (.inr h))):=q
def Aha(q:p:=by
 have h8:=fin b eo bx _ h;rw[hj,DG];exact h8):=q
def Ahb(q:p:=by
 rw[Ng (Kk x B hx)]at d;exact hr.bK x B hx d):=q
def Ahc(q:p:=by
 rw[h0]at this;exact this.mono λr s hq=>hq.1):=q
def Ahd(q:p:=by exact .inr (.inr AA)):=q
def Ahe(q:p:=by exact⟨.inr (.inl hd),λh=>h4 d hd d Ah rfl⟩):=q
def Ahf(q:p:=by exact⟨k1,k2.congr λx=>by simp only[BN,I0]⟩):=q
def Ahg(q:p:=by
 rw[ES.AJF,ES.eR,AP8 g1]at this;exact this):=q
def Ahi(q:p:=by
 obtain⟨K,hK⟩:=nF (v2:=v2) (v3:=v3) (v4:=v4) (v6:=v6) (Q:=Q) (N:=N) (GG:=GG) hi Ml hf (o:=o) AA (e:=e) (a:=a) (Pj:=Pj) λf' Pd h1 h2=>ID f' Pd (h1.imp id λh=>by rw[h];exact⟨AA,hoP⟩) h2;refine⟨K,1,λb eo bx bo z0 bd bw s h mj fN L0=>?_⟩;show Np _ _ _ _ _ _ _ _ _ _ _ _ _ _ _ _ _ _ _;unfold Np;refine zv ?_;refine GF (λh9=>?_) λ_=>hK b eo bx bo z0 _ h mj fN;exact Adb):=q
def Ahj(q:p:=by
 refine zv ?_;refine IU zh ?_;refine GF (λh9=>?_) λ_=>GW rfl rfl AbQ ⟨_,_,rfl,rfl⟩;exact AdV):=q
def Ahk(q:p:=by
 obtain⟨K,hK⟩:=ZL λv hv=>by
  obtain⟨q,hq,rfl⟩:=B4 hv;exact JO q hq AA
 refine⟨K,1,λb eo bx bs bi bw bd s h=>?_⟩;have lE:=h.hs;have Ls:=h.i.i.h0;have gK:=h.s0;have La:=h.slt;show Nq _ _ _ _ _ _ _ _ _ _ _ _ _ _ _ _ _ _ _ _;unfold Nq;refine zv ?_;refine pQ_v (GH zh eu) ?_;refine GF (λh9=>?_) λ_=>hK b eo bx bs bi bw bd _ h;exact Adb):=q
def Ahl(q:p:=by
 have rN:bad≠0:=by simpa using hb
 obtain⟨r,e1,a1,IE,rfl,h2,_⟩:=(Ik (N:=N) (e:=e) (a:=a) GY bad rN).pc;refine zv ?_;refine Fy (GH zh QQ) ?_;exact Ads):=q
def Ahm(q:p:=by
 refine zv ?_;refine AZc AcD ?_;refine AWe hr ?_;refine⟨zc,?_⟩;refine AT6 ?_ (λ_=>next e a s h (by rw[JK];exact hb));exact Ad4):=q
def Ahn(q:p:=by
 refine⟨1,λ{cs} JK hp nx=>?_⟩;show NW _ _ _ _ _ _ _ _ _;unfold NW;refine zv ?_;refine GF Abg λh=>?_;refine zv ?_;exact Adc):=q
def Aho(q:p:=by
 refine zv ?_;refine IU zh ?_;refine AT7 (λh9=>?_) ?_
 .exact AdV
 .exact AeQ):=q
def Ahp(q:p:=by
 refine zv ?_;cases h3:(Hf L a).tk==0
 .exact Aev
 .refine zv ?_;exact AdY):=q
def Ahq(q:p:=by
 by_cases c:x=b
 .exact AfQ
 .rw[Ng c]at hx;exact hr.bl x o hx):=q
def Ahr(q:p:=by
 refine zv ?_;exact Ad6):=q
def Ahs(q:p:=by
 refine zv ?_;exact Adp):=q
def Aht(q:p:=by
 rcases a4 with⟨h,_⟩|⟨_,h,_⟩
 .exact .inl Aal
 .exact AgD):=q
def Ahu(q:p:=by
 refine AT5 ?_ ?_
 .exact Adp
 .refine zv ?_;exact AhO):=q
def Ahv(q:p:=by
 simp only[Cg]at this⊢;rw[CQ AA]at this⊢;exact Aea):=q
def Ahw(q:p:=by
 refine GI I4 rfl rfl AbQ rfl ?_;exact AeQ):=q
def Ai(q:p:=by simp only[Gr.H2,Bm,Bf,CD];exact .inr (.inr (.inr ⟨p,hp,hc⟩))):=q
def Aj(q:p:=by rw[HW];exact eU hE hr PR e1 (by simpa using e2) hc hrel ro):=q
def Ak(q:p:=by simpa[Ec]using hi):=q
def Al(q:p:=by rw[Gl];rfl):=q
end
open Array renaming length_toList->Cp
open Go renaming Obj->EE,FuncId->B9,Oper->CW,Operand->Cy,TypeId->Bz,Value->Bk,asIntOf->Ep,run_underlying->Bv
open Go.Instr renaming sliceBound->Eo,sliceBounds->FZ
open Go.Op renaming equal->EF,intBits->FW
open Go.Region renaming binds->DB
open Go.Sem renaming run->Ek,run_bind->B6
open Go.World renaming frozen?->DX
open List renaming append_assoc->B3,ext_getElem?->DK,getElem?_append_left->CL,getElem?_append_right->CT,getElem?_drop->Cu,getElem?_take->C1,length_cons->CE
open Nat renaming beq->Br,blt->DZ,eq_of_beq_eq_true->B5,le_of_ble_eq_true->EM,testBit->EX
namespace Go.Ab
inductive Tr (α:Type)where
 |nil
 |node (v:Option α) (a b c d:Tr α)
inductive D4 where
 |a|b|c|d
def dig(n:Nat):D4:=bif Br n 0 then .a else bif Br n 1 then .b else bif Br n 2 then .c else .d
def Tr.get{α:Type}:Tr α->Nat->Option α
 | .nil,_=>none
 | .node v a b c d,k=>match k with
  |0=>v
  |k+1=>match dig (k%4)with
   | .a=>a.get (k/4)
   | .b=>b.get (k/4)
   | .c=>c.get (k/4)
   | .d=>d.get (k/4)
def Tr.eN{α:Type}:Nat->Nat->α->Tr α->Tr α
 |0,_,_,t=>t
 |f+1,k,x,.nil=>match k with
  |0=> .node (some x) .nil .nil .nil .nil
  |k+1=>match dig (k%4)with
   | .a=> .node none (Tr.eN f (k/4) x .nil) .nil .nil .nil
   | .b=> .node none .nil (Tr.eN f (k/4) x .nil) .nil .nil
   | .c=> .node none .nil .nil (Tr.eN f (k/4) x .nil) .nil
   | .d=> .node none .nil .nil .nil (Tr.eN f (k/4) x .nil)
 |f+1,k,x,.node v a b c d=>match k with
  |0=> .node (some x) a b c d
  |k+1=>match dig (k%4)with
   | .a=> .node v (Tr.eN f (k/4) x a) b c d
   | .b=> .node v a (Tr.eN f (k/4) x b) c d
   | .c=> .node v a b (Tr.eN f (k/4) x c) d
   | .d=> .node v a b c (Tr.eN f (k/4) x d)
def Tr.set{α:Type}(k:Nat)(x:α)(t:Tr α):Tr α:=Tr.eN (k+1) k x t
def Tr.xm{α:Type}(k:Nat):(Tr.nil:Tr α).get k=none:=by cases k<;>rfl
def Xh(n:Nat):(n%4=0/\dig (n%4)=.a)\/(n%4=1/\dig (n%4)=.b)\/(n%4=2/\dig (n%4)=.c)\/(n%4=3/\dig (n%4)=.d):=by
 have:n%4=0\/n%4=1\/n%4=2\/n%4=3:=AA;rcases this with h|h|h|h<;>rw[h]
 .exact .inl ⟨rfl,rfl⟩
 .exact .inr (.inl ⟨rfl,rfl⟩)
 .exact .inr (.inr (.inl ⟨rfl,rfl⟩))
 .exact .inr (.inr (.inr ⟨rfl,rfl⟩))
def Tr.ACv{α:Type}(f:Nat):∀(k:Nat) (x:α) (t:Tr α) (j:Nat),k<f->(Tr.eN f k x t).get j=if j=k then some x else t.get j:=by
 induction f with
 |zero=>intro k x t j h;omega
 |succ f ih=>
  intro k x t j h;cases k with
  |zero=>
   cases t<;>cases j<;>simp[Tr.eN,Tr.get];rename_i j;rcases Xh j with⟨_,e⟩|⟨_,e⟩|⟨_,e⟩|⟨_,e⟩<;>simp[e]
  |succ k=>
   have hk:k/4<f:=AA;cases j with
   |zero=>
    rcases Xh k with⟨_,e⟩|⟨_,e⟩|⟨_,e⟩|⟨_,e⟩<;>cases t<;>simp[Tr.eN,Tr.get,e]
   |succ j=>
    have hjk:(j+1=k+1)<->(j%4=k%4/\j/4=k/4):=AA
    rcases Xh k with⟨me,e⟩|⟨me,e⟩|⟨me,e⟩|⟨me,e⟩<;>rcases Xh j with⟨hj4,e'⟩|⟨hj4,e'⟩|⟨hj4,e'⟩|⟨hj4,e'⟩<;>cases t<;>
     simp only[Tr.eN,e,Tr.get,e',ih _ _ _ _ hk,hjk]<;>simp[me,hj4]
def Tr.Xu{α:Type}(k:Nat)(x:α)(t:Tr α)(j:Nat):(t.set k x).get j=if j=k then some x else t.get j:=Tr.ACv (k+1) k x t j AA
inductive OL where
 |normal
 |exit (id:Nat)
 |ret
abbrev fa(m i:Nat):Prop:=m.testBit i=true
def AB2(a b i:Nat):fa (a|||b) i<->fa a i\/fa b i:=by simp[fa,Nat.testBit_or]
def AFw(b i:Nat):fa (1<<<b) i<->i=b:=by rw[fa,Nat.one_shiftLeft,Nat.testBit_two_pow];simp[eq_comm]
def AFx(a b:Nat):DZ a b=true<->a<b:=by simp[Nat.blt_eq]
section
section
variable(P:Program)
def Rh(t:Bz):ON:=match P.info? t with
 |some i=>some i.size
 |none=>none
def O7(t:Bz):ON:=match P.info? t with
 |some i=>some i.bytes
 |none=>none
def SB(t:Bz):Option Bool:=match P.underlying t with
 |some (.struct _)=>some true
 |some (.array _ _)=>some true
 |some _=>some false
 |none=>none
def LH(t:Bz):Option Bz:=match P.underlying t with
 |some (.slice e)=>some e
 |_=>none
def R7(s:Bz)(f:Nat):Option Field:=match P.underlying s with
 |some (.struct fs)=>fs[f]?
 |_=>none
def Vn(fs:List Field):Bool:=fs.all λf=>(P.info? f.type).isSome
def Im(n bytes:Nat):Bool:=Nat.ble (n*bytes) 140737488355328&&Nat.ble n 140737488355328
def pV(t:Bz)(name:String):Option (B9×Bool×Option Bz):=
 match P.info? t with
 |some i=>match i.methods.find? (·.name==name)with
  |some m=>bif m.path.isEmpty then(match m.func with
    |some (f,pr)=>match P.underlying t with
     |some (.pointer e)=>some (f,pr,some e)
     |some _=>some (f,pr,none)
     |none=>none
    |none=>none)
   else none
  |none=>none
 |none=>none
def M1(nt:Nat)(d:Option Tmp):Bool:=match d with
 |some d=>DZ d nt
 |none=>true
variable(nt:Nat)
def Kz:List CW->LN->LN
 |[],HL=>HL
 |o::r,HL=>Kz r (HL++[o.after.toList.foldl (λm e=>bif DB .any e then m|||1<<<e.on|||HL.getD e.on 0 else m) 0])
def XT(l:List Cy):LN:=l.filterMap λ| .tmp t=>some t|_=>none
def Rb(ops:List CW)(o:CW):LN:=
 XT o.op.operands.toList++(match o.guard with
  |some (j,_)=>(match ops[j]? with
   |some o'=>o'.dst.toList
   |none=>[])
  |none=>[])
def VD(ops:List CW)(a b:CW):Bool:=
 (
  match a.dst with
  |some d=> !(Rb ops b).contains d&& !(b.dst==some d)
  |none=>true)&&
 (match b.dst with
  |some d=> !(Rb ops a).contains d
  |none=>true)
def gU(ops:List CW)(m:Nat)(o:CW):List CW->Nat->Bool
 |[],_=>true
 |a::r,i=>(EX m i||VD ops a o)&&gU ops m o r (i+1)
def XQ(ops:List CW)(done:List CW):List CW->LN->Bool
 |[],_=>true
 |_::_,[]=>false
 |o::r,m::ms=>gU ops m o done 0&&XQ ops (done++[o]) r ms
def fo:List CW->Nat->Bool
 |[],_=>true
 |o::r,i=>(o.after.toList.all λe=>DZ e.on i|| !(DB .any e))&&fo r (i+1)
def Nk(ops:List CW):Bool:=fo ops 0&&XQ ops [] ops (Kz ops [])
end
end
section
def tz{a b:Nat}(h:a≠b):Br a b=false:=by
 cases e:Br a b with
 |false=>rfl
 |true=>exact Zq (B5 e) h
def AB1(a:Nat):Br a a=true:=by rw[Nat.beq_eq]
section
variable{P:Program} {w:World}
def L6(w:World)(o:EE)(h:∀c t fr,o=.cells c t fr->fr=(0,0))(a:Addr):(w.alloc o).frozen? a=w.frozen? a:=by
 by_cases ha:a.block=w.heap.size
 .have e1:(w.alloc o).heap[a.block]?=some o:=by rw[ha];exact heap_alloc_new w o
  have e2:w.heap[a.block]?=none:=by rw[ha];simp
  simp only[DX,e1,e2];cases o with
  |cells c t fr=>rw[h c t fr rfl];simp
  |_=>rfl
 .by_cases G7:a.block<w.heap.size
  .simp only[DX,heap_alloc_old w o a.block G7]
  .have e1:(w.alloc o).heap[a.block]?=none:=by show(w.heap.push o)[a.block]?=none;simp;omega
   have e2:w.heap[a.block]?=none:=by simp;omega
   simp only[DX,e1,e2]
def MD(w:World)(g:Nat)(old cs:AV0)(ty:Bz)(hg:w.heap[g]?=some (.cells old ty (0,0))):
  (w.setRow g cs).heap[g]?=some (.cells cs ty (0,0))/\(∀k,k≠g->(w.setRow g cs).heap[k]?=w.heap[k]?)/\(w.setRow g cs).heap.size=w.heap.size/\
  ∀a,(w.setRow g cs).frozen? a=w.frozen? a:=by
 have h1:=setRow_heap w g old cs ty (0,0) hg;have h2:∀k,k≠g->(w.setRow g cs).heap[k]?=w.heap[k]?:=λk hk=>setRow_other w g k cs hk;refine⟨h1,h2,by simp[World.setRow],λa=>?_⟩;by_cases e:a.block=g
 .simp only[DX,e,h1,hg]
 .simp only[DX,h2 _ e]
def Nj(cs:LV)(i:Nat)(xs:LV)(h:i+xs.length<=cs.length)(j:Nat):
  (cs.take i++xs++cs.drop (i+xs.length))[j]?=if i<=j/\j<i+xs.length then xs[j-i]? else cs[j]?:=by
 by_cases h1:j<i
 .rw[Ng AA,B3,CL AB,C1,Ps h1]
 .by_cases h2:j<i+xs.length
  .rw[Ps AA,CL AB,CT AB];congr 1;simp;omega
  .rw[Ng AA,CT AB,Cu];congr 1;simp;omega
def K4(cs:LV)(i:Nat)(xs:LV)(h:i+xs.length<=cs.length):(cs.take i++xs++cs.drop (i+xs.length)).length=cs.length:=by simp;omega
end
end
section
section
variable{P:Program} {w:World}
def Oz{t:Bz}{n:Nat}(h:Rh P t=some n):∃i,P.info? t=some i/\i.size=n:=by
 unfold Rh at h;cases hi:P.info? t with
 |none=>simp[hi]at h
 |some i=>simp[hi]at h;exact⟨i,rfl,h⟩
def L3{t:Bz}{n:Nat}(h:O7 P t=some n):∃i,P.info? t=some i/\i.bytes=n:=by
 unfold O7 at h;cases hi:P.info? t with
 |none=>simp[hi]at h
 |some i=>simp[hi]at h;exact⟨i,rfl,h⟩
def IP{t:Bz}{n:Nat}(h:Rh P t=some n)(w:World):(sizeOf t).run P w=.ok n w:=by obtain⟨i,hi,rfl⟩:=Oz h;simp[sizeOf,typeInfo,hi]
def JM{t e:Bz}(h:LH P t=some e):P.underlying t=some (.slice e):=by
 unfold LH at h;split at h
 .rename_i e' he;simp at h;subst h;exact he
 .cases h
def Mj{t:Bz}{f:Nat}{fd:Field}(h:R7 P t f=some fd):∃fs,P.underlying t=some (.struct fs)/\fs[f]?=some fd:=by
 unfold R7 at h;split at h
 .rename_i fs hfs;exact⟨fs,hfs,h⟩
 .cases h
def LL{t:Bz}{b:Bool}(h:SB P t=some b)(w:World):(isAgg t).run P w=.ok b w:=by
 unfold SB at h;split at h
 .exact AhK
 .exact AhK
 .rename_i d h1 h2 hd;simp at h;subst h;cases d<;>first|(exact(h1 _ rfl).elim)|(exact(h2 _ _ rfl).elim)|simp[isAgg,Bv hd]
 .cases h
def Ni(e:Bz)(cells:AV0)(w:World):(Go.newRow e cells).run P w=.ok ⟨w.heap.size,0,none⟩ (w.alloc (.cells cells e)):=by simp only[Go.newRow,B6];rfl
def Xo(xs:LV):∀(cs:AV0) (off k:Nat),
  off+k+xs.length<=cs.size->
  ((xs.zipIdx k).foldl (λcs (x:Bk×Nat)=>cs.setIfInBounds (off+x.2) x.1) cs).toList=cs.toList.take (off+k)++xs++cs.toList.drop (off+k+xs.length):=by
 induction xs with
 |nil=>intro cs off k h;simp
 |cons x xs ih=>
  intro cs off k h;simp only[CE]at h;simp only[List.zipIdx_cons,List.foldl_cons];rw[ih _ off (k+1) AB];apply DK;intro j;have hl:off+(k+1)+xs.length<=(cs.setIfInBounds (off+k) x).toList.length:=by simp only[Cp,Array.size_setIfInBounds];omega
  rw[Nj _ _ _ hl,Nj _ _ _ (by rw[CE,Cp];omega)];simp only[CE,Array.toList_setIfInBounds];by_cases h1:off+(k+1)<=j/\j<off+(k+1)+xs.length
  .rw[Ps h1,Ps AA,show j-(off+k)=(j-(off+(k+1)))+1 by omega];simp
  .rw[Ng h1];by_cases h2:j=off+k
   .subst h2;rw[Ps AA,Nat.sub_self,List.getElem?_cons_zero,List.getElem?_set_self (by rw[Cp];omega)]
   .rw[Ng AA,List.getElem?_set_ne AA]
def TR(cs:AV0):cs.zipIdx.toList=cs.toList.zipIdx:=by simp
end
end
section
section
variable{P:Program} {w:World}
def cX{a b:Nat}(h:DZ a b=true):a<b:=(AFx a b).1 h
def Rw{a b:Nat}(h:Nat.ble a b=true):a<=b:=EM h
def Mp(o:ON)(v:Option Bk):Prop:=match o,v with
 |none,none=>True
 |some n,some u=>∃k,u=.int k (n:Int)
 |_,_=>False
def NA{k:IntKind}{n y:Nat}(c:BoundsCode)(h:n<=y)(w:World):(Eo (.int k (n:Int)) y c).run P w=.ok n w:=by have:(0:Int)<=(n:Int)/\(n:Int)<=(y:Int):=AA;simp[Eo,Ep,h]
def UB{bS:Bool}{len cap:Nat}{KN NL max:ON}{lo hi mx:Option Bk}(h1:Mp KN lo)(h2:Mp NL hi)(h3:Mp max mx)
  (b1:max.getD cap<=cap)(b2:NL.getD len<=max.getD cap\/(NL=none/\max=none))(b3:KN.getD 0<=NL.getD len)(b4:max=none\/NL≠none)(w:World):
  (FZ bS len cap lo hi mx).run P w=.ok (KN.getD 0,NL.getD len,max.getD cap) w:=by
 have hm:∃M:Sem Nat,(∀w,M.run P w=.ok (max.getD cap) w)/\(match mx with
  |some v=>Eo v cap (if bS then .slice3Acap else .slice3Alen)
  |none=>pure cap)=M:=by
  refine⟨_,?_,rfl⟩;intro w;cases max<;>cases mx<;>simp only[Mp]at h3
  .rfl
  .obtain⟨k,rfl⟩:=h3;exact NA _ (by simpa using b1) w
 obtain⟨M,hM,hMe⟩:=hm;unfold FZ;cases max<;>cases mx<;>simp only[Mp]at h3
 .simp only[Option.getD_none]at b1 b2⊢;cases NL<;>cases hi<;>simp only[Mp]at h2
  .cases KN<;>cases lo<;>simp only[Mp]at h1
   .simp
   .obtain⟨k,rfl⟩:=h1;simp at b3;simp[NA _ b3]
  .obtain⟨k2,rfl⟩:=h2;have hb:_<=cap:=b2.resolve_right AD;simp only[Option.getD_some]at hb b3;cases KN<;>cases lo<;>simp only[Mp]at h1
   .simp[NA _ hb]
   .obtain⟨k,rfl⟩:=h1;simp at b3;simp[NA _ hb,NA _ b3]
 .obtain⟨k3,rfl⟩:=h3;have Kk:NL≠none:=b4.resolve_left AD;cases NL with
  |none=>exact Zq rfl Kk
  |some hn=>
   cases hi<;>simp only[Mp]at h2;obtain⟨k2,rfl⟩:=h2;simp only[Option.getD_some]at b1 b2 b3⊢;have hb:=b2.resolve_right AD;cases KN<;>cases lo<;>simp only[Mp]at h1
   .simp[NA _ b1,NA _ hb]
   .obtain⟨k,rfl⟩:=h1;simp at b3;simp[NA _ b1,NA _ hb,NA _ b3]
end
end
section
section
variable{P:Program} {w:World}
def and_true{a b:Bool}(h:(a&&b)=true):a=true/\b=true:=Bool.and_eq_true_iff.1 h
end
end
section
section
variable{P:Program} {w:World}
def mH(op:BinOp)(h1:op≠ .shl)(h2:op≠ .shr)(t:Bz)(k:IntKind)(a b:Int):
  binOp op t (.int k a) (.int k b)=match op with
   | .add=>Op.intArith op k a b
   | .sub=>Op.intArith op k a b
   | .mul=>Op.intArith op k a b
   | .quo=>Op.intDiv op k a b
   | .rem=>Op.intDiv op k a b
   | .and=>FW op k a b
   | .or=>FW op k a b
   | .xor=>FW op k a b
   | .andNot=>FW op k a b
   |_=>Op.intCmp op a b:=by
 cases op<;>first|(exact(h1 rfl).elim)|(exact(h2 rfl).elim)|(simp only[binOp,ne_eq,not_true_eq_false,if_false])
inductive Py:Bk->Bk->Prop
 |bool (a b):Py (.bool a) (.bool b)
 |GN (a b):Py (.pointer a) (.pointer b)
 |slice (a l c b k d):Py (.slice a l c) (.slice b k d)
 |map (a b):Py (.map a) (.map b)
 |AYY (f a b):Py (.func f a b) .nilFunc
 |AYZ (f a b):Py .nilFunc (.func f a b)
 |func3:Py .nilFunc .nilFunc
 |AWE (t v):Py (.iface t v) .nilIface
 |AWF (t v):Py .nilIface (.iface t v)
 |agg (a b):Py (.agg a) (.agg b)
def Py.run{u v:Bk}(h:Py u v)(t:Bz):binOp .eql t u v=(do pure (.bool (<- EF t u v)))/\(∀(r:Bool),(EF t u v).run P w=.ok r w->(binOp .eql t u v).run P w=.ok (.bool r) w/\(binOp .neq t u v).run P w=.ok (.bool !r) w):=by
 cases h<;>exact⟨rfl,λr hr=>⟨by
  show(do pure (.bool (<- EF t _ _)):Sem Bk).run P w=_;rw[B6,hr];rfl,by
  show(do pure (.bool (!(<- EF t _ _))):Sem Bk).run P w=_;rw[B6,hr];rfl⟩⟩
def XM(w:World)(B:Nat)(MH:Array MapEntry)(Ga:Nat)(h:w.heap[B]?=some (.map MH Ga)):(getObj B).run P w=.ok (.map MH Ga) w:=by simp[getObj,Ek,h]
end
end
end Go.Ab
