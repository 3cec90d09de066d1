/- Part of the proof of CauseOrders (own work, made small). -/
import Derived.CallsIn
import Derived.Laws.AppendOwn
import Derived.Laws.StructEq
set_option linter.all false
set_option maxRecDepth 100000
abbrev BA:=ByteArray
abbrev LLI:=List (List Int)
abbrev OLI:=Option Nat×List Int
abbrev LOL:=List (Option Nat×List Int)
abbrev LI:=List Int
abbrev LN:=List Nat
abbrev ON:=Option Nat
abbrev LB:=List ByteArray
abbrev LV:=List Go.Value
abbrev QX:=Go.Exit->Go.Act->Go.World->Prop
abbrev AV0:=Array Go.Value
def Ng:=@if_neg
def Ps:=@if_pos
def Zq:=@absurd
def Zy:=@of_decide_eq_false
def Ot:=@of_decide_eq_true
section
variable{p:Prop}
def AA(q:p:=by omega):=q
def AB(q:p:=by simp;omega):=q
def AD(q:p:=by simp):=q
def AE(q:p:=by simpa using h):=q
def AG(q:p:=by rw[Lk OR];have:=SL (e:=e) ha;omega):=q
def AH(q:p:=by rintro⟨_,h⟩;exact hw h):=q
def AI(q:p:=by rw[A3 rfl];simp):=q
def AJ(q:p:=by simpa using h9):=q
def AK(q:p:=by have:=SL (e:=e) ha;omega):=q
def AL(q:p:=by show s.next+1+1+1+1=_;omega):=q
def AM(q:p:=by rw[hs];exact Me):=q
def AN(q:p:=by rw[hs];omega):=q
def AO(q:p:=by rcases hv with h|h;exact .inl h;exact .inr (by omega)):=q
def AP(q:p:=by rw[MR];simp):=q
def AQ(q:p:=by show s.next+1+1+1=_;omega):=q
def AS(q:p:=by decide):=q
def AT(q:p:=by unfold G8.wt at Pe;omega):=q
def AU(q:p:=by rintro rfl;rw[hr.T2 hb]at hx;cases hx):=q
def AW(q:p:=by simpa using hb):=q
def AX(q:p:=by simp only[L4.It,L4.Hm,Bz,Bg,B6];exact .inr (.inr (.inr (.inr ⟨p,hp,hc⟩)))):=q
def AY(q:p:=by simp only[Bz,Bg];exact .inr (.inr (.inr hb))):=q
def AZ(q:p:=by simpa using hl):=q
def Ab0(q:p:=by simpa using ha):=q
def Ab1(q:p:=by simpa using hn):=q
def Ab2(q:p:=by intro e;rw[e]at h;cases h):=q
def Ab3(q:p:=by rw[hc];simp):=q
def Ab4(q:p:=by rintro r s'' ⟨_,rfl⟩;exact⟨h1.Ki,h1.Lq⟩):=q
def Ab5(q:p:=by have hc:g.ba=some c:=hc;simp[Gr.It,hc]):=q
def Ab6(q:p:=by have hc:g.nb=some c:=hc;simp[L4.It,hc]):=q
def Ab7(q:p:=by have hc:g.ba=some c:=hc;simp[L4.It,hc]):=q
def Ab8(q:p:=by rw[iD];exact Go.Ab.LO MR):=q
def Ab9(q:p:=by rw[hs,IE he,IE he];omega):=q
def Abh(q:p:=by rw[H4];exact ig hE hr QU e1 (by simpa using e2) hc hrel ro):=q
def Abi(q:p:=by simpa[FV]using hi):=q
def Abj(q:p:=by simp only[Hu,NN];exact zh):=q
def Abk(q:p:=by simp[L4.It]):=q
def Abl(q:p:=by show s.next+1+1=_;omega):=q
def Abm(q:p:=by simpa using ho):=q
def Abn(q:p:=by rw[d1];exact hd.ext e1):=q
def Abo(q:p:=by simp only[Hj,Hz];omega):=q
def Abp(q:p:=by simp[hp]):=q
def Abq(q:p:=by rintro⟨_,hc⟩;cases hc):=q
def Abr(q:p:=by simpa using c):=q
def Abs(q:p:=by rw[HV,Bf];rfl):=q
def Abt(q:p:=by rw[<- M9,Bf];exact zh):=q
def Abu(q:p:=by rcases hX with rfl|rfl<;>exactλ_ _ _=>trivial):=q
def Abv(q:p:=by show s.next+1=_;omega):=q
def Abw(q:p:=by have:=SL (e:=e2) My;simp only[BK]at NZ;omega):=q
def Abx(q:p:=by simp only[Bz,Bg];exact .inr (.inr (.inl hb))):=q
def Aby(q:p:=by simp only[HF.Gx,Bf,BX];omega):=q
def Abz(q:p:=by first|omega|(simp only[Hj,Hz,Ni,Lu];omega)):=q
def Ac0(q:p:=by rw[g3];exact hr):=q
def AcA(q:p:=by show(if _ then _ else _)=_;rw[Ps rfl]):=q
def AcB(q:p:=by simpa[Kh]using hs):=q
def AcC(q:p:=by rw[Nq,Bf];rfl):=q
def AcD(q:p:=by simp[Item.G0]):=q
def AcE(q:p:=by simp only[Bz,Bg];exact .inr (.inl hb)):=q
def AcF(q:p:=by have:=NZ;simp only[BK]at this;omega):=q
def AcG(q:p:=by have:=Zy h;omega):=q
def AcH(q:p:=by rw[Int.sub_zero]):=q
def AcI(q:p:=by have:=Sr.2.2.2.2;omega):=q
def AcJ(q:p:=by simp only[Hj,I4];omega):=q
def AcK(q:p:=by rw[hs];exact My):=q
def AcL(q:p:=by simp at LL;simp;omega):=q
def AcM(q:p:=by rw[e];rfl):=q
def AcN(q:p:=by rw[O7];exact Lr):=q
def AcO(q:p:=by simpa using hc0):=q
def AcP(q:p:=by rw[Bf];exact zh):=q
def AcQ(q:p:=by rcases hX with rfl|rfl<;>exact c1):=q
def AcR(q:p:=by rw[hx];simp[PD]):=q
def AcS(q:p:=by simp[stepG,stepG.exec,Frame.atR]):=q
def AcT(q:p:=by simpa using h2):=q
def AcU(q:p:=by simpa using WB):=q
def AcV(q:p:=by simpa using he):=q
def AcW(q:p:=by have:=K.yR i o ho e he hb;omega):=q
def AcX(q:p:=by simpa using sS):=q
def AcY(q:p:=by rintro rfl;rw[hb]at hd;cases hd):=q
def AcZ(q:p:=by simpa using hi):=q
def Aca(q:p:=by simpa using e2):=q
def Acb(q:p:=by simpa using hv):=q
def Acd(q:p:=by simpa using oY):=q
def Ace(q:p:=by rw[hb];exact Na rfl):=q
def Acf(q:p:=by simp[BB]):=q
def Acg(q:p:=by unfold At at*;omega):=q
def Ach(q:p:=by simp[MI]):=q
def Aci(q:p:=by simp;have:=SL (e:=e) ha;omega):=q
def Acj(q:p:=by rw[CU (by omega),Ew];exact hr):=q
def Ack(q:p:=by rcases hX with rfl|rfl<;>simp):=q
def Acl(q:p:=by simp[L4.It,h]):=q
def Acm(q:p:=by rintro rfl;exact MT d0 C8 k1):=q
def Acn(q:p:=by simp only[K7,Ng iD];exact Py):=q
def Aco(q:p:=by simp only[OG,NN,Lu];exact zh):=q
def Acp(q:p:=by rw[fK]at h4;omega):=q
def Acq(q:p:=by simp only[SV,M0];rw[Ps h0]):=q
def Acr(q:p:=by rw[hx];simp):=q
def Acs(q:p:=by have:=SL (e:=e3) tu;omega):=q
def Acu(q:p:=by have:=SL (e:=e2) My;omega):=q
def Acv(q:p:=by simp only[Hz,Hu,NN];omega):=q
def Acw(q:p:=by simp only[HF.Gx,Bf];omega):=q
def Acx(q:p:=by simp[hk]):=q
def Acy(q:p:=by rw[CR];exact KH):=q
def Acz(q:p:=by simp[FX,Bb hd,Place.get]):=q
def Ad0(q:p:=by exact G2 zh (BS x)):=q
def Ad1(q:p:=by exact G2 hg.box rfl):=q
def Ad2(q:p:=by exact λh=>Zq (Ot h) AA):=q
def Ad3(q:p:=by exact KG rfl rfl hf (H8 jQ) zh (XA.imp (λh=>by rw[h];rfl) λh=>h.symm)):=q
def Ad4(q:p:=by exact Iy (G1:=l.map Ao) rfl):=q
def Ad5(q:p:=by exact HU hi HV (BI _)):=q
def Ad6(q:p:=by exact G2 zh (BQ x)):=q
def Ad7(q:p:=by exact λx hx=>by cases hw x hx with|mk _ _ _ _ _ _ h3 _=>exact h3):=q
def Ad8(q:p:=by exact Lw dX (v:=IV p) Abp):=q
def Ad9(q:p:=by exact λhc=>by cases hc):=q
def AdA(q:p:=by simp only[BK]at NZ;omega):=q
def AdB(q:p:=by rw[CR];exact hx):=q
def AdC(q:p:=by rw[L9];exact BN):=q
def AdD(q:p:=by rw[L9];exact I9):=q
def AdE(q:p:=by rintro⟨_,_,hc⟩;cases hc):=q
def AdF(q:p:=by have:=m5 hs VI hD;omega):=q
def AdG(q:p:=by rw[hW];rfl):=q
def AdH(q:p:=by have:=(Bn.1 hj).1;omega):=q
def AdI(q:p:=by simpa using od):=q
def AdJ(q:p:=by simpa using H5):=q
def AdK(q:p:=by cases h):=q
def AdL(q:p:=by simp only at hkE;omega):=q
def AdM(q:p:=by rintro rfl;exact h1 hb):=q
def AdN(q:p:=by rintro⟨_,h⟩;exact e h):=q
def AdO(q:p:=by rw[hw,he]):=q
def AdP(q:p:=by rw[<- Br];exact H8 Ln):=q
def AdQ(q:p:=by rw[Item.JP,Hh.JP];rfl):=q
def AdR(q:p:=by rw[G8.ZV];rfl):=q
def AdS(q:p:=by rw[fK];omega):=q
def AdT(q:p:=by simp[hu]):=q
def AdU(q:p:=by simp[iG]):=q
def AdV(q:p:=by rw[Jw];simp):=q
def AdW(q:p:=by rw[h1];simp):=q
def AdX(q:p:=by exact Lo zh rfl):=q
def AdY(q:p:=by exact JK (Hk zo)):=q
def AdZ(q:p:=by exact λc t fr h=>by cases h):=q
def Ada(q:p:=by exact λh=>Zq he AE):=q
def Adc(q:p:=by exact Ho (Tj AA AA)):=q
def Ade(q:p:=by exact Ho (QW AA)):=q
def Adf(q:p:=by exact Ho (SK AA)):=q
def Adg(q:p:=by exact KG rfl (H8 Hi) (Hl AB AA) (H8 Hi) zh (.inr rfl)):=q
def Adh(q:p:=by exact HU h0 HV t.HJ):=q
def Adi(q:p:=by exact HU fj HV rfl):=q
def Adk(q:p:=by exact KG rfl rfl hf (H8 NG) rfl (XA.imp (λh=>by rw[h];rfl) λh=>h.symm)):=q
def Adl(q:p:=by exact KG rfl (H8 Ln) (Hl AB AA) (H8 Ln) zh (.inr rfl)):=q
def Adm(q:p:=by exact HU AA (Gy:=v.Gy) Ak rfl):=q
def Adn(q:p:=by exact HU h0 (SD h0 H5) (Hh.HJ _)):=q
def Ado(q:p:=by exact λh=>Zq AE he):=q
def Adp(q:p:=by exact JK (Hk (Ii rfl rfl))):=q
def Adq(q:p:=by exact Ju AA Kl rfl):=q
def Adr(q:p:=by exact λc t fr e=>by cases e;rfl):=q
def Ads(q:p:=by exact λc' hc=>by cases hc;rfl):=q
def Adt(q:p:=by exact SR (Hk (Ii rfl rfl))):=q
def Adu(q:p:=by exact KG rfl (H8 Hi) (Hl AB AA) (H8 Hi) zh (ho.imp (λh=>by rw[h];rfl) λh=>h.symm)):=q
def Adw(q:p:=by exact Iy (G1:=n.Je.map Ao) rfl):=q
def Adx(q:p:=by exact λa=>by rw[hW];exact Go.Ab.KY w.drew _ (λc t fr e=>by cases e;rfl) a):=q
def Ady(q:p:=by exact KG rfl rfl hf (H8 Hh.SS) rfl (XA.imp (λh=>by rw[h];rfl) λh=>h.symm)):=q
def Adz(q:p:=by exact RZ (v:=ρ x0) Mi rfl):=q
def Ae0(q:p:=by exact HU h0 Pd (BO _)):=q
def Ae1(q:p:=by exact Ju AA PO rfl):=q
def Ae2(q:p:=by exact Iy (G1:=(Nh n out).map Gv) rfl):=q
def Ae3(q:p:=by exact Nd rfl (H8 Hi) (Hl AB AA) rfl):=q
def Ae4(q:p:=by exact Iy (G1:=Ku out) rfl):=q
def Ae5(q:p:=by exact JN (eo:=2) AcC (.inr rfl) NG):=q
def Ae6(q:p:=by exact Ny rfl rfl):=q
def Ae7(q:p:=by exact λh=>Zq (Ot h) H5):=q
def Ae8(q:p:=by exact λh=>Zq Mv AE):=q
def Ae9(q:p:=by exact HU h0 Pd rfl):=q
def AeA(q:p:=by exact LY zh (BI _) (Item.fX _) rfl):=q
def AeB(q:p:=by exact Nd rfl (H8 Hi) (Hl AB AA) zn):=q
def AeC(q:p:=by exact Nd rfl (H8 Ln) (Hl AB AA) zn):=q
def AeD(q:p:=by exact gb1 zh rfl):=q
def AeE(q:p:=by exact Lo (cs:=ck N e1 a1) Abj rfl):=q
def AeF(q:p:=by exact Ju AA HV rfl):=q
def AeG(q:p:=by exact Ho (v:=.bool true) AF):=q
def AeH(q:p:=by exact nN rfl (zZ w) hM.map (zV hM.QV) (by rw[hM.is w,hc])):=q
def AeI(q:p:=by exact Ju h0 (Mj h0 H5) rfl):=q
def AeJ(q:p:=by exact HU AA (Gy:=x.Gy) AdU x.HJ):=q
def AeK(q:p:=by exact Nd rfl rfl (Hl AD AA) zn):=q
def AeL(q:p:=by exact Ju h0 HV rfl):=q
def AeM(q:p:=by exact HU h0 HV rfl):=q
def AeN(q:p:=by exact KG (G1:=[]) rfl rfl (Hl AD AA) rfl zh (.inl rfl)):=q
def AeO(q:p:=by exact Ho (v:=.bool (decide ((x.G0.length:Int)>0))) rfl):=q
def AeP(q:p:=by exact λc' hc=>by cases hc):=q
def AeQ(q:p:=by exact RZ (v:=ρ x0) Mi):=q
def AeR(q:p:=by exact Ny (Hh.fX _) zn):=q
def AeS(q:p:=by exact G2 zh (Item.r11 x)):=q
def AeT(q:p:=by exact SR (Hk zo)):=q
def AeU(q:p:=by exact Iy (G1:=[]) rfl):=q
def AeV(q:p:=by exact Ho (v:=.bool ((out.length:Int)==(n:Int))) rfl):=q
def AeW(q:p:=by exact KG rfl rfl (Hl Aci AA) (H8 Hi) zh (.inr rfl)):=q
def AeX(q:p:=by exact KG rfl (H8 Ln) (Hl AB AA) AdP AcP (.inr rfl)):=q
def AeY(q:p:=by exact Ho (v:=.bool false) AF):=q
def AeZ(q:p:=by exact IM (v:=.HK v.name) rfl):=q
def Aea(q:p:=by exact Jo (Hh.HJ _)):=q
def Aeb(q:p:=by exact Iy (G1:=l.map Gv) rfl):=q
def Aec(q:p:=by exact ZP (G1:=[[.HK v.name]]) rfl):=q
def Aed(q:p:=by exact HU h0 (JS h0 H5) rfl):=q
def Aee(q:p:=by exact HU AA (Gy:=Gv l[i]) (by simp[hli]) rfl):=q
def Aef(q:p:=by exact λe' a' oV=>hQ e' a' [] AD λh=>Zq h oV):=q
def Aeg(q:p:=by exact λ_ _ _ _ hh=>by cases hh):=q
def Aeh(q:p:=by exact λl c e=>by cases e):=q
def Aei(q:p:=by exact HU h0 HV (G8.HJ _)):=q
def Aej(q:p:=by exact Ph zh (Item.cut x)):=q
def Aek(q:p:=by exact HU h0 vi (Hh.HJ _)):=q
def Ael(q:p:=by exact nN rfl (nC n) h2 (m7 h3) (by rw[hf])):=q
def Aem(q:p:=by exact Iy (G1:=x.G6.map Gv) rfl):=q
def Aen(q:p:=by exact Iy (G1:=n.HE.map Aq) rfl):=q
def Aeo(q:p:=by exact HU AA (Gy:=v.Gy) (by simp[hvi]) rfl):=q
def Aep(q:p:=by exact Ho (v:=.bool false) rfl):=q
def Aeq(q:p:=by exact G2 zh (Item.dc x)):=q
def Aer(q:p:=by exact HU AA (Gy:=Gv n) (by simp[hj]) rfl):=q
def Aes(q:p:=by exact HU AA (Gy:=n.Gy) (by simp[ZB]) rfl):=q
def Aet(q:p:=by exact AAC (Hk (Ii rfl rfl))):=q
def Aeu(q:p:=by exact Iy (G1:=l.map Aq) rfl):=q
def Aev(q:p:=by exact λe' a' oV=>hQ e' a' λh=>Zq h oV):=q
def Aew(q:p:=by exact λh=>Zq AE (show¬op=0 by omega)):=q
def Aex(q:p:=by exact JN rfl XA OF):=q
def Aey(q:p:=by exact HU h0 (Mj h0 H5) rfl):=q
def Aez(q:p:=by exact HU h0 HV (BI _)):=q
def Af0(q:p:=by
 refine⟨1,λhp v1=>?_⟩;show KM _ _ _ _ _ _ _ _;unfold KM;refine zv ?_;cases h:e==0
 case true=>exact Zq AE he
 refine zv ?_;exact I3 (PS 0 1 _ _ _) rfl rfl rfl rfl λK3=>Q5 hL ha (MG:=l) (.inr ⟨_,rfl⟩) hw II hW):=q
def Af1(q:p:=by
 refine zv ?_;refine ABx _ _ rfl λf s1 nm tk tl i m G9 HI a1 e1 b1 n1 hw Me pg=>?_;refine zv ?_;refine HB AdY rfl rfl ⟨_,_,_,_,rfl,3,2,_,0,0,0,0,[.mk f s1 nm tk tl i m G9 HI],_,rfl,Zg AA AA hw,Me,wl1 AA⟩):=q
def Af2(q:p:=by
 split at h
 .rename_i l;split at h
  .rename_i k hk;simp at h;subst h;cases hv with
   |data _ _ hd=>cases hd
   |agg _ l' hl=>exact .agg _ _ (hl.UJ hk)
  .cases h
 .exact .data _ _ (hv.UJ h)):=q
def Af3(q:p:=by
 have AO1:∃n,P.types.size+Made.depth=n+1:=⟨P.types.size+99,rfl⟩
 obtain⟨n,hn⟩:=AO1;rw[hn];simp only[Go.method,Bh,Dk,run_program,Result.andThen_ok,hi,Sem.run_pure,tw,au,follow,QU,hp,if_true];rw[APZ];rfl):=q
def Af4(q:p:=by
 refine zv ?_;refine Gu (G2 zh Rp) ?_;exact fail):=q
def Af5(q:p:=by
 simp only[Ca,resolve,pure_bind,invoke];rw[JA ρ args];rfl):=q
def Af6(q:p:=by
 obtain⟨_,_,_,_⟩:=x;simp only[BE,Item.G0];omega):=q
def Af7(q:p:=by exact HB rfl rfl rfl ⟨rfl,_,rfl⟩):=q
def Af8(q:p:=by
 intro IH a w m t f Jg he ht dY hr Kr hd;refine hQ m a w he ?_ ?_ hd
 .exact hr.congr λb=>by rw[ht,xi Jg (RQ b)]
 .refine⟨Kr.size,λx=>?_⟩;have:=Kr.get x;rw[dY,xg Jg II SI]at this;exact this):=q
def Af9(q:p:=by
 obtain⟨f,s1,nm,tk,tl,i,m,G9,HI,rfl,hw,h2,h3⟩:=h;exact hk f s1 nm tk tl i m G9 HI a' e' b' n' hw h2 h3):=q
def AfA(q:p:=by exact Jo (G8.HJ _)):=q
def AfB(q:p:=by exact HU h0 Ss rfl):=q
def AfC(q:p:=by exact HU hj HV rfl):=q
def AfD(q:p:=by exact JN rfl XA Hh.SS):=q
def AfE(q:p:=by exact G2 zh hr0):=q
def AfF(q:p:=by exact Jo (BO _)):=q
def AfG(q:p:=by exact Zg AA AA TN):=q
def AfH(q:p:=by exact JN h2 ho Hi):=q
def AfK(q:p:=by
 simp only[Bk,decide_eq_true_eq,BX,beq_iff_eq]at h9;exact Zq h9 JU):=q
def AfM(q:p:=by
 intro i;unfold EE;rw[List.mem_filter,D7];constructor
 .rintro⟨hi,h⟩;have ho:ops[i]?=some ops[i]:=Bv hi;rw[ho]at h;simp only[Option.map_some,Option.getD_some,Bk,DO]at h;refine⟨_,ho,?_,?_⟩
  .have:=h.1;simp only[CC]at this⊢;rw[Bv AA]at this⊢;simpa using this
  .intro e he hb;have:=h.2;rw[DP]at this;have:=this e AcV;rw[hb]at this;simpa using this
 .rintro⟨o,ho,h1,h2⟩;have hi:i<ops.size:=(B4.1 ho).1;refine⟨hi,?_⟩;rw[ho];simp only[Option.map_some,Option.getD_some,Bk,DO];refine⟨?_,?_⟩
  .simp only[CC]at h1⊢;rw[Bv AA]at h1⊢;simpa using h1
  .rw[DP];intro e he;cases hb:C7 .any e with
   |false=>rfl
   |true=>have:=h2 e AcV hb;simpa using this):=q
def AfO(q:p:=by
 refine K5 hL AA rfl ha λe' b' he=>?_;refine zv ?_;refine HB AdY rfl rfl ⟨_,_,_,_,rfl,_,_,_,_,_,_,_,_,_,rfl,PI,Rz hL ha he⟩):=q
def AfP(q:p:=by exact(HR h).elim):=q
def AfQ(q:p:=by cases hx;cases hy;simp at h;subst h;simp[Cx,Bb hu]):=q
def AfR(q:p:=by
 rw[dY];refine kN VI hD II SI (λk hk hw=>?_) λk hk mb hw=>?_
 .have Ld:ops[k]?=some ops[k]:=Bv AA;rcases K.AAO k i _ o hk Ld ho with h|h
  .exact Wx k h
  .rw[show ops.toList[k]?=some ops[k] by simp]at hw;exact Zq hx ((N0 h).1 x hw).1
 .have Ld:ops[k]?=some ops[k]:=Bv mb;rcases K.AAO i k o _ hk ho Ld with h|h
  .exact T4 k hk mb h
  .rw[show ops.toList[k]?=some ops[k] by simp]at hw;exact Zq hx ((N0 h).2 x hw)):=q
def AfS(q:p:=by
 refine zv ?_;refine K5 hL AA rfl ha λe' b' he=>?_;refine HB rfl rfl rfl ⟨_,_,_,_,rfl,rfl,⟨_,rfl⟩,Ov hL ha he⟩):=q
def AfT(q:p:=by have:=Ot h9;rw[BX]at this;omega):=q
def AfU(q:p:=by
 by_cases e:k=i
 .subst e;rw[Ps ⟨by rw[yp];simp,hw⟩]
 .rw[Ng,ih AA AA];rintro⟨h3,h4⟩;rw[yp,T8 k AA AA hw h4]at h3;simp at h3;omega):=q
def AfV(q:p:=by
 obtain⟨inf,ma⟩:=DK.1 Jg.1;refine⟨(f.offset,inf.size)::ps,?_,?_⟩
 .have N1:(En f.type).run P w=.ok inf.size w:=H0 (by simp[ND,ma]) w;simp only[List.mapM_cons,Bh,N1,Result.andThen_ok,Sem.run_pure];rw[h1];rfl
 .intro i f' s hf hs;cases i with
  |zero=>simp at hf;subst hf;simp[ND,ma]at hs;simp[hs]
  |succ i=>simp at hf;simpa using h2 i f' s hf hs):=q
def AfW(q:p:=by
 subst hde
 have yy:∀ds,bj Iw m w ds->∀d∈ds,∃r,d.target=.collected r/\r<w.heap.size:=by
  intro ds
  induction ds with
  |nil=>intro _ d hd;cases hd
  |cons d0 ds ih=>
   rintro⟨⟨r,rfl,_,h3,_,_⟩,KT⟩ d hd;rcases Bz.1 hd with rfl|hd
   .exact⟨r,rfl,(B4.1 h3).1⟩
   .exact ih KT d hd
 obtain⟨r,VJ,hr2⟩:=yy _ hd _ hd';simp only[Fv]at VJ;omega):=q
def AfX(q:p:=by
 exact Ho (v:=I (i+1:Nat)) (by
  show some (PVI (IntKind.i64.wrap _))=_;rw[Hr AA AA];simp)):=q
def AfY(q:p:=by
 intro hn k hk;by_cases oY:k<n
 .exact ihn k oY AA k (Bd _)
 .have:k=n:=AA;subst this;cases hc:IH.getD k false with
  |true=>rfl
  |false=>
   have ho:ops[k]?=some ops[k]:=Bv hn
   have:k∈EE .any ops IH:=(mh k).2 ⟨_,ho,hc,λe he hb=>by
    have:=K.yR k _ ho e he hb;exact ihn e.on this AA e.on (Bd _)⟩
   rw[APR]at this;cases this):=q
def AfZ(q:p:=by refine HB AdY rfl rfl ⟨_,_,_,_,rfl,hQ _ _ _ _ _ ⟨f,s1,nm,tk,tl,i,m,G9,HI,rfl,hw,ha,C3 _⟩⟩):=q
def Afa(q:p:=by
 refine⟨⟨h6.set hB (g:=gk) rfl _ _,?_⟩,?_⟩
 .have h8:=B.out.1.r.mono AF4;rw[Bx T9,<- CN]at h8;have h9:=Rows.wx (c:=c) h8 hdr;rw[<- fc T9 c,<- CN];have hl9:(dn++(l0.take d).map λv=>v.on c).length=dn.length+d:=by simp;omega
  rw[hl9]at h9;exact h9
 .by_cases hgg:gc=gn
  .rw[hgg];exact hk6
  .rw[vY gc hgg];exact B.out.2):=q
def Afb(q:p:=by
 rw[Ng,ih AA AA];rintro⟨h3,h4⟩;by_cases e':k=i
 .subst e';rw[hD]at h3;cases h3
 .rw[T8 k AA AA h4]at h3;cases h3):=q
def Afc(q:p:=by
 simp at h;subst h;refine⟨.agg (cs.extract off (off+n)),by simp[part,KE PM,H0 hs],?_⟩;have:=VR.agg (m:=m) _ _ ((hl.drop off).take n)
 have e:(List.take n (List.drop off cs.toList)).toArray=cs.extract off (off+n):=by
  apply Array.ext';simp[FN,List.extract_eq_take_drop]
 rw[e]at this;exact this):=q
def Afd(q:p:=by
 intro IH a w m t f hs hl fC he ht dY hr Kr hd;have Jg:=iN hl;refine⟨?_,bM IH a w m t f Jg he ht dY hr Kr hd⟩;unfold EE;rw[List.filter_eq_nil_iff];intro i hi;have VI:=D7.1 hi;have:=Jg i VI
 have h2:IH.getD i true=true:=by
  simp only[CC]at this⊢;rw[Bv AA]at this⊢;simpa using this
 simp[h2]):=q
def Afe(q:p:=by
 show(do let d<-CQ (.func (.func f) #[] #[]) (args.toList.map a.eval).toArray;Ev d.target d.args:Sem Fm).run P w=_;simp only[CQ,pure_bind,Ev];simp):=q
def Aff(q:p:=by
 refine zv ?_;exact Mc (KN 0 1 _ _ _ _) rfl rfl rfl rfl rfl λK3=>Pl hL h5.1 (G9:=[.mk f1 s1 wO xH xI i1 m1 SJ Nx]) AfG (wl1 AA) rfl rfl rfl):=q
def Afg(q:p:=by
 obtain⟨r,c,I5,rfl,rfl⟩:=this;exact I5):=q
def Afh(q:p:=by
 refine zv ?_;refine JG zh ?_;refine AWH ?_ λh9=>?_
 case refine_2=>simp[he]at h9;omega
 refine zv ?_;refine pQ_v Adh ?_;refine Gu (OD t.cut) ?_;refine Gz I5 (Lh rfl) rfl AdX rfl ?_;simp only[Hu,NN];refine zv ?_;rw[OA];exact ih _ e1 a1 bs _ AA AA AA (h.ck e1 a1)):=q
def Afi(q:p:=by
 intro n hn
 have hw:IntKind.i64.wrap (n:Int)=if(n:Int)%18446744073709551616>=9223372036854775808 then(n:Int)%18446744073709551616-18446744073709551616 else(n:Int)%18446744073709551616:=by
  simp[IntKind.wrap,IntKind.bits,IntKind.signed]
 rw[hw];split<;>omega):=q
def Afj(q:p:=by
 refine zv ?_;refine Pw AA rfl λe' a' he=>?_;refine HB rfl rfl rfl ⟨_,_,rfl,rfl,λh=>Zq h he⟩):=q
def Afk(q:p:=by
 simp only[Gr.It,Bz,Bg,h.gp,h.bo,h.ba]at hb⊢;rcases hb with h1|h1|h1|h1
 .exact .inl (.inl h1)
 .exact .inl (.inr (.inl h1))
 .exact .inl (.inr (.inr (.inl h1)))
 .rcases h.Hm b h1 with h2|h2
  .exact .inl (.inr (.inr (.inr h2)))
  .exact .inr h2):=q
def Afl(q:p:=by
 refine⟨1,λhp Ou Jw=>?_⟩;show KX _ _ _ _ _ _ _ _;unfold KX;refine zv ?_;refine Gw Ado λh=>?_;unfold Pb;refine Ib hL rfl ha λa9 e9 b9 h9=>?_;have hl9:=h9.le ha;exact I3 (NW 0 1 _ _ _ _) rfl rfl rfl rfl λK3=>Vl hL h9.1 (G6:=l) rfl rfl h20 AA AA Jw):=q
def Afm(q:p:=by
 rw[CT AA]at hU;simp only[nX,CL]at hU;subst hU;refine⟨1,λb eo s hx h2 ho hl=>?_⟩;show S6 _ _ _ _ _ _ _ _;unfold S6;refine zv ?_;refine AWI (λh9=>?_) ?_
 .have:=Ot h9;rw[mc]at this;omega
 .unfold lG;refine zv ?_;exact HB rfl AfH rfl ⟨rfl,rfl⟩):=q
def Afn(q:p:=by
 by_cases e:k=i
 .subst e;rw[Ng AH,Ng AH]
 .have:D' k=D k:=by rw[yp];simp[e]
  rw[this]):=q
def Afo(q:p:=by
 refine⟨i,1,AA,AA,?_,?_⟩
 .intro x hx;have:i.toNat=t.size:=AA;rw[this]at hx;simp at hx
 intro e n Q dd w97 v s hw;show Oy _ _ _ _ _ _ _ _ _ _;unfold Oy;refine zv ?_;cases h:decide (i<↑t.size)
 .refine zv ?_;exact hw
 .exact Zq (Ot h) AA):=q
def Afp(q:p:=by exact HB rfl rfl hs (hQ _ _)):=q
def Afq(q:p:=by
 rcases Bg.1 hx with hx|hx
 .exact hw x hx
 .rw[CS.1 hx];exact Uu):=q
def Afr(q:p:=by
 refine zv ?_;refine HB AdY rfl rfl ⟨_,_,_,_,rfl,f,s1,nm,tk,tl,i,m,G9,HI,rfl,hw,Me,pg⟩):=q
def Afs(q:p:=by
 refine AVt I5 rfl rfl AdX rfl ?_;refine HB rfl rfl AeE (hQ _ _ [] AD AD λh=>Zq h h2)):=q
def Aft(q:p:=by
 obtain⟨g1,g2⟩:=(ZB x hx).sl hs;have hxe:x.e.WF:=by cases hw x hx with|mk _ _ _ _ _ h2 _ _=>exact h2
 exact⟨λw hw=>hMS w (g1 w hw),jw AA TZ hxe g2 (by
  have:=hwx x hx;obtain⟨_,_,_,_⟩:=x;simp only[BE]at this;simp only[Item.e];omega)⟩):=q
def Afu(q:p:=by have:=Zy h9;rw[BX]at this;omega):=q
def Afv(q:p:=by
 obtain⟨rfl,rfl⟩:=IS h2;exact hQ m1 a1 w1 e1 r1 UN d1):=q
def Afw(q:p:=by
 refine zv ?_;refine K5 hL AA rfl ha λe' b' he=>?_;refine HB rfl rfl rfl ⟨_,_,_,_,rfl,rfl,⟨_,rfl,AA,AA⟩,Ov hL ha he⟩):=q
def Afx(q:p:=by simpa using this):=q
def Afy(q:p:=by
 refine zv ?_;refine⟨?_,?_⟩
 .exact zc
 refine zv ?_;exact HB rfl rfl rfl hQ):=q
def Afz(q:p:=by
 refine⟨1,λeo s hx h2 ho hl=>?_⟩;show WX _ _ _ _ _ _ _ _;unfold WX;refine zv ?_;refine AWI (λh9=>?_) ?_
 .have:=Ot h9;rw[mc]at this;omega
 .unfold lF;refine zv ?_;exact HB rfl AfH rfl ⟨rfl,U,rfl,AA,hUS⟩):=q
def Ag(q:p:=by simpa using hk):=q
def Ag0(q:p:=by
 have:C5 b s.next=false:=by
  cases h:C5 b s.next with
  |false=>rfl
  |true=>exact Zq ((dq _ _).1 h) hb
 rw[this];simp[hb]):=q
def Ag1(q:p:=by
 split at h
 .rename_i NL SG;simp at h;obtain⟨rfl,rfl⟩:=h;exact aR AdV λt _ PM=>by simp only[Aw,PM,Jw,SG]
 .cases h):=q
def Ag2(q:p:=by
 refine zv ?_;refine HB AdY rfl rfl ⟨_,_,_,_,rfl,1,0,_,_,_,_,0,[],_,rfl,Uy AA (hL.tk _ ha),by rw[hs];exact Me,wl0 Ab9⟩):=q
def Ag3(q:p:=by
 rename_i PM;obtain⟨v,hv,ZE⟩:=hl.get h;exact⟨v,by simp[part,KE PM];rw[show cs[off]?=some v by simpa using hv];rfl,ZE⟩):=q
def Ag4(q:p:=by
 simp only[CQ,pure_bind,invoke,Array.empty_append,Instr.yield,Fp,Bh,JU,Result.andThen_ok,Sem.run_pure];rw[Ng AcT];rfl):=q
def Ag5(q:p:=by
 unfold AAp;refine zv ?_;have hj:j.toNat=l.length:=AA;rw[hj,DG]at hd;refine HB rfl (JN rfl XA Hi) rfl ⟨rfl,by rw[hd]⟩):=q
def Ag6(q:p:=by
 cases hA with|cons _ v _ l' h5 h6=>
  cases h6;cases h5 with
  |data _ _ h7=>cases h7
  |G5 i B hi=>simp at hi;rw[hi]):=q
def Ag7(q:p:=by exact .slice _ _ _ _ _ _ _ _ _ hm AA Ads Ad9):=q
def Ag8(q:p:=by
 simp only[bS]at h;split at h
 .cases h
 .rename_i hb;simp at h;subst h;exact⟨_,by simp[Di,Op.shift,hb],.int _ _⟩):=q
def Ag9(q:p:=by
 refine zv ?_;exact HB AeT rfl rfl ⟨rfl,N,_,rfl,hw,λ_=>hn rfl⟩):=q
def AgA(q:p:=by
 have ho:Oh f o=Oh g o:=by
  cases o with
  |tmp t=>simp only[Oh,h t (by simp[UI])]
  |_=>rfl
 have hr:Ly f r=Ly g r:=Qt λx hx=>h x (by
  unfold UI at hx⊢;cases o<;>simp_all)
 simp only[Ly,ho,hr]):=q
def AgB(q:p:=by
 exfalso
 have tv:bs[i]?=some st.next:=by
  have:=C0.1 Abi;obtain⟨H5,heq,_⟩:=this;rw[BZ H5];simpa using heq
 obtain⟨B,a1,a2⟩:=g3 i _ tv;obtain⟨cs,Jw,_⟩:=hr.Se _ _ a2;rw[this]at Jw;cases Jw):=q
def AgC(q:p:=by
 refine⟨1,λhp o1=>?_⟩;show Qj _ _ _ _ _ _ _;unfold Qj;refine zv ?_;refine Gw Ado λh=>?_;refine zv ?_;refine HB rfl (JN rfl XA NG) rfl ⟨_,_,_,_,rfl,hQ _ _ _ _ AA (λh=>Zq h he) ha (C3 _)⟩):=q
def AgD(q:p:=by exact⟨r,by simp only[Bh,hg,Result.andThen_ok,h1],h2⟩):=q
def AgE(q:p:=by
 unfold AAq;refine HB rfl rfl hs ⟨rfl,?_⟩
 have:Mf S w=false:=by
  cases hh:Mf S w
  .rfl
  .obtain⟨x,hx,he⟩:=SF.1 hh;obtain⟨j,hj,rfl⟩:=By hx;exact Zq he (RT j hj AA)
 rw[this]):=q
def AgF(q:p:=by
 by_cases c:x=b
 .rw[Ps c]at US;cases US;exact .inl ⟨c,rfl⟩
 .rw[Ng c]at US;exact .inr ⟨c,US⟩):=q
def AgG(q:p:=by
 refine⟨1,λhp Ou Jw=>?_⟩;show Li _ _ _ _ _ _ _ _;unfold Li;refine zv ?_;refine Gw Ado λh=>?_;exact I3 (NQ 0 1 _ _ _ _) rfl rfl rfl rfl λK3=>R0 hL ha (G0:=l) rfl rfl hw II hW hP Jw):=q
def AgH(q:p:=by
 simp only[Ly]at he;split at he
 .rename_i x hx;split at he
  .rename_i l hl;simp only[Ba]at he;subst he;exact .cons _ _ _ _ (QJ h hx) (RN h hl)
  .cases he
 .cases he):=q
def AgI(q:p:=by
 refine zv ?_;refine pQ_v Aek ?_;refine Gu (IM hr8) ?_;exact fail):=q
def AgJ(q:p:=by
 split at h
 .rename_i x hx;simp at h;obtain⟨rfl,rfl⟩:=h;exact fM (rd:=[b]) (λb' hb=>by simp at hb;subst hb;rw[Jw];simp) λt _ PM=>by simp only[Aw,PM b AD,Jw,hx]
 .cases h):=q
def AgK(q:p:=by
 have:=C0.1 Abi;obtain⟨H5,heq,_⟩:=this;rw[BZ H5];simpa using heq):=q
def AgL(q:p:=by
 simp only[DC,Bh,run_program,Result.andThen_ok,QU,hn,Ch,if_false,mX,Option.isNone_some];rfl):=q
def AgM(q:p:=by cases hv with|cons _ u _ _ _ h2=>cases h2 with|cons _ v _ _ _ h3=>cases h3;exact⟨u,v,rfl⟩):=q
def AgN(q:p:=by
 simp[Aw]at h;obtain⟨rfl,rfl⟩:=h;exact aQ λt ht=>by simp[Aw,ht]):=q
def AgO(q:p:=by
 refine⟨1,λhp o1=>?_⟩;show Qi _ _ _ _ _ _ _;unfold Qi;refine zv ?_;refine Gw (λh=>?_) Ado;refine zv ?_;refine HB rfl Aex rfl ⟨_,_,_,_,rfl,hQ _ _ _ _ _ hw II ha (C3 _)⟩):=q
def AgP(q:p:=by
 refine⟨1,λhp o1=>?_⟩;show Ql _ _ _ _ _ _ _ _;unfold Ql;refine zv ?_;refine Gw Ado λh=>?_;refine zv ?_;refine HB rfl AfD rfl ⟨_,_,_,_,rfl,hQ _ _ _ _ _ hw II ha (C3 _)⟩):=q
def AgQ(q:p:=by exact HB rfl rfl hs ⟨rfl,_,rfl⟩):=q
def AgR(q:p:=by
 obtain⟨g1,g2⟩:=(ZB x hx).sl hs;have hxe:x.e.WF:=by cases hw x hx with|mk _ _ _ _ _ h2 _ _=>exact h2
 exact⟨ff hU hB hN vN hNt AA hVw hxe g2,λw hw=>hMS w (g1 w hw)⟩):=q
def AgS(q:p:=by
 refine zv ?_;refine HB AdY rfl rfl ⟨_,_,_,_,rfl,f,s1,nm,tk,tl,i,m,G9,HI,rfl,hw,oE,pg⟩):=q
def AgT(q:p:=by
 cases b
 .refine zv ?_;exact hk
 .refine zv ?_;exact hk):=q
def AgU(q:p:=by exact HB rfl rfl AdX ⟨_,_,rfl,rfl⟩):=q
def AgV(q:p:=by
 simp only[Dq,Et];rw[run_equalIn_struct w 9999 t us.toArray vs.toArray (by rw[hfs];exact hu) c1,hfs];exact Qs (by simpa using hxs) (by simpa using hys) 9998 w h):=q
def AgW(q:p:=by
 intro k hk Jr j hj;rw[hgd]at Jr⊢;rw[DU]at Jr⊢;rcases Jr with h|h
 .exact .inl (fC k hk h j hj)
 .have:k=i:=by simpa using h
  subst this;exact .inl (Wx j hj)):=q
def AgX(q:p:=by
 intro j hj;obtain⟨e,he,hb,hj⟩:=yB jb (λe he hb=>K.yR i o ho e he hb) hj;have PN:=yw e he hb;rcases hj with rfl|hj
 .exact PN
 .exact fC e.on AcW PN j hj):=q
def AgY(q:p:=by
 split at y5
 .rename_i f hf;split at y5
  .rename_i s hs;simp at y5;subst y5;simpa using h2 i f s (by simpa using hf) hs
  .cases y5
 .cases y5):=q
def AgZ(q:p:=by
 refine pQ_v AeF ?_;exact SE Rp hQ Ld (h.ty u)):=q
def Aga(q:p:=by
 refine⟨1,λhp=>?_⟩;show Tw _ _ _ _ _ _ _;unfold Tw;refine zv ?_;refine AWI (λh=>?_) ?_
 .have:=Ot h;omega
 .unfold jm;refine HB rfl rfl rfl ⟨rfl,_,rfl⟩):=q
def Agb(q:p:=by
 rcases Rk hd with h1|h1
 .exact .inl h1
 .simp only[Ba]at h1;subst h1;rcases a4 with⟨h,_⟩|⟨_,h,_⟩
  .exact .inl (B6.2 ⟨_,mg,h⟩)
  .exact .inr AA):=q
def Agc(q:p:=by
 rename_i l;split at h
 .rename_i k hk;simp at h;subst h;cases hv with
  |data _ _ hd=>cases hd
  |tuple _ l' hl=>exact .tuple _ _ (gD hl hk)
 .cases h):=q
def Agd(q:p:=by exact key _ ⟨zh,zh,zh,by simp only[Hj,Hz,I4,Ni,Lu,CG,List.length_nil];omega⟩ zh):=q
def Age(q:p:=by
 rw[h1,h2,h3,h4]at hc;rw[hr,hc]at I5;exact I5):=q
def Agf(q:p:=by
 rw[Ng (MT x B hx)]at d;rw[Ng (MT x' B US)]at d';exact hr.M3 x x' B hx US d d'):=q
def Agg(q:p:=by
 rcases pY with h|h
 .exact .inl h
 .by_cases iF:r.nv=1
  .exact .inr (.inr iF)
  .rw[Sf iF]at h;simp only[cond_false]at h;right;left;omega):=q
def Agh(q:p:=by
 obtain⟨r,c,I5,rfl,w,rfl⟩:=this;exact⟨w,I5⟩):=q
def Agi(q:p:=by
 rw[ME rfl g1];exact Ht g2 g3 g4):=q
def Agj(q:p:=by
 obtain⟨a1,Me⟩:∃a1,JX[j-len*i.size]?=some a1:=⟨JX[j-len*i.size]' AA,by rw[BZ]⟩
 obtain⟨u1,hu1,hv1⟩:=hn.get Me;exact⟨a1,u1,Me,hu1,hv1.mono hle⟩):=q
def Agk(q:p:=by
 rw[Tm]at hw;split at hw
 .rcases Bg.1 hw with hw|hw
  .exact h.rng _ _ hw
  .simp only[CS]at hw;rw[hw,h1];omega
 .exact h.rng _ _ hw):=q
def Agl(q:p:=by
 refine zv ?_;refine JG zh ?_;refine AWH ?_ λh9=>?_
 case refine_2=>simp[he]at h9;omega
 exact⟨k2,Jr 0 e a s AA AA (Int.le_of_eq AcH) h⟩):=q
def Agm(q:p:=by
 intro r hr;obtain⟨v,_,rfl⟩:=B8.1 hr;rfl):=q
def Agn(q:p:=by
 intro x hx;obtain⟨q,hq,si⟩:=By hx;have h1:=PJ hq;have h2:As l=As (l.take q)+As (l.drop q):=by rw[<- Item.Io,CP]
 rw[si]at h1;omega):=q
def Ago(q:p:=by
 obtain⟨cs,hc⟩:=hr.Se x B hx;refine⟨cs,?_⟩;rw[Ng (MT x B hx)];exact hc):=q
def Agp(q:p:=by
 rcases a4 with⟨h,_⟩|⟨h,h2,_⟩
 .exact .inl h
 .refine .inr ⟨h,λhm=>?_⟩;obtain⟨q,hq,hqc⟩:=B6.1 hm;have:=HT hf (ZC hq hqc);omega):=q
def Agq(q:p:=by
 refine Gu Ade ?_;refine cf ?_;exact Ls rfl (hW s g (.refl hf hg) rfl)):=q
def Agr(q:p:=by
 refine zv ?_;exact HB AeT rfl rfl ⟨rfl,N,false,rfl,hw,λh=>by cases h⟩):=q
def Ags(q:p:=by
 refine⟨1,λs=>?_⟩;show WO _ _ _ _ _ _ _ _;unfold WO;refine zv ?_;refine Gw Ad2 λh=>?_;unfold rC;exact HB rfl rfl rfl (hQ _ AA AA)):=q
def Agt(q:p:=by
 show Wg _ _ _ _ _ _ _ _ _;unfold Wg;refine zv ?_;refine JG rfl ?_;refine AWH ?_ λh=>?_
 .exact⟨k2,Jr hp⟩
 .simp[he]at h;omega):=q
def Agu(q:p:=by
 refine zv ?_
 repeat' first
  |exact AJn rfl (λ_ _ h=>h)
  |exact ASi AA h2 rfl (λ_ _ h=>h)
  |(refine AWG ?_ ?_)
  |refine zv ?_):=q
def Agv(q:p:=by
 simp only[bS]at h;split at h
 .cases h
 .rename_i hb;simp only[Ba]at h;subst h;exact⟨_,by simp[Di,Op.shift,hb],.int _ _⟩):=q
def Agw(q:p:=by refine HB rfl rfl rfl ⟨_,_,_,_,rfl,rfl,rfl,rfl,rfl,.inr ⟨rfl,he⟩⟩):=q
def Agx(q:p:=by
 refine⟨.iface t u,?_,.iface _ _ _ hx⟩;simp only[Ef,Bh,Bb hd,Result.andThen_ok];cases d<;>first|rfl|(exact(hn _ rfl).elim)):=q
def Agy(q:p:=by
 simp only[Bk,decide_eq_true_eq,mc,beq_iff_eq]at h9;exact Zq h9 JU):=q
def Ah(q:p:=by simpa using SX):=q
def Ah0(q:p:=by
 refine⟨_,_,m',H4,(Jt.drew m w).trans k1,k2,.LQ _ _ _ _ k3 hge ?_⟩;rw[k4,N1];exact Bd _):=q
def Ah1(q:p:=by
 refine⟨_,by simp[FI,Cu,storeVar,H0 hs,N1,AGC],k1,k2.congr λz=>?_,rfl⟩;simp only[BL,KH]):=q
def Ah2(q:p:=by
 refine zv ?_;refine HB AdY rfl rfl ⟨_,_,_,_,rfl,f,s1,nm,tk,tl,i,m,G9,HI,rfl,Uu,My,AA⟩):=q
def Ah3(q:p:=by
 simp at h;subst h;simp[Aw]at H4;obtain⟨rfl,rfl⟩:=H4;exact Ht (Jt.refl m w) hr (RZ Mi)):=q
def Ah4(q:p:=by
 simp only[hb]at this;exact .inr (.inr ⟨_,this⟩)):=q
def Ah5(q:p:=by
 refine zv ?_;exact⟨zc,ct (next _)⟩):=q
def Ah6(q:p:=by
 obtain⟨r,c,I5,rfl,a,e,rfl⟩:=this;exact⟨a,e,I5⟩):=q
def Ah7(q:p:=by
 refine zv ?_;exact tg hQ h0 ht bO hkm hm hd hc):=q
def Ah8(q:p:=by rw[CV];intro r hr;obtain⟨v,_,rfl⟩:=B8.1 hr;rfl):=q
def Ah9(q:p:=by
 unfold o9;refine HB rfl rfl rfl ⟨rfl, -1,rfl,.inr ⟨rfl,λj n hj hja=>RT j n hj AcG⟩⟩):=q
def AhA(q:p:=by
 exact Ho (v:=.int .i64 n.Hm.length) (by
  show some (Az .i64 (IntKind.i64.wrap _))=_;rw[Hr AA AA];congr 2;omega)):=q
def AhB(q:p:=by
 refine⟨i,1,AA,AA,?_⟩;intro e n Q dd v s hw;show Qe _ _ _ _ _ _ _ _ _;unfold Qe;refine zv ?_;refine Gw Ad2 λ_=>hw):=q
def AhC(q:p:=by
 unfold eqS at h;split at h<;>(try(split at h))<;>first|(cases h;done)|skip
 all_goals(cases hx<;>cases hy<;>simp)):=q
def AhD(q:p:=by
 obtain⟨r,c,hp,rfl,N,ok,rfl,h1,h2⟩:=this;exact⟨N,ok,hp,h1,h2⟩):=q
def AhE(q:p:=by
 refine AVt I5 rfl rfl AdX rfl ?_;refine AWH ?_ (λh9=>Zq AJ OR);refine zv ?_;refine HB rfl rfl AdX (cR _ _ OR)):=q
def AhF(q:p:=by
 rcases Dy.1 pV with h|h
 .exact .inl AE
 .exact .inr Ab2):=q
def AhG(q:p:=by
 unfold AAs;refine HB rfl rfl hs ⟨rfl, -1,rfl,.inr ⟨rfl,λv hv=>?_⟩⟩;obtain⟨j,hj,rfl⟩:=By hv;exact RT j hj AA):=q
def AhH(q:p:=by
 refine zv ?_;exact⟨zc,ct (fin _)⟩):=q
def AhI(q:p:=by
 rw[h1];cases k<;>cases k'<;>simp[KD.QV]at hk<;>(simp only[KD.desc]at hd;subst hd)<;>simp[DN,KD.val,BF,EC]):=q
def AhJ(q:p:=by
 by_cases c:T b=true
 .rw[Ps c]at hb;exact .inl ⟨c,hb⟩
 .rw[Ng c]at hb;exact .inr ⟨by simpa using c,hb⟩):=q
def AhK(q:p:=by
 have:(ops.drop k)[i-k]?=some o:=by rw[Cg,show k+(i-k)=i by omega];exact ho
 rw[<- KT]at this;simp at this):=q
def AhL(q:p:=by
 have:=h.on;unfold Ti at this;split at this
 .rw[this]at hv;simp at hv
 .rename_i b hb;exact⟨b,hb,this⟩):=q
def AhM(q:p:=by
 rw[hm]at h2;refine AbZ h2 ?_;refine HB rfl (JN rfl XA Q8) rfl ⟨_,_,_,_,rfl,hQ _ _ _ _ _ hw II ha (C3 _)⟩):=q
def AhN(q:p:=by
 intro a e b m ha hc;have he:e≠0:=λh=>by have:=P9 ha h;omega
 exact⟨0,[],a,e,b,.dO 0 a e b m he,ha,AD,AD⟩):=q
def AhO(q:p:=by
 rintro e w' ⟨m',v',rfl,h1,h2,h3⟩;exact hK _ _ _ h1 h2 h3):=q
def AhP(q:p:=by
 show QG (.agg _)=_;simp only[QG,dk,this]):=q
def AhQ(q:p:=by simp only[EI,Pp,a0,a1,Bh,Bb hu,Result.andThen_ok,JU,iE,DD,Bb hd,f1,Sem.run_pure,Go.Ab.Nv w B Jf HH g2]):=q
def AhR(q:p:=by
 refine zv ?_;exact I3 (PS 0 1 _ _ _) rfl rfl rfl rfl λK3=>Q5 hL ha (MG:=[]) (.inl ⟨rfl,rfl⟩) AD AD hW):=q
def AhS(q:p:=by
 rw[FF]
 exact UM (by
  have:JT m vs (List.map (ρ∘λx=>x.2) Iv.toList):=by simpa[C6]using Mi
  exact this)):=q
def AhT(q:p:=by
 unfold S1;refine zv ?_;refine AWH ?_ (λh=>Zq LL AcG);refine zv ?_;refine HB wk rfl rfl (hQ [] _ _ AA)):=q
def AhU(q:p:=by
 intro r hr;obtain⟨x,_,rfl⟩:=B8.1 hr;rfl):=q
def AhV(q:p:=by
 by_cases hw:(ops[k]?).bind (·.dst)=some x
 .rw[Ps ⟨vW k AA hw,hw⟩,Ps hw]
 .rw[Ng AH,Ng hw,ih AA]):=q
def AhW(q:p:=by
 simp at hi hv;subst hi;simp only[List.filterMap_cons,hp,CY]at L6;exact Zq (B6.2 ⟨q,Bt hv,hq⟩) L6.1):=q
def AhX(q:p:=by
 simp at hi hv;subst hv;simp only[List.filterMap_cons,hq,CY]at L6;exact Zq (B6.2 ⟨p,Bt hi,hp⟩) L6.1):=q
def AhY(q:p:=by
 cases ok
 .exact vn m
 .exact .tuple _ [zv,.bool false] (.cons _ _ _ _ (vn m) (.one (.bool _)))):=q
def AhZ(q:p:=by
 have h9:=Rows.dr (dJ (K:=K6) c) AcO hk6 (C4 _) (c:=rQ) (by simpa using AFv);rw[BX]at h9;exact h9):=q
def Aha(q:p:=by
 refine zv ?_;refine pQ_v AeL ?_;exact inc _ (QI (ub,uE)) ub uE ⟨zh,zh,zh,h.lt⟩ zh (.inl rfl) hkE):=q
def Ahb(q:p:=by simp only[EI,Pp,a0,a1,Bh,Bb hu,Result.andThen_ok,JU,iE,DD,Bb hd,g1,Sem.run_pure,Nv w B Jf HH Qy]):=q
def Ahc(q:p:=by exact TV (WN 0 1 _ k _ _ _ _ _ _) rfl rfl λK3=>Jr K3):=q
def Ahd(q:p:=by exact HB rfl rfl rfl ⟨rfl,rfl⟩):=q
def Ahe(q:p:=by exact I3 (PS 0 1 _ _ _) rfl rfl rfl rfl λK3=>Q5 hL (BP hL) (MG:=[]) (.inl ⟨rfl,rfl⟩) AD AD AG):=q
def Ahf(q:p:=by
 intro h _;have:i=0:=AA;subst this;rfl):=q
def Ahg(q:p:=by
 obtain⟨rfl,rfl⟩:=IS h;cases hx;exact⟨.int .i64 0,by simp[Dh,Pp,Bb hu,goInt],.int _ _,rfl,rfl⟩):=q
def Ahh(q:p:=by
 refine zv ?_;refine HB rfl rfl rfl ⟨a,e,b,n,rfl,?_,rfl,rfl,rfl,rfl⟩;simp only[VC,h,h1,h2];rfl):=q
def Ahi(q:p:=by rw[Ps c]at hx;cases hx;trivial):=q
def Ahj(q:p:=by
 show(if _ then _ else _)=_;rw[Ps rfl]):=q
def Ahk(q:p:=by
 split at hb
 .rename_i hs;exact⟨hs,hb⟩
 .cases hb):=q
def Ahl(q:p:=by exact I3 (NQ 0 1 _ _ _ _) rfl rfl rfl rfl λK3=>R0 hL (BP hL) (G0:=[]) rfl rfl AD AD AG AG Jw):=q
def Ahm(q:p:=by
 refine zv ?_;refine HB rfl rfl rfl ⟨_,_,_,_,rfl,rfl,⟨_,rfl⟩,?_⟩;rw[QC hL ha];exact Zi Acg he):=q
def Ahn(q:p:=by
 refine⟨k',e1,e2,e3,?_⟩;by_cases c:k'=k
 .subst c;rw[hW0]at e4;omega
 .rw[sZ k' c];exact e4):=q
def Aho(q:p:=by exact I3 (NQ 0 1 _ _ _ _) rfl rfl rfl rfl λK3=>R0 hL (BP hL) (G0:=l) rfl rfl hw II AG AG Jw):=q
def Ahp(q:p:=by
 have hx1:m.Hm x=some y:=hx;obtain⟨n,e,hd⟩:=hr.TR x y hx1;refine⟨n,e,?_⟩;rw[Ng AcY];exact hd):=q
def Ahq(q:p:=by
 obtain⟨_,s5,h9,jD⟩:=I7 h8;obtain⟨rfl,_⟩:=IS jD;rfl):=q
def Ahr(q:p:=by exact I3 (PS 0 1 _ _ _) rfl rfl rfl rfl λK3=>Q5 hL (BP hL) (MG:=l) (.inr ⟨_,rfl⟩) hw II AG):=q
def Ahs(q:p:=by
 have h1:oe [] n.HE<=As n.HE*20000:=my AA;have h2:As n.HE*20000<=20000*20000:=Cf _ AA;omega):=q
def Aht(q:p:=by
 refine a3 d ?_;rintro rfl;rcases a4 with⟨h,_⟩|⟨_,h,_⟩
 .exact hd2 h
 .exact hd (hf d AA)):=q
def Ahu(q:p:=by
 refine zv ?_;refine HB AdY rfl rfl ⟨_,_,_,_,rfl,0,0,⟨#[]⟩,0,0,0,0,[],0,rfl,PI,Rz hL ha he⟩):=q
def Ahv(q:p:=by
 split
 .rename_i he;rw[he]at h;exact h
 .rename_i c he;rw[he]at h;exact(hk c he).trans h):=q
def Ahw(q:p:=by
 obtain⟨v',h1,h2⟩:=fR (cs:=l'.toArray) h AZ w;exact⟨v',by simp[FO,Bb hu,hf,asAgg,h1],h2⟩):=q
def Ahx(q:p:=by
 obtain⟨x,_,rfl⟩:=B8.1 hr;exact x.HJ):=q
def Ahy(q:p:=by
 unfold Zl;refine zv ?_;refine HB Adt rfl rfl (hQ _ _ _ _ _ _ _ (λ_=>⟨AA,AA,AA,rfl,N1⟩))):=q
def Ahz(q:p:=by
 refine Gu (Xd rfl) ?_;exact Ls rfl (hQ0 ⟨x,hxm,by rintro he;rw[he]at h;simp at h⟩ _ _)):=q
def Ai(q:p:=by simp only[Item.G0];omega):=q
def Ai0(q:p:=by cases hC with|cons B0 _ Bs _ _ _ _ _ _ hr=>cases hr;exact⟨B0,rfl⟩):=q
def Ai1(q:p:=by refine HB rfl Aex rfl ⟨_,_,_,_,rfl,hQ _ _ _ _ _ hw II (BP hL) AG⟩):=q
def Ai2(q:p:=by
 refine zv ?_;exact go _):=q
def Ai3(q:p:=by
 rw[this];exact Ht (Jt.refl m w) hr hx):=q
def Ai4(q:p:=by
 simp only[Ba]at h;subst h;cases hv with|data _ _ hd=>cases hd;rfl):=q
def Ai5(q:p:=by
 simp only[builtin,Bh];rw[show[u,v].toArray=#[u,v]from rfl,g1];rfl):=q
def Ai6(q:p:=by
 unfold left;rw[List.countP_eq_length.2 (λk _=>by rw[aw];rfl),ES]):=q
def Ai7(q:p:=by
 by_cases c:q=i
 .subst c;rw[<- uA];exact Uv
 .exact KH q h AA):=q
def Ai8(q:p:=by exact .inl ⟨h1,by show(if _ then _ else _)=_;rw[Ng c];exact h2⟩):=q
def Ai9(q:p:=by
 rcases Bg.1 hx with hx|hx
 .simp at hx
 .rw[CS.1 hx];exact Uu):=q
def AiA(q:p:=by
 unfold o9;refine HB rfl rfl rfl ⟨rfl, -1,rfl,.inr ⟨rfl,λj n hj hja=>RT j n hj AdH⟩⟩):=q
def AiB(q:p:=by
 have:(ops.toList.drop i).drop 1=Jl:=by rw[<- KT];rfl
 rw[D6]at this;exact this.symm):=q
def AiC(q:p:=by
 refine AVt Jh rfl rfl (Lo zh rfl) rfl ?_;refine HB rfl rfl (Lo zh rfl) (cR _ _ ar)):=q
def AiD(q:p:=by
 refine pQ_v Adi ?_;refine Pw AA rfl λe' a' he=>?_;exact HB rfl rfl rfl (cR _ _ he)):=q
def AiE(q:p:=by exact⟨k,hk 0 e a _ AA AA AA ⟨zh,by simp[I4]⟩⟩):=q
def AiF(q:p:=by
 simp only[Bk,decide_eq_true_eq,BX]at h9;omega):=q
def AiG(q:p:=by
 rw[Pp];have:=p2 u;split
 .rename_i hu;subst hu;simp
 .rw[this];simp only;omega):=q
def AiH(q:p:=by
 show(bif Bo x.cells.length 1&&x.cells.all PV.Iu then _ else _)=_;rw[hc];simp[hx]):=q
def AiI(q:p:=by
 rcases a4 with⟨h,_⟩|⟨_,h,_⟩
 .exact Ip dX (ZC mg h) AD
 .have:=HT hf dX;omega):=q
def AiJ(q:p:=by
 rcases a4 with⟨h,_⟩|⟨_,h,_⟩
 .rintro rfl;exact h1 h
 .have:=hg.lt hf hd;omega):=q
def AiK(q:p:=by cases h with|cons _ _ _ _ h1 h2=>cases h2 with|cons _ _ _ _ h3 _=>exact⟨h1,h3⟩):=q
def AiL(q:p:=by exact .inl h1):=q
def AiM(q:p:=by exact .inr AA):=q
def AiN(q:p:=by
 have:(ops.drop k)[0]?=some o:=by rw[<- KT];rfl
 rw[Cg]at this;simpa using this):=q
def AiO(q:p:=by
 refine cf ?_;exact hW s g (.refl hf hg) rfl):=q
def AiP(q:p:=by
 rintro x B hx rfl;obtain⟨o,h1,h2⟩:=hr.Se x B hx;rw[hb]at h1;cases h1;cases h2):=q
def AiQ(q:p:=by
 rcases e2.iM B ks Jr with⟨_,_,_,_,h1⟩|h1|h1
 .cases h1
 .exact h1
 .omega):=q
def AiR(q:p:=by
 refine zv ?_;unfold Pm;refine zv ?_;rw[TN];simp only[fP,hs,hd]at h9;exact h9):=q
def AiS(q:p:=by cases hx;cases hy;exact .slice _ _ _ _ _ _):=q
def AiT(q:p:=by exact Mc (Ml 0 1 _ (Mm 0 1 _ k) _ _ _) rfl rfl rfl rfl rfl λK3=>hk K3 Ou Jw):=q
def AiU(q:p:=by exact⟨Kt,_,_,rfl,by rw[II,XB.out];first|exact At.out|(rw[BX];exact At.out)⟩):=q
def AiV(q:p:=by
 have:(ops.drop k).drop 1=Jl:=by rw[<- KT];rfl
 rw[D6]at this;exact this.symm):=q
def AiW(q:p:=by
 obtain⟨r,c,I5,rfl,b,rfl⟩:=this;exact⟨b,I5⟩):=q
def AiX(q:p:=by
 rintro rfl;rcases a4 with⟨h,_⟩|⟨_,h,_⟩
 .exact h2 (B6.2 ⟨_,mg,h⟩)
 .omega):=q
def AiY(q:p:=by
 rw[hs];exact h4 e n Q dd v s hw):=q
def AiZ(q:p:=by
 show(bif Bo l.length l.length&&l.all PV.Iu then _ else _)=_;rw[hx];simp;rfl):=q
def Aia(q:p:=by
 have:=h.Hm p hp;unfold LK at this;rw[hb]at this;exact .inr (.inr ⟨_,this⟩)):=q
def Aib(q:p:=by
 rw[XP,Bh];simp only[map_eq_pure_bind,Bh,q1,Result.andThen_ok,Sem.run_pure]):=q
def Aic(q:p:=by refine HB rfl rfl rfl ⟨_,_,rfl,hQ _ _ λhe=>⟨he,λq hq hjq=>Zq ⟨AA,he⟩ JU⟩⟩):=q
def Aid(q:p:=by
 rw[<- Array.toArray_toList (xs:=NH),List.mapM_toArray,Sem.run_map,h1];rfl):=q
def Aie(q:p:=by
 simp only[if_true,Nat.sub_self,List.getD_cons_zero];rw[Ng AA,g1];exact h1):=q
def Aif(q:p:=by exact T4 k hk mb h):=q
def Aig(q:p:=by
 refine zv ?_;refine AYj (aP f) ?_;exact Gw (λ_=>yes) λ_=>next e a s hK h):=q
def Aih(q:p:=by rw[CH,BZ AA];rfl):=q
def Aii(q:p:=by
 rw[dif_neg AD];exact .tuple _ _ (.cons _ _ _ _ h1 (.cons _ _ _ _ h3 h4))):=q
def Aij(q:p:=by
 by_cases c:x=b
 .rw[(Ff ..).mpr c,Ps c];rfl
 .rw[Go.Ab.Sf c,Ng c];rfl):=q
def Aik(q:p:=by
 by_cases e:t=d
 .rw[Ps e,Ps e];exact hv
 .rw[Ng e,Ng e];exact h.get t):=q
def Ail(q:p:=by exact HB rfl rfl hs ⟨rfl,_,rfl,AA,AA,AA⟩):=q
def Aim(q:p:=by exact I3 (Ml 0 1 _ (Mm 0 1 _ k) _ _ _) rfl rfl rfl rfl λK3=>hk K3 Ou Jw):=q
def Ain(q:p:=by
 have:k<xs.length:=AA;simp only[this,if_true,Ba]at hz;subst hz;rw[Ps AA]):=q
def Aio(q:p:=by
 refine zv ?_;exact AAW hQ h0 ht bO hk hc):=q
def Aip(q:p:=by
 refine zv ?_;exact AHu hQ h0 ht bO hk hc):=q
def Aiq(q:p:=by
 simp only[builtin,Bh];rw[show[cv,cv2].toArray=#[cv,cv2]from rfl,g1];rfl):=q
def Air(q:p:=by
 by_cases c:b∈fp
 .have:=(Xr b c).1;omega
 .rw[NB c AA];exact hf b AA):=q
def Ais(q:p:=by
 have:=h.on;unfold Ti at this;rw[hb]at this;exact .inr (.inl ⟨hb,this⟩)):=q
def Ait(q:p:=by
 rw[h]at this;simp only[Option.map_some,Ba,CM]at this;exact⟨i,rfl,this⟩):=q
def Aiu(q:p:=by simp only[Instr.takeDeferred,Bh,JU,Result.andThen_ok,ml,Sem.run_pure]):=q
def Aiv(q:p:=by refine HB rfl rfl rfl ⟨_,_,rfl,hQ _ _ λhe=>⟨he,λq hq hjq=>by omega⟩⟩):=q
def Aiw(q:p:=by
 have:=hTS b ht (by rw[h2];simp);simp only[jR,this,if_true];exact hb):=q
def Aix(q:p:=by
 refine zv ?_;refine HB Adt rfl rfl (hQ _ _ _ _ _ _ _ (λh=>Zq h AA))):=q
def Aiy(q:p:=by exact Ht (Jt.refl m w) hr h2):=q
def Aiz(q:p:=by
 rw[TY rfl g1];exact SM g2 g3):=q
def Aj(q:p:=by rw[show(V++Gx).map Ap=V.map Ap++Gx.map Ap from Br];exact n3 t ht):=q
def Aj0(q:p:=by
 simp[he]at h9;omega):=q
def Aj1(q:p:=by cases h with|cons _ _ _ _ h1 h2=>exact⟨h1,Xn h2⟩):=q
def Aj2(q:p:=by exact HB AdY rfl AdX (hQ _ _ _ ⟨false,E,rfl,AA⟩)):=q
def Aj3(q:p:=by exact this N AA (Bd _)):=q
def Aj4(q:p:=by
 obtain⟨r,c,I5,rfl,r',rfl,h⟩:=this;exact⟨r',I5,h⟩):=q
def Aj5(q:p:=by exact Ht (Jt.refl m w) hr g2):=q
def Aj6(q:p:=by
 refine zv ?_;rw[OA];exact ih _ e a s AA AA AA h):=q
def Aj7(q:p:=by rename_i hd;simp at h;subst h;simp[isAgg,Bb hd]):=q
def Aj8(q:p:=by simp only[Cm,hs,g1,show i+1+j=i+(j+1) by omega]):=q
def Aj9(q:p:=by
 obtain⟨q,hq,rfl⟩:=By hx;exact(Ld he).2 q hq AA):=q
def AjA(q:p:=by
 rw[CC,Array.getElem?_append_right AB];simp only[Dx];split<;>rfl):=q
def AjB(q:p:=by
 show(IC[b]?).map BD=none;have Py:IC.length<=b:=hb;rw[CA Py];rfl):=q
def AjC(q:p:=by
 simp only[Bk,decide_eq_true_eq,BX,beq_iff_eq]at h;exact Zq h JU):=q
def AjD(q:p:=by
 simp only[builtin,Bh];rw[show[cv].toArray=#[cv]from rfl,g1];rfl):=q
def AjE(q:p:=by
 obtain⟨a1,v1,y1,y2,y3⟩:=yr j AA;exact⟨a1,v1,y1,y2,y3.mono hle⟩):=q
def AjF(q:p:=by
 obtain⟨k,e1,hc⟩:=hr.TR x y h1;exact⟨k,e1,by rw[Ng c];exact hc⟩):=q
def AjG(q:p:=by
 split
 .unfold Kh;rfl
 .rename_i c he;unfold Kh;exact h c he):=q
def AjH(q:p:=by
 refine zv ?_;exact HB AdY rfl AdX (hQ _ _ _ ⟨true,[],rfl,AD⟩)):=q
def AjI(q:p:=by
 simp only[Ba]at hi;subst hi;show _=_;rw[Ar hbc.symm];exact a2):=q
def AjJ(q:p:=by refine HB rfl rfl rfl ⟨_,_,_,_,rfl,rfl,rfl,rfl,rfl,.inl rfl⟩):=q
def AjK(q:p:=by rw[<- e];exact h1 i (Bd _)):=q
def AjL(q:p:=by rw[Ng AH,ih AA,RQ k AA hw]):=q
def AjM(q:p:=by
 obtain⟨ds,hd⟩:=hr.Se x B' hx;exact⟨ds,by rw[Ng c];exact hd⟩):=q
def AjN(q:p:=by
 obtain⟨rfl,rfl⟩:=IS h;exact Ht (Jt.refl m w) hr (RZ Mi rfl)):=q
def AjO(q:p:=by
 rcases Bg.1 hv with hv|hv
 .exact h4 v hv
 .exact g4 v hv):=q
def AjP(q:p:=by
 by_cases e:x=d
 .rw[Ps e,Ps e.symm]
 .rw[Ng e,Ng (ER e)]):=q
def AjQ(q:p:=by
 unfold R7;refine zv ?_;rw[OA];exact ih _ _ s AA AA AA h hb):=q
def AjR(q:p:=by
 obtain⟨k,hk⟩:=wX l.length;exact⟨k,hk 0 e a _ AA AA AA zh⟩):=q
def AjS(q:p:=by
 refine Gu Ade ?_;refine cf ?_;exact hW s os hS (.refl hf)):=q
def AjU(q:p:=by simpa using this.symm):=q
def AjV(q:p:=by exact⟨_,by simp[Dh,Pp,Bb hu,goInt],.data _ _ (.int _ _)⟩):=q
def AjW(q:p:=by refine HB Aet rfl rfl ⟨rfl,[],_,_,rfl,AD,AD,by simp[A8]⟩):=q
def AjX(q:p:=by
 split at hj
 .rw[Cg]at hj;exact eh hr Jr hj
 .cases hj):=q
def AjY(q:p:=by cases hx;cases hy;exact .map _ _):=q
def AjZ(q:p:=by
 refine zv ?_;refine HB rfl rfl AdX (hQ _ _ T hT hTy id)):=q
def Aja(q:p:=by simp[Array.eraseIdxIfInBounds,hj,Array.toList_eraseIdx]):=q
def Ajb(q:p:=by exact this.mono AB):=q
def Ajc(q:p:=by
 refine zv ?_;exact HB rfl rfl rfl (by rw[hp];exact hQ)):=q
def Ajd(q:p:=by
 simp only[Ea,Bh,run_program,Result.andThen_ok,Yy];simp):=q
def Aje(q:p:=by
 simp only[Er,Bh,da,Result.andThen_ok,Bb hu,APY,g1];rfl):=q
def Ajf(q:p:=by cases hx;cases hy;exact .G5 _ _):=q
def Ajg(q:p:=by exact HB rfl rfl AdX (hQ _ _ _)):=q
def Ajh(q:p:=by
 refine Gz Jh rfl rfl AdX rfl ?_;exact next e2 a2 _ zh):=q
def Aji(q:p:=by
 refine zv ?_;refine⟨zc,?_⟩;exact ct (rZ rfl Xk hkk h)):=q
def Ajj(q:p:=by
 rintro rfl;rcases AFx with h|h
 .exact h1 h
 .omega):=q
def Ajk(q:p:=by rw[Ps c]at hx;cases hx;cases RT):=q
def Ajl(q:p:=by simp only[Bh,Go.Ab.Ll,Result.andThen_ok,Sem.run_pure]):=q
def Ajm(q:p:=by
 rw[Ng c]at hx;exact(hr.PX x o hx).Ir hle λ_ _ _=>rfl):=q
def Ajn(q:p:=by exact ig hE hr h1 h2 h3 h4 (.cons _ _ _ _ hu ha) ro):=q
def Ajo(q:p:=by
 have:(k==i)=false:=by simpa using ER e
 simp[e,this]):=q
def Ajp(q:p:=by
 refine zv ?_;exact⟨K,hK 0 0 0 _ AA AA AA zh zh AcJ⟩):=q
def Ajq(q:p:=by
 show some (PVI (IntKind.i64.wrap _))=_;rw[Hr AA AA]):=q
def Ajr(q:p:=by simp only[Ca,hc,Go.asBool];rfl):=q
def Ajs(q:p:=by
 rw[hn]at hc;rw[hr,hc]at I5;exact⟨w,a',e',b',I5,sQ⟩):=q
def Ajt(q:p:=by
 show(if _ then _ else _)=_;rw[Ng AA];exact h.hd.kb):=q
def Aju(q:p:=by simp only[L4.Hm,Bg,B6];exact .inr (.inr ⟨p,hp,hd⟩)):=q
def Ajv(q:p:=by
 unfold YU;refine zv ?_;rw[dZ];exact hK _ zh zh Acv):=q
def Ajw(q:p:=by cases hxw with|mk _ _ _ _ _ _ _ h9=>exact h9 _ KH):=q
def Ajx(q:p:=by cases hxw with|mk _ _ _ _ _ _ _ h9=>exact h9 _ hs):=q
def Ajy(q:p:=by exact Ht (Jt.refl m w) Ac0 g2):=q
def Ajz(q:p:=by rw[K9];exact a6.trans (JO AP)):=q
def Ak(q:p:=by simp[hv]):=q
def AkA(q:p:=by
 obtain⟨r,c,I5,rfl,w,rfl,h⟩:=this;exact⟨w,I5,h⟩):=q
def AkB(q:p:=by
 rw[hu (u+n.Je.length) AA AA]at this;cases this):=q
def AkC(q:p:=by exact zQ _ _ hs):=q
def AkD(q:p:=by exact⟨h1,h2,a8 c (Ip h1 dX AD) h2 (HT hf h1)⟩):=q
def AkE(q:p:=by
 intro i hi;rw[Ow]at hi;simp only[Tr.Lb,Ng hi]):=q
def AkF(q:p:=by
 obtain⟨k',h1,h2,_⟩:=hk.lS x h;exact⟨k',h1,h2⟩):=q
def AkG(q:p:=by
 refine zv ?_;rw[OA];exact ih _ _ s AA AA AA h):=q
def AkH(q:p:=by
 rw[Bu hl]at this;rw[N1];simpa using this.symm):=q
def AkI(q:p:=by
 rw[M9,Bf];exact zh):=q
def AkJ(q:p:=by
 show(if _ then _ else _)=_;rw[Ng AU];exact hx):=q
def AkK(q:p:=by exact TV (Zn 0 0 _ k _ _) rfl rfl λK3=>Jr K3):=q
def AkL(q:p:=by exact Zz bN hr h hf (.cons _ _ _ _ hv ha) ro):=q
def AkM(q:p:=by
 have:j=i.toNat:=AA;subst this;simpa using h2):=q
def AkN(q:p:=by
 have:mt.path=#[]:=by simpa using hp
 rw[this]):=q
def AkO(q:p:=by
 show s2.heap c=_;rw[K9,Ar (ER hgp)];exact a2):=q
def AkP(q:p:=by show(if _ then _ else _)=_;rw[Ps c];exact hb):=q
def AkQ(q:p:=by
 simp only[Bk,decide_eq_true_eq,BX]at h;omega):=q
def AkR(q:p:=by exact .data _ _ (.int _ _)):=q
def AkS(q:p:=by exact .inr (.inr (.inr h))):=q
def AkT(q:p:=by exact nY hg hd hR hk hp au m (j+1) AA WB hW):=q
def AkU(q:p:=by
 have h8:=fin b eo bx _ h;rw[hj,DG];exact h8):=q
def AkV(q:p:=by
 rw[Ng (MT x B hx)]at d;exact hr.bK x B hx d):=q
def AkW(q:p:=by
 rw[this];exact Ht g2 g3 (.tuple [] [] .nil)):=q
def AkX(q:p:=by exact .inr (.inr AA)):=q
def AkY(q:p:=by exact h2 N AA (Bd _)):=q
def AkZ(q:p:=by exact⟨.inr (.inl hd),λh=>h4 d hd d Al rfl⟩):=q
def Aka(q:p:=by exact⟨k1,k2.congr λx=>by simp only[BL,KH]⟩):=q
def Akb(q:p:=by
 obtain⟨q,hq,rfl⟩:=FW.1 hx;exact KH q hq AA):=q
def Akc(q:p:=by exact .inr (CD h.size h1)):=q
def Ake(q:p:=by
 obtain⟨K,hK⟩:=qH (v2:=v2) (v3:=v3) (v4:=v4) (v6:=v6) (Q:=Q) (N:=N) (Gy:=Gy) hi O4 hf (o:=o) AA (e:=e) (a:=a) (RA:=RA) λf' Q2 h1 h2=>Ix f' Q2 (h1.imp id λh=>by rw[h];omega) h2;refine⟨K,1,λb eo bx bo eo' bd bw s h Xb iD MK=>?_⟩;show Oz _ _ _ _ _ _ _ _ _ _ _ _ _ _ _ _ _ _ _;unfold Oz;refine zv ?_;refine Gw (λh9=>?_) λ_=>hK b eo bx bo eo' _ h Xb iD;exact AfT):=q
def Akf(q:p:=by
 refine zv ?_;refine JG zh ?_;refine Gw (λh9=>?_) λ_=>HB rfl rfl AdX ⟨_,_,rfl,rfl⟩;exact AfK):=q
def Akg(q:p:=by
 refine⟨K,1,λb eo bx bs bi bw bd s h=>?_⟩;have oL:=h.hs;have Mt:=h.i.i.h0;have j9:=h.s0;have OS:=h.slt;show O0 _ _ _ _ _ _ _ _ _ _ _ _ _ _ _ _ _ _ _ _;unfold O0;refine zv ?_;refine pQ_v (G2 zh zB) ?_;refine Gw (λh9=>?_) λ_=>hK b eo bx bs bi bw bd _ h;exact AfT):=q
def Akh(q:p:=by
 obtain⟨Jl,KT⟩:=I5;have:vsc.toList[j]?=some u:=by rw[<- KT,B5 (Bn.1 hu).1];exact hu
 rw[show((⟨gc,0,none⟩:EW).add j)=⟨gc,j,none⟩ by simp only[Addr.add];split<;>simp_all];rw[Db _ _ _ _ _ _ hwc];exact Afx):=q
def Aki(q:p:=by
 rw[Ng hw]
 have:∀k,FD ops F V D' k x=FD ops F V D k x:=by
  intro k
  induction k with
  |zero=>rfl
  |succ k ih=>
   simp only[FD,ih];exact Afn
 exact this N):=q
def Akj(q:p:=by
 have vP:bad≠0:=by simpa using hb
 obtain⟨r,e1,a1,I5,rfl,h2,_⟩:=(JQ (N:=N) (e:=e) (a:=a) HI bad vP).pc;refine zv ?_;refine Gu (G2 zh Rp) ?_;exact Afs):=q
def Akk(q:p:=by
 rw[Ng hw]
 have:∀k,HD S L D' k b=HD S L D k b:=by
  intro k
  induction k with
  |zero=>rfl
  |succ k ih=>
   simp only[HD,ih];exact Afn
 exact this N):=q
def Akl(q:p:=by
 refine zv ?_;refine Aba AeL ?_;refine AYj hr ?_;refine⟨zc,?_⟩;refine AWH ?_ (λ_=>next e a s h (by rw[Jw];exact hb));exact Af4):=q
def Akm(q:p:=by
 refine⟨1,λ{cs} Jw hp nx=>?_⟩;show Oe _ _ _ _ _ _ _ _ _;unfold Oe;refine zv ?_;refine Gw Ado λh=>?_;refine zv ?_;exact AfZ):=q
def Akn(q:p:=by
 split at h
 .exact AfQ
 .exact AfQ
 .exact AfQ
 .cases h):=q
def Ako(q:p:=by
 refine⟨.agg NL,?_,?_⟩
 .exact Aje
 .have:=VR.agg (m:=m) l NL.toList g2;exact Afx):=q
def Akp(q:p:=by
 refine zv ?_;refine JG zh ?_;refine AWI (λh9=>?_) ?_
 .exact AfK
 .exact AgU):=q
def Akq(q:p:=by
 have:(ops.toList.drop i)[0]?=some o:=by rw[<- KT];rfl
 rw[Cg]at this;exact Afx):=q
def Akr(q:p:=by
 refine zv ?_;cases h3:(IG L a).tk==0
 .exact Ag2
 .refine zv ?_;exact AfO):=q
def Aks(q:p:=by
 intro hk hN';by_cases e:i=k+1
 .exact AjK
 .simp only[FD];exact Afb):=q
def Akt(q:p:=by
 intro hk hN;by_cases e:i=k+1
 .exact AjK
 .simp only[HD];exact Afb):=q
def Aku(q:p:=by
 by_cases c:x=b
 .exact Ahi
 .rw[Ng c]at hx;exact hr.PX x o hx):=q
def Akv(q:p:=by
 refine zv ?_;exact Af7):=q
def Akw(q:p:=by
 refine zv ?_;exact Afp):=q
def Akx(q:p:=by
 rcases a4 with⟨h,_⟩|⟨_,h,_⟩
 .exact .inl Acl
 .exact AiM):=q
def Aky(q:p:=by
 refine AWG ?_ ?_
 .exact Afp
 .refine zv ?_;exact AkC):=q
def Akz(q:p:=by
 refine Gz Jh rfl rfl AdX rfl ?_;exact AgU):=q
def Al(q:p:=by simp[h]):=q
def Am(q:p:=by simp only[Gr.It,Bz,Bg,B6];exact .inr (.inr (.inr ⟨p,hp,hc⟩))):=q
end
open Array renaming getElem?_eq_some_iff->B4,getElem?_toList->Cq,length_toList->CB,range->Es,toList_extract->FN
open BitVec renaming ofInt->Ey
open Bool renaming and_eq_true->Bk,and_eq_true_iff->GD,or_eq_false_iff->Cn,or_eq_true->DU,or_eq_true_iff->Dy
open ByteArray renaming size_extract->Dg
open Go renaming Obj->EN,Addr->EW,BinOp->EP,Code->DA,Field->FY,FuncId->CE,MapEntry->DT,Oper->CI,Operand->Cb,ResultVar->EG,TypeDesc->DB,TypeId->Bm,Value->Bc,asIntOf->EL,beq_toListBytes->EC,binOp->Di,cell_of_row->Db,eqGuard->DS,getObj->FM,heap_alloc_new->EK,heap_alloc_old->DE,run_underlying->Bb,sizeOf->En,typeInfo->Dk,zeroValue->EX
open Go.Addr renaming add_lit->Cz
open Go.ByteArray renaming toList_eq->FZ
open Go.Instr renaming alloc->GF,build->Er,buildSlice->DW,checkKey->EU,extract->Fo,field->FO,fieldAt->FJ,fill->FB,findKey->DD,findNow->Cm,index->Fj,indexAt->Dv,loadAt->DZ,lookup->Ec,makeInterface->Ef,sameNow->DN,slice->FP,sliceAt->DL,sliceBound->Ft,sliceBounds->GZ,storeAt->FI,sureAddr->Cu,typeAssert->FE
open Go.Op renaming eqFields->Fk,equal->Dq,equalIn->Cx,intArith->Fl,intBits->GU,maxDepth->Et,unary->GG
open Go.Region renaming binds->C7
open Go.Sem renaming run->Em,run_bind->Bh
open Go.World renaming frozen?->Du,size_alloc->Dz
open Int renaming ofNat->Gf
open List renaming all_cons->Cl,append_assoc->CN,drop_eq_getElem_cons->Bx,ext_getElem?->Dc,getD->FC,getElem?_append_left->B5,getElem?_append_right->CU,getElem?_drop->Cg,getElem?_eq_getElem->BZ,getElem?_eq_none->CA,getElem?_eq_some_iff->Bn,getElem?_take->Cr,length_cons->CG,length_take->C1,mem_cons->Bz,range->Bw,size_toArray->Ci,take_of_length_le->CJ
open Nat renaming add_assoc->Dw,add_zero->DF,beq->Bo,beq_eq->Ff,ble->Ct,blt->C5,eq_of_beq_eq_true->Bu,le_of_ble_eq_true->E9,le_refl->Bd,le_trans->CD,lt_of_lt_of_le->Cw,mul_comm->Ez,mul_le_mul_right->Cf,one_shiftLeft->GY,or_assoc->Fu,testBit->Ep
open Option renaming isSome_iff_exists->DK
open Option.some renaming injEq->Ba
open Prod.mk renaming injEq->CM
namespace Go.Ab
inductive AV where
 |int (k:IntKind) (n:Int)
 |bool (b:Bool)
 |HK (len code:Nat)
 |G5 (b v o:Nat)
 |Sm
 |slice (b v o len:Nat) (cap:Option Nat)
 |LX
 |map (r:Nat)
 |Q1
 |func (fn:Fn) (first K8:List AV)
 |Pq
 |iface (t:Bm) (v:AV)
 |Pg
 |agg (l:List AV)
 |tuple (l:List AV)
inductive Tr (α:Type)where
 |nil
 |node (v:Option α) (a b c d:Tr α)
inductive D4 where
 |a|b|c|d
def dig(n:Nat):D4:=bif Bo n 0 then .a else bif Bo n 1 then .b else bif Bo n 2 then .c else .d
def Tr.get{α:Type}:Tr α->Nat->Option α
 | .nil,_=>none
 | .node v a b c d,k=>match k with
  |0=>v
  |k+1=>match dig (k%4)with
   | .a=>a.get (k/4)
   | .b=>b.get (k/4)
   | .c=>c.get (k/4)
   | .d=>d.get (k/4)
def Tr.iZ{α:Type}:Nat->Nat->α->Tr α->Tr α
 |0,_,_,t=>t
 |f+1,k,x,.nil=>match k with
  |0=> .node (some x) .nil .nil .nil .nil
  |k+1=>match dig (k%4)with
   | .a=> .node none (Tr.iZ f (k/4) x .nil) .nil .nil .nil
   | .b=> .node none .nil (Tr.iZ f (k/4) x .nil) .nil .nil
   | .c=> .node none .nil .nil (Tr.iZ f (k/4) x .nil) .nil
   | .d=> .node none .nil .nil .nil (Tr.iZ f (k/4) x .nil)
 |f+1,k,x,.node v a b c d=>match k with
  |0=> .node (some x) a b c d
  |k+1=>match dig (k%4)with
   | .a=> .node v (Tr.iZ f (k/4) x a) b c d
   | .b=> .node v a (Tr.iZ f (k/4) x b) c d
   | .c=> .node v a b (Tr.iZ f (k/4) x c) d
   | .d=> .node v a b c (Tr.iZ f (k/4) x d)
def Tr.set{α:Type}(k:Nat)(x:α)(t:Tr α):Tr α:=Tr.iZ (k+1) k x t
def Tr.ABK{α:Type}(k:Nat):(Tr.nil:Tr α).get k=none:=by cases k<;>rfl
def Zw(n:Nat):(n%4=0/\dig (n%4)=.a)\/(n%4=1/\dig (n%4)=.b)\/(n%4=2/\dig (n%4)=.c)\/(n%4=3/\dig (n%4)=.d):=by
 have:n%4=0\/n%4=1\/n%4=2\/n%4=3:=AA;rcases this with h|h|h|h<;>rw[h]
 .exact .inl ⟨rfl,rfl⟩
 .exact .inr (.inl ⟨rfl,rfl⟩)
 .exact .inr (.inr (.inl ⟨rfl,rfl⟩))
 .exact .inr (.inr (.inr ⟨rfl,rfl⟩))
def Tr.AFp{α:Type}(f:Nat):∀(k:Nat) (x:α) (t:Tr α) (j:Nat),k<f->(Tr.iZ f k x t).get j=if j=k then some x else t.get j:=by
 induction f with
 |zero=>intro k x t j h;omega
 |succ f ih=>
  intro k x t j h;cases k with
  |zero=>
   cases t<;>cases j<;>simp[Tr.iZ,Tr.get];rename_i j;rcases Zw j with⟨_,e⟩|⟨_,e⟩|⟨_,e⟩|⟨_,e⟩<;>simp[e]
  |succ k=>
   have hk:k/4<f:=AA;cases j with
   |zero=>
    rcases Zw k with⟨_,e⟩|⟨_,e⟩|⟨_,e⟩|⟨_,e⟩<;>cases t<;>simp[Tr.iZ,Tr.get,e]
   |succ j=>
    have hjk:(j+1=k+1)<->(j%4=k%4/\j/4=k/4):=AA
    rcases Zw k with⟨hk4,e⟩|⟨hk4,e⟩|⟨hk4,e⟩|⟨hk4,e⟩<;>rcases Zw j with⟨hj4,e'⟩|⟨hj4,e'⟩|⟨hj4,e'⟩|⟨hj4,e'⟩<;>cases t<;>
     simp only[Tr.iZ,e,Tr.get,e',ih _ _ _ _ hk,hjk]<;>simp[hk4,hj4]
def Tr.Lb{α:Type}(k:Nat)(x:α)(t:Tr α)(j:Nat):(t.set k x).get j=if j=k then some x else t.get j:=Tr.AFp (k+1) k x t j AA
inductive Cs where
 |AEE (t:Tr AV)
 |AGb (l:List AV)
def Cs.get:Cs->Nat->Option AV
 | .AEE t,k=>t.get k
 | .AGb l,k=>l[k]?
structure dW where
 n:Nat
 cells:Cs
 Zv:Nat
 nv:Nat
 Mw:Nat
 u7:Nat
inductive OT where
 |normal
 |exit (id:Nat)
 |ret
structure uB where
 params:Array Tmp
 tmps:Tr AV
 nt:Nat
 assign:DA
 body:DA
 state:LoopState
 pending:OT
inductive Obj where
 |Gy (r:dW)
 |map (es:List (AV×AV))
 |loop (l:uB)
structure St where
 heap:Tr Obj
 next:Nat
 rd:Nat
 wr:Nat
inductive R (α:Type)where
 |fail
 |ok (a:α) (s:St)
abbrev NP(m i:Nat):Prop:=m.testBit i=true
structure AV2 {α:Type} (run:St->R α) (s:St) (a:α) (s':St) (rd wr:Nat):Prop where
 next:s.next<=s'.next
 hrd:s'.rd=s.rd|||rd
 zK:s'.wr=s.wr|||wr
 below:∀b,NP rd b\/NP wr b->b<s'.next
 new:∀b,s.next<=b->b<s'.next->NP wr b
 No:∀b,¬NP wr b->s'.heap.get b=s.heap.get b
 dom:∀b,s.heap.get b=none->b<s.next\/s'.next<=b->s'.heap.get b=none
 XY:∀t:St,t.next=s.next->(∀b,NP rd b\/NP wr b->b<s.next->t.heap.get b=s.heap.get b)->
  ∃t',run t=.ok a t'/\t'.next=s'.next/\t'.rd=t.rd|||rd/\t'.wr=t.wr|||wr/\
   (∀b,NP wr b->t'.heap.get b=s'.heap.get b)/\(∀b,¬NP wr b->t'.heap.get b=t.heap.get b)
def oy{α:Type}(run:St->R α):Prop:=∀s a s',run s=.ok a s'->∃rd wr,AV2 run s a s' rd wr
structure M (α:Type)where
 run:St->R α
 loc:oy run
def AB1{α:Type}(a:α):St->R α:=λs=> .ok a s
def AGi{α:Type}(a:α):oy (AB1 a):=by
 intro s a' s' h;cases h
 exact⟨0,0,Bd _,AD,AD,λb h=>by rcases h with h|h<;>simp[NP]at h,λb h1 h2=>by omega,λ_ _=>rfl,λ_ h _=>h,
  λt ht _=>⟨t,rfl,ht,AD,AD,λb h=>by simp[NP]at h,λ_ _=>rfl⟩⟩
def AA6{α:Type}:St->R α:=λ_=> .fail
def AGf{α:Type}:oy (AA6 (α:=α)):=by intro s a' s' h;cases h
def jk{α β:Type}(x:St->R α)(f:α->St->R β):St->R β:=λs=>match x s with
 | .ok a s=>f a s
 | .fail=> .fail
def bp{α β:Type}{x:St->R α}{f:α->St->R β}{s:St}{b:β}{s':St}:
  jk x f s=.ok b s'<->∃a s1,x s=.ok a s1/\f a s1=.ok b s':=by
 unfold jk;cases h:x s with
 |fail=>simp
 |ok a s1=>
  constructor
  .intro h';exact⟨a,s1,rfl,h'⟩
  .rintro⟨a',s1',e,h'⟩;cases e;exact h'
def Tp(a b i:Nat):NP (a|||b) i<->NP a i\/NP b i:=by simp[NP,Nat.testBit_or]
def AGe{α β:Type}{x:St->R α}{f:α->St->R β}(hx:oy x)(hf:∀a,oy (f a)):oy (jk x f):=by
 intro s b s' h;obtain⟨a,s1,h1,h2⟩:=bp.1 h;obtain⟨r1,w1,L1⟩:=hx _ _ _ h1;obtain⟨r2,w2,L2⟩:=hf a _ _ _ h2;refine⟨r1|||r2,w1|||w2,?_⟩;refine⟨CD L1.next L2.next,?_,?_,?_,?_,?_,?_,?_⟩
 .rw[L2.hrd,L1.hrd,Fu]
 .rw[L2.zK,L1.zK,Fu]
 .intro b hb;have:=L1.below b;have:=L2.below b;have:=L2.next;simp only[Tp]at hb;rcases hb with(h|h)|(h|h)
  .have:=L1.below b (.inl h);omega
  .exact L2.below b (.inl h)
  .have:=L1.below b (.inr h);omega
  .exact L2.below b (.inr h)
 .intro b h1' yo;rw[Tp];by_cases hb:b<s1.next
  .exact .inl (L1.new b h1' hb)
  .exact .inr (L2.new b AA yo)
 .intro b hb;rw[Tp,not_or]at hb;rw[L2.No b hb.2,L1.No b hb.1]
 .intro b hb ho;have n1:=L1.next;have n2:=L2.next;have:s1.heap.get b=none:=L1.dom b hb AA;exact L2.dom b this AA
 .intro t ht PM;obtain⟨t1,e1,n1,rd1,wr1,g1,k1⟩:=L1.XY t ht (λb hb H5=>PM b (by rw[Tp,Tp];exact hb.imp .inl .inl) H5)
  have AWo:∀b,NP r2 b\/NP w2 b->b<s1.next->t1.heap.get b=s1.heap.get b:=by
   intro b hb H5;by_cases hw:NP w1 b
   .exact g1 b hw
   .rw[k1 b hw,L1.No b hw]
    have sV:b<s.next:=by
     by_cases hn:b<s.next
     .exact hn
     .exact Zq (L1.new b AA H5) hw
    exact PM b (by rw[Tp,Tp];exact hb.imp .inr .inr) sV
  obtain⟨t2,e2,n2,rd2,wr2,g2,k2⟩:=L2.XY t1 n1 AWo;refine⟨t2,bp.2 ⟨a,t1,e1,e2⟩,n2,?_,?_,?_,?_⟩
  .rw[rd2,rd1,Fu]
  .rw[wr2,wr1,Fu]
  .intro b hb;by_cases yo:NP w2 b
   .exact g2 b yo
   .have h1':NP w1 b:=by rw[Tp]at hb;rcases hb with h|h;exact h;exact Zq h yo
    rw[k2 b yo,g1 b h1',L2.No b yo]
  .intro b hb;rw[Tp,not_or]at hb;rw[k2 b hb.2,k1 b hb.1]
instance:Monad M where
 pure a:=⟨AB1 a,AGi a⟩
 bind x f:=⟨jk x.run λa=>(f a).run,AGe x.loc λa=>(f a).loc⟩
def H9{α:Type}:M α:=⟨AA6,AGf⟩
def qD{α:Type}(x:Option α):M α:=match x with
 |some a=>pure a
 |none=>H9
def Ow(b i:Nat):NP (1<<<b) i<->i=b:=by rw[NP,GY,Nat.testBit_two_pow];simp[eq_comm]
def kD{α:Type}(b:Nat)(f:Obj->Option α):St->R α:=λs=>
 bif C5 b s.next then
  match s.heap.get b with
  |some o=>match f o with
   |some a=> .ok a {s with rd:=s.rd|||1<<<b}
   |none=> .fail
  |none=> .fail
 else .fail
def dq(a b:Nat):C5 a b=true<->a<b:=by simp[Nat.blt_eq]
def cq{α:Type}{b:Nat}{f:Obj->Option α}{s:St}{a:α}{s':St}:
  kD b f s=.ok a s'<->b<s.next/\∃o,s.heap.get b=some o/\f o=some a/\s'={s with rd:=s.rd|||1<<<b}:=by
 unfold kD;by_cases hb:b<s.next
 .rw[(dq b s.next).2 hb];simp only[cond_true];cases hg:s.heap.get b with
  |none=>simp
  |some o=>
   cases hf:f o with
   |none=>simp[hf]
   |some a'=>
    simp only[hf];constructor
    .intro h;cases h;exact⟨hb,o,rfl,hf,rfl⟩
    .rintro⟨_,o',e,dY,rfl⟩;cases e;rw[hf]at dY;cases dY;rfl
 .exact Ag0
def AGg{α:Type}(b:Nat)(f:Obj->Option α):oy (kD b f):=by
 intro s a s' h;obtain⟨hb,o,hg,hf,rfl⟩:=cq.1 h;refine⟨1<<<b,0,Bd _,rfl,AD,?_,by intro b h1 h2;simp at h2;omega,λ_ _=>rfl,λ_ h _=>h,?_⟩
 .intro i hi;rcases hi with hi|hi
  .rw[Ow]at hi;subst hi;exact hb
  .simp[NP]at hi
 .intro t ht PM;have hg':=PM b (.inl ((Ow b b).2 rfl)) hb;refine⟨{t with rd:=t.rd|||1<<<b},cq.2 ⟨by rw[ht];exact hb,o,by rw[hg',hg],hf,rfl⟩,ht,rfl,AD,by simp[NP],λ_ _=>rfl⟩
def tm{α:Type}(b:Nat)(f:Obj->Option (α×Obj)):St->R α:=λs=>
 bif C5 b s.next then
  match s.heap.get b with
  |some o=>match f o with
   |some (a,o')=> .ok a {s with heap:=s.heap.set b o',wr:=s.wr|||1<<<b}
   |none=> .fail
  |none=> .fail
 else .fail
def il{α:Type}{b:Nat}{f:Obj->Option (α×Obj)}{s:St}{a:α}{s':St}:
  tm b f s=.ok a s'<->b<s.next/\∃o o',s.heap.get b=some o/\f o=some (a,o')/\s'={s with heap:=s.heap.set b o',wr:=s.wr|||1<<<b}:=by
 unfold tm;by_cases hb:b<s.next
 .rw[(dq b s.next).2 hb];simp only[cond_true];cases hg:s.heap.get b with
  |none=>simp
  |some o=>
   cases hf:f o with
   |none=>simp[hf]
   |some p=>
    obtain⟨a',o'⟩:=p;simp only[hf];constructor
    .intro h;cases h;exact⟨hb,o,o',rfl,hf,rfl⟩
    .rintro⟨_,o1,o2,e,dY,rfl⟩;cases e;rw[hf]at dY;cases dY;rfl
 .exact Ag0
def AKj{α:Type}(b:Nat)(f:Obj->Option (α×Obj)):oy (tm b f):=by
 intro s a s' h;obtain⟨hb,o,o',hg,hf,rfl⟩:=il.1 h;refine⟨0,1<<<b,Bd _,AD,rfl,?_,by intro b h1 h2;simp at h2;omega,?_,?_,?_⟩
 .intro i hi;rcases hi with hi|hi
  .simp[NP]at hi
  .rw[Ow]at hi;subst hi;exact hb
 .exact AkE
 .intro i hi _;simp only[Tr.Lb];by_cases e:i=b
  .subst e;rw[hg]at hi;cases hi
  .rw[Ng e];exact hi
 .intro t ht PM;have hg':=PM b (.inr ((Ow b b).2 rfl)) hb;refine⟨{t with heap:=t.heap.set b o',wr:=t.wr|||1<<<b},il.2 ⟨by rw[ht];exact hb,o,o',by rw[hg',hg],hf,rfl⟩,ht,AD,rfl,?_,?_⟩
  .intro i hi;rw[Ow]at hi;subst hi;simp[Tr.Lb]
  .intro i hi;rw[Ow]at hi;simp only[Tr.Lb,Ng hi]
def ze(o:Obj):St->R Nat:=λs=> .ok s.next {s with heap:=s.heap.set s.next o,next:=s.next+1,wr:=s.wr|||1<<<s.next}
def aQ(o:Obj):oy (ze o):=by
 intro s a s' h;cases h;refine⟨0,1<<<s.next,AD,AD,rfl,?_,?_,?_,?_,?_⟩
 .intro i hi;rcases hi with hi|hi
  .simp[NP]at hi
  .rw[Ow]at hi;subst hi;simp
 .intro i h1 h2;simp only at h2;rw[Ow];omega
 .exact AkE
 .intro i hi ho;simp only at ho;have:¬i=s.next:=AA;simp only[Tr.Lb,Ng this];exact hi
 .intro t ht _;refine⟨{t with heap:=t.heap.set t.next o,next:=t.next+1,wr:=t.wr|||1<<<t.next},by simp[ze,ht],by simp[ht],AD,by simp[ht],?_,?_⟩
  .intro i hi;rw[Ow]at hi;subst hi;simp[Tr.Lb,ht]
  .intro i hi;rw[Ow]at hi;rw[ht];simp only[Tr.Lb,Ng hi]
def aS{α:Type}(x:St->R α):St->R (α×Nat×Nat):=λs=>match x {s with rd:=0,wr:=0}with
 | .ok a s'=> .ok (a,s'.rd,s'.wr) {s' with rd:=s.rd|||s'.rd,wr:=s.wr|||s'.wr}
 | .fail=> .fail
def XF{α:Type}{x:St->R α}{s:St}{p:α×Nat×Nat}{s':St}:
  aS x s=.ok p s'<->∃a s1,x {s with rd:=0,wr:=0}=.ok a s1/\p=(a,s1.rd,s1.wr)/\s'={s1 with rd:=s.rd|||s1.rd,wr:=s.wr|||s1.wr}:=by
 unfold aS;cases h:x {s with rd:=0,wr:=0}with
 |fail=>simp
 |ok a s1=>
  constructor
  .intro h';cases h';exact⟨a,s1,rfl,rfl,rfl⟩
  .rintro⟨a',s1',e,rfl,rfl⟩;cases e;rfl
def zW{α:Type}{x:St->R α}(hx:oy x):oy (aS x):=by
 intro s p s' h;obtain⟨a,s1,h1,rfl,rfl⟩:=XF.1 h;obtain⟨r,w,L⟩:=hx _ _ _ h1;have hr:s1.rd=r:=by rw[L.hrd];simp
 have hw:s1.wr=w:=by rw[L.zK];simp
 refine⟨r,w,L.next,by simp[hr],by simp[hw],L.below,L.new,L.No,L.dom,?_⟩;intro t ht PM;obtain⟨t',e,n',rd',wr',g,k⟩:=L.XY {t with rd:=0,wr:=0} ht PM;have XB:t'.rd=r:=by rw[rd'];simp
 have Qy:t'.wr=w:=by rw[wr'];simp
 exact⟨{t' with rd:=t.rd|||t'.rd,wr:=t.wr|||t'.wr},XF.2 ⟨a,t',e,by rw[hr,hw,XB,Qy],rfl⟩,n',by simp[XB],by simp[Qy],g,k⟩
def jd{α:Type}(b:Nat)(f:Obj->Option α):M α:=⟨kD b f,AGg b f⟩
def n8{α:Type}(b:Nat)(f:Obj->Option (α×Obj)):M α:=⟨tm b f,AKj b f⟩
def newObj(o:Obj):M Nat:=⟨ze o,aQ o⟩
def ss{α:Type}(x:M α):M (α×Nat×Nat):=⟨aS x.run,zW x.loc⟩
section
def q8:Nat:=18446744073709551616
def Qu:List AV->Nat->Tr AV->Tr AV
 |[],_,t=>t
 |x::r,i,t=>Qu r (i+1) (t.set i x)
def Cs.of(xs:List AV):Cs:=bif Ct xs.length 16 then .AGb xs else .AEE (Qu xs 0 .nil)
def Cs.fill(xs:List AV)(i:Nat):Cs->Cs
 | .AEE t=> .AEE (Qu xs i t)
 | .AGb l=>bif Ct (i+xs.length) l.length then .AGb (l.take i++(xs++l.drop (i+xs.length)))else .AEE (Qu xs i (Qu l 0 .nil))
def AUd(cells:List AV):Obj:=.Gy {n:=cells.length,cells:=Cs.of cells,Zv:=0,nv:=1,Mw:=q8,u7:=0}
def newRow(cells:List AV):M Nat:=newObj (AUd cells)
def dW.oT(r:dW)(v AEM:Nat):Bool:=Ct AEM r.n&&(Bo v r.Zv||(C5 v r.nv&&Ct AEM r.Mw))
def Vu(t:Cs):Nat->Nat->Option (List AV)
 |_,0=>some []
 |i,n+1=>match t.get i with
  |some x=>match Vu t (i+1) n with
   |some l=>some (x::l)
   |none=>none
  |none=>none
def fV(v i n:Nat):Obj->Option (List AV)
 | .Gy r=>bif r.oT v (i+n)then Vu r.cells i n else none
 |_=>none
def kI(v i:Nat):Obj->Option AV
 | .Gy r=>bif r.oT v (i+1)then r.cells.get i else none
 |_=>none
def AV.Iu:AV->Bool
 | .agg _| .tuple _=>false
 |_=>true
def Zh(v i:Nat)(xs:List AV):Obj->Option (Unit×Obj)
 | .Gy r=>bif r.oT v (i+xs.length)&&xs.all AV.Iu then
   some ((),.Gy {r with cells:=Cs.fill xs i r.cells,n:=bif Bo v r.Zv then r.n else min r.n r.Mw,Zv:=v,Mw:=bif Bo r.nv 1 then r.Mw else min r.Mw i})
  else none
 |_=>none
def aV(b v i n:Nat):M (List AV):=jd b (fV v i n)
def wj(b v i:Nat):M AV:=jd b (kI v i)
def dU(b v i:Nat)(xs:List AV):M Unit:=match xs with
 |[]=>pure ()
 |_=>n8 b (Zh v i xs)
def Ur:Obj->Option (List (AV×AV))
 | .map es=>some es
 |_=>none
def AOi(b:Nat):M (List (AV×AV)):=jd b Ur
def Rv(f:List (AV×AV)->Option (List (AV×AV))):Obj->Option (Unit×Obj)
 | .map es=>match f es with
  |some p=>some ((),.map p)
  |none=>none
 |_=>none
def AV.cells:AV->List AV
 | .agg l=>l
 |v=>[v]
def RY:AV:=.tuple []
def O3:List UInt8->Nat
 |[]=>0
 |b::r=>b.toNat+256*O3 r
def VM:Bc->Option AV
 | .bool b=>some (.bool b)
 | .int k n=>some (.int k n)
 | .string s=>some (.HK s.size (O3 s.data.toList))
 | .pointer none=>some .Sm
 | .slice none 0 0=>some .LX
 | .map none=>some .Q1
 | .nilFunc=>some .Pq
 | .nilIface=>some .Pg
 |_=>none
def Sy:LV->Option (List AV)
 |[]=>some []
 |v::r=>match VM v with
  |some a=>match Sy r with
   |some l=>some (a::l)
   |none=>none
  |none=>none
def Xu:Bc->Option AV
 | .agg cs=>match Sy cs.toList with
  |some l=>some (.agg l)
  |none=>none
 | .tuple cs=>match Sy cs.toList with
  |some l=>some (.tuple l)
  |none=>none
 |v=>VM v
section
variable(P:Program)
def ND(t:Bm):ON:=match P.info? t with
 |some i=>some i.size
 |none=>none
def Ox(t:Bm):ON:=match P.info? t with
 |some i=>some i.bytes
 |none=>none
def P6(t:Bm):Option Bool:=match P.underlying t with
 |some (.struct _)=>some true
 |some (.array _ _)=>some true
 |some _=>some false
 |none=>none
def La(t:Bm):Option Bm:=match P.underlying t with
 |some (.slice e)=>some e
 |_=>none
def XH(t:Bm):Option (Bm×Bm):=match P.underlying t with
 |some (.map k e)=>some (k,e)
 |_=>none
def bg(t:Bm):Option AV:=match P.info? t with
 |some i=>match i.zero with
  |some z=>Xu z
  |none=>none
 |none=>none
def RO(s:Bm)(f:Nat):Option FY:=match P.underlying s with
 |some (.struct fs)=>fs[f]?
 |_=>none
def Oh(fr:Tr AV):Cb->Option AV
 | .tmp t=>some ((fr.get t).getD RY)
 | .const v=>Xu v
 | .global _=>none
 | .func f=>some (.func (.func f) [] [])
def Ly(fr:Tr AV):List Cb->Option (List AV)
 |[]=>some []
 |o::r=>match Oh fr o with
  |some a=>match Ly fr r with
   |some l=>some (a::l)
   |none=>none
  |none=>none
def AV.nat:AV->ON
 | .int _ (.ofNat n)=>some n
 |_=>none
def p6(t:Bm)(a:AV):M AV:=
 match a with
 | .G5 b v o=>match P6 P t with
  |some true=>match ND P t with
   |some n=>do
    let l<-aV b v o n
    pure (.agg l)
   |none=>H9
  |some false=>wj b v o
  |none=>H9
 |_=>H9
def AAT(t:Bm)(a x:AV):M AV:=
 match a with
 | .G5 b v o=>match ND P t with
  |some n=>bif Bo x.cells.length n then do
    dU b v o x.cells
    pure RY
   else H9
  |none=>H9
 |_=>H9
def nj(l:List AV)(off:Nat)(xs:List AV):List AV:=l.take off++xs++l.drop (off+xs.length)
def lj(JV:Nat->Option (Nat×Nat))(cells:List AV):List (Nat×AV)->Option (List AV)
 |[]=>some cells
 |(i,v)::Jl=>match JV i with
  |none=>none
  |some (off,size)=>
   bif Bo v.cells.length size&&Ct (off+v.cells.length) cells.length then lj JV (nj cells off v.cells) Jl else none
def Ym(NH:Array FY)(i:Nat):Option (Nat×Nat):=match NH[i]? with
 |some f=>match ND P f.type with
  |some s=>some (f.offset,s)
  |none=>none
 |none=>none
def PY(fs:List FY):Bool:=fs.all λf=>(P.info? f.type).isSome
def yD(t:Bm)(Iv:List (Nat×AV)):Option AV:=
 match bg P t with
 |some z=>match P.underlying t with
  |some (.struct NH)=>bif PY P NH.toList then(match lj (Ym P NH) z.cells Iv with
    |some l=>some (.agg l)
    |none=>none)else none
  |some (.array _ e)=>match ND P e with
   |some size=>match lj (λi=>some (i*size,size)) z.cells Iv with
    |some l=>some (.agg l)
    |none=>none
   |none=>none
  |_=>none
 |none=>none
def Vd(n:Nat)(z:List AV):List AV:=(Bw n).map λi=>z.getD (i%z.length) RY
def zeroCells(e:Bm)(size:Nat):Option (List AV):=match bg P e with
 |some z=>bif Bo z.cells.length size then some z.cells else none
 |none=>none
def Xy(t:Bm)(len:Nat)(Iv:List (Nat×AV)):M AV:=
 match La P t with
 |some e=>match ND P e with
  |some size=>bif Ct (len*size) 16777216 then
    match(bif Bo (len*size) 0 then some []else zeroCells P e size)with
    |some z=>match lj (λi=>some (i*size,size)) (Vd (len*size) z) Iv with
     |some l=>do
      let b<-newRow l
      pure (.slice b 0 0 len (some len))
     |none=>H9
    |none=>H9
   else H9
  |none=>H9
 |none=>H9
def cL(s:Bm)(x:AV)(f:Nat):Option AV:=
 match RO P s f with
 |some fd=>match ND P fd.type with
  |some (_+1)=>match x with
   | .G5 b v o=>some (.G5 b v (o+fd.offset))
   |_=>none
  |_=>none
 |none=>none
def AB0(t:Bm)(l:List AV)(off:Nat):Option AV:=
 match P6 P t with
 |some true=>match ND P t with
  |some n=>some (.agg ((l.drop off).take n))
  |none=>none
 |some false=>l[off]?
 |none=>none
def yZ(s:Bm)(x:AV)(f:Nat):Option AV:=
 match RO P s f with
 |some fd=>match x with
  | .agg l=>AB0 P fd.type l fd.offset
  |_=>none
 |none=>none
def cd(t:Bm)(x i:AV):Option AV:=
 match i.nat with
 |some i=>match P.underlying t with
  |some (.slice e)=>match x with
   | .slice b v o len _=>match ND P e with
    |some size=>bif C5 i len then some (.G5 b v (o+i*size))else none
    |none=>none
   |_=>none
  |some (.array len e)=>match x with
   | .G5 b v o=>match ND P e with
    |some size=>bif C5 i len then some (.G5 b v (o+i*size))else none
    |none=>none
   |_=>none
  |_=>none
 |none=>none
def zL(t:Bm)(x i:AV):Option AV:=
 match i.nat with
 |some i=>match P.underlying t with
  |some .string=>match x with
   | .HK len code=>bif C5 i len then some (.int .u8 (Gf ((code>>>(8*i))%256)))else none
   |_=>none
  |some (.array len e)=>match x with
   | .agg cs=>match ND P e with
    |some size=>bif C5 i len then AB0 P e cs (i*size)else none
    |none=>none
   |_=>none
  |_=>none
 |none=>none
def aX(o:Option Cb)(l:List AV):Option (ON×List AV):=
 match o with
 |none=>some (none,l)
 |some _=>match l with
  |v::r=>match v.nat with
   |some n=>some (some n,r)
   |none=>none
  |[]=>none
def AAM(t:Bm)(x:AV)(Mw KQ max:ON):Option AV:=
 match P.underlying t with
 |some .string=>match x with
  | .HK len code=>match max with
   |some _=>none
   |none=>
    let h:=KQ.getD len
    let l:=Mw.getD 0
    bif Ct h len&&Ct l h then some (.HK (h-l) ((code>>>(8*l))%1<<<(8*(h-l))))else none
  |_=>none
 |some (.slice e)=>match x with
  | .slice b v o len cap=>match ND P e with
   |some size=>match cap,max with
    |none,none=>
     let h:=KQ.getD len
     let l:=Mw.getD 0
     bif Ct h len&&Ct l h&&(Bo l 0||C5 l len)then some (.slice b v (o+l*size) (h-l) none)else none
    |_,_=>
     let c:=cap.getD len
     let m:=max.getD c
     let h:=KQ.getD len
     let l:=Mw.getD 0
     bif Ct m c&&Ct h m&&Ct l h&&(max.isNone||KQ.isSome)then some (.slice b v (bif Bo m l then o else o+l*size) (h-l) (some (m-l)))else none
   |none=>none
  | .LX=>match ND P e with
   |some _=>bif Bo (max.getD 0) 0&&Bo (KQ.getD 0) 0&&Bo (Mw.getD 0) 0&&(max.isNone||KQ.isSome)then some .LX else none
   |none=>none
  |_=>none
 |some (.array n e)=>match x with
  | .G5 b v o=>match ND P e with
   |some size=>
    let m:=max.getD n
    let h:=KQ.getD n
    let l:=Mw.getD 0
    bif Ct m n&&Ct h m&&Ct l h&&(max.isNone||KQ.isSome)then some (.slice b v (bif Bo m l then o else o+l*size) (h-l) (some (m-l)))else none
   |none=>none
  |_=>none
 |_=>none
def j8(v st size:Nat)(JX:List AV):Obj->Option (Nat×Obj)
 | .Gy r=>bif r.oT v st&&Bo r.u7 size&&JX.all AV.Iu then
   some (r.nv,.Gy {r with n:=st+JX.length,cells:=Cs.fill JX st r.cells,Zv:=r.nv,nv:=r.nv+1,Mw:=min r.Mw st})
  else none
 |_=>none
def mT(size:Nat)(cells:List AV):Obj:=.Gy {n:=cells.length,cells:=Cs.of cells,Zv:=0,nv:=1,Mw:=q8,u7:=size}
def JE(n bytes:Nat):Bool:=Ct (n*bytes) 140737488355328&&Ct n 140737488355328
def kT(size bytes:Nat)(s:AV)(k:Nat)(JX:List AV):M AV:=
 match s with
 | .LX=>
  bif JE k bytes then do
   let b<-newObj (mT size JX)
   pure (.slice b 0 0 k none)
  else H9
 | .slice b v o len cap=>
  bif JE (len+k) bytes then
   match cap with
   |some c=>
    bif Ct (len+k) c then do
     dU b v (o+len*size) JX
     pure (.slice b v o (len+k) (some c))
    else do
     let old<-aV b v o (len*size)
     let b'<-newObj (mT size (old++JX))
     pure (.slice b' 0 0 (len+k) none)
   |none=>
    bif Bo o 0 then do
     let v'<-n8 b (j8 v (len*size) size JX)
     pure (.slice b v' 0 (len+k) none)
    else H9
  else H9
 |_=>H9
def wF(s:AV):Option AV:=match s with
 | .LX=>some s
 | .slice .. =>some s
 |_=>none
def qu(t:Bm)(s x:AV):M AV:=
 match La P t with
 |some e=>match ND P e with
  |some (size+1)=>match Ox P e with
   |some bytes=>match bg P e with
    |some z=>bif Bo z.cells.length (size+1)then(match x with
     | .LX=>qD (wF s)
     | .slice _ _ _ 0 _=>qD (wF s)
     | .slice b v o (k+1) _=>do
      let JX<-aV b v o ((k+1)*(size+1))
      kT (size+1) bytes s (k+1) JX
     |_=>H9)else H9
    |none=>H9
   |none=>H9
  |_=>H9
 |none=>H9
def AFJ(op:EP)(a b:Int):Option Bool:=
 match op with
 | .eql=>some (a==b)
 | .neq=>some (a !=b)
 | .lss=>some (decide (a<b))
 | .leq=>some (decide (a<=b))
 | .gtr=>some (decide (a>b))
 | .geq=>some (decide (a>=b))
 |_=>none
def bS(op:EP)(k:IntKind)(a b:Int):Option AV:=
 match op with
 | .add=>some (.int k (k.wrap (a+b)))
 | .sub=>some (.int k (k.wrap (a-b)))
 | .mul=>some (.int k (k.wrap (a*b)))
 | .quo=>if b=0 then none else some (.int k (k.wrap (a.tdiv b)))
 | .rem=>if b=0 then none else some (.int k (a.tmod b))
 | .and=>some (.int k (k.wrap (Ey k.bits a&&&Ey k.bits b).toNat))
 | .or=>some (.int k (k.wrap (Ey k.bits a|||Ey k.bits b).toNat))
 | .xor=>some (.int k (k.wrap (Ey k.bits a^^^Ey k.bits b).toNat))
 | .shl=>if b<0 then none else some (.int k (k.wrap (a*2^(min b.toNat k.bits))))
 | .shr=>if b<0 then none else some (.int k (a.fdiv (2^(min b.toNat k.bits))))
 |op=>match AFJ op a b with
  |some r=>some (.bool r)
  |none=>none
def AHr(op:EP)(n a m b:Nat):Option AV:=
 match op with
 | .eql=>some (.bool (Bo n m&&Bo a b))
 | .neq=>some (.bool !(Bo n m&&Bo a b))
 |_=>none
def eqS(d:Option DB)(x y:AV):Option Bool:=
 match d with
 |some (.int _)=>match x,y with
  | .int k a,.int k' b=>if k=k' then some (a==b)else none
  |_,_=>none
 |some .bool=>match x,y with
  | .bool a,.bool b=>some (a==b)
  |_,_=>none
 |some .string=>match x,y with
  | .HK n a,.HK m b=>some (Bo n m&&Bo a b)
  |_,_=>none
 |some (.pointer _)=>match x,y with
  | .G5 ..,.Sm=>some false
  | .Sm,.G5 .. =>some false
  | .Sm,.Sm=>some true
  |_,_=>none
 |some (.slice _)=>match x,y with
  | .slice ..,.LX=>some false
  | .LX,.slice .. =>some false
  | .LX,.LX=>some true
  |_,_=>none
 |some (.map _ _)=>match x,y with
  | .map _,.Q1=>some false
  | .Q1,.map _=>some false
  | .Q1,.Q1=>some true
  |_,_=>none
 |some (.func _ _ _)=>match x,y with
  | .func ..,.Pq=>some false
  | .Pq,.func .. =>some false
  | .Pq,.Pq=>some true
  |_,_=>none
 |some (.interface _)=>match x,y with
  | .iface ..,.Pg=>some false
  | .Pg,.iface .. =>some false
  |_,_=>none
 |_=>none
def eqFields(xs ys:List AV):List FY->Option Bool
 |[]=>some true
 |f::r=>if f.name= "_"then none else
  match P6 P f.type with
  |some false=>match xs[f.offset]? with
   |some x=>match ys[f.offset]? with
    |some y=>match eqS (P.underlying f.type) x y with
     |some true=>eqFields xs ys r
     |some false=>some false
     |none=>none
    |none=>none
   |none=>none
  |_=>none
def eqA(t:Bm)(x y:AV):Option Bool:=
 match P.underlying t with
 |some (.struct fs)=>match x,y with
  | .agg xs,.agg ys=>bif P.stoodInHeld t||P.eqGuardType P.depth t then none else eqFields P xs ys fs.toList
  |_,_=>none
 |d=>eqS d x y
def ANM(op:EP)(t:Bm)(x y:AV):Option AV:=
 match x,y with
 | .int k a,.int k' b=>match op with
  | .shl=>bS op k a b
  | .shr=>bS op k a b
  |_=>if k=k' then bS op k a b else none
 | .HK n a,.HK m b=>AHr op n a m b
 |x,y=>match op with
  | .eql=>match eqA P t x y with
   |some r=>some (.bool r)
   |none=>none
  | .neq=>match eqA P t x y with
   |some r=>some (.bool !r)
   |none=>none
  |_=>none
def unA(op:UnOp)(x:AV):Option AV:=match op,x with
 | .not,.bool b=>some (.bool !b)
 | .neg,.int k n=>some (.int k (k.wrap (0-n)))
 |_,_=>none
def bU(d:Option DB)(x y:AV):Option Bool:=
 match d with
 |some (.int _)=>match x,y with
  | .int k a,.int k' b=>if k=k' then some (a==b)else none
  |_,_=>none
 |some .string=>match x,y with
  | .HK n a,.HK m b=>some (Bo n m&&Bo a b)
  |_,_=>none
 |_=>none
def vB(d:Option DB)(k:AV):List (AV×AV)->Option (Option AV)
 |[]=>some none
 |(k',v)::r=>match bU d k k' with
  |some true=>some (some v)
  |some false=>vB d k r
  |none=>none
def ADs(d:Option DB)(k x:AV):List (AV×AV)->Option (List (AV×AV))
 |[]=>some [(k,x)]
 |(k',v)::r=>match bU d k k' with
  |some true=>some ((k,x)::r)
  |some false=>match ADs d k x r with
   |some r'=>some ((k',v)::r')
   |none=>none
  |none=>none
def ACs(d:Option DB)(k:AV):List (AV×AV)->Option (List (AV×AV))
 |[]=>some []
 |(k',v)::r=>match bU d k k' with
  |some true=>some r
  |some false=>match ACs d k r with
   |some r'=>some ((k',v)::r')
   |none=>none
  |none=>none
def Nr(d:Option DB)(k:AV):Bool:=(bU d k k).isSome
def su(t:Bm)(m k:AV)(ok:Bool):M AV:=
 match XH P t with
 |some (kt,e)=>bif Nr (P.underlying kt) k then(match bg P e with
  |some z=>do
   let r<-(match m with
    | .Q1=>pure none
    | .map r=>jd r λo=>match Ur o with
     |some es=>vB (P.underlying kt) k es
     |none=>none
    |_=>H9)
   match r with
   |some v=>pure (if ok then .tuple [v,.bool true]else v)
   |none=>pure (if ok then .tuple [z,.bool false]else z)
  |none=>H9)else H9
 |none=>H9
inductive ah where
 |call (f:CE) (args:List AV)
 |round (l:Nat) (args:List AV)
variable(ev:ah->M AV)
def gh(f:CE)(args:List AV):M AV:=match P.funcs[f]? with
 |some fn=>match fn.body with
  |some _=>bif fn.name== "runtime.NumGoroutine"then H9 else ev (.call f args)
  |none=>H9
 |none=>H9
def rP(f:AV)(args:List AV):M AV:=match f with
 | .func (.func f) first K8=>gh P ev f (first++args++K8)
 | .func (.yield l) [] []=>ev (.round l args)
 |_=>H9
def Rr(t:Bm)(name:String):Option (CE×Bool×Option Bm):=
 match P.info? t with
 |some i=>match i.methods.find? (·.name==name)with
  |some m=>bif m.path.isEmpty then(match m.func with
    |some (f,pr)=>match P.underlying t with
     |some (.pointer e)=>some (f,pr,some e)
     |some _=>some (f,pr,none)
     |none=>none
    |none=>none)
   else none
  |none=>none
 |none=>none
def sn(recv:AV)(name:String)(args:List AV):M AV:=
 match recv with
 | .iface t v=>match Rr P t name with
  |some (f,true,some _)=>gh P ev f (v::args)
  |some (f,false,none)=>gh P ev f (v::args)
  |some (f,false,some e)=>do
   let x<-p6 P e v
   gh P ev f (x::args)
  |_=>H9
 |_=>H9
def APz(t:Bm)(v:AV):M AV:=
 match P.underlying t with
 |some .string=>match v with
  | .HK n _=>pure (.int .i64 (Gf n))
  |_=>H9
 |some (.slice _)=>match v with
  | .slice _ _ _ n _=>pure (.int .i64 (Gf n))
  | .LX=>pure (.int .i64 0)
  |_=>H9
 |some (.map _ _)=>match v with
  | .Q1=>pure (.int .i64 0)
  | .map r=>do
   let es<-AOi r
   pure (.int .i64 (Gf es.length))
  |_=>H9
 |_=>H9
def uc(b:Builtin)(argTypes:Array Bm)(vs:List AV):M AV:=
 match b,vs with
 | .len,[v]=>(match argTypes[0]? with
  |some t=>APz P t v
  |none=>H9)
 | .append,[s,x]=>(match argTypes.toList with
  |[t,t']=>(match P.underlying t' with
    |some (.slice _)=>qu P t s x
    |_=>H9)
  |_=>H9)
 | .min,[.int k x,.int k' y]=>if k=k' then pure (.int k (if y<x then y else x))else H9
 | .delete,[.map r,k]=>(match argTypes[0]? with
  |some t=>match XH P t with
   |some (kt,_)=>bif Nr (P.underlying kt) k then do
     n8 r (Rv (ACs (P.underlying kt) k))
     pure RY
    else H9
   |none=>H9
  |none=>H9)
 |_,_=>H9
def ALy(c:Call)(vs:List AV):M AV:=
 match c.callee with
 | .value _=>match vs with
  |f::args=>rP P ev f args
  |[]=>H9
 | .invoke _ name=>match vs with
  |r::args=>sn P ev r name args
  |[]=>H9
 | .builtin b=>uc P b c.argTypes vs
def fh:List (Nat×Cb)->List AV->List (Nat×AV)
 |(i,_)::r,v::l=>(i,v)::fh r l
 |_,_=>[]
def lW(src dst:Bm)(x:AV):Option AV:=
 match P.underlying src with
 |some _=>match P.underlying dst with
  |some (.int k)=>match x with
   | .int _ n=>some (.int k (k.wrap n))
   |_=>none
  |_=>none
 |none=>none
def cr(t:Bm)(l c:AV):M AV:=
 match La P t with
 |some e=>match ND P e with
  |some size=>match Ox P e with
   |some bytes=>match l.nat with
    |some l=>match c.nat with
     |some c=>bif Ct l c&&JE c bytes then
       (match(bif Bo (c*size) 0 then some []else zeroCells P e size)with
       |some z=>do
        let b<-newRow (Vd (c*size) z)
        pure (.slice b 0 0 l (some c))
       |none=>H9)
      else H9
     |none=>H9
    |none=>H9
   |none=>H9
  |none=>H9
 |none=>H9
def q6(MA:Bm)(ok:Bool)(x:AV):Option AV:=
 match P.underlying MA with
 |some (.interface _)=>none
 |some _=>match x with
  | .iface t v=>if t=MA then some (if ok then .tuple [v,.bool true]else v)else none
  |_=>none
 |none=>none
def nI(t:Bm)(x:AV):Option AV:=
 match P.underlying t with
 |some (.interface _)=>none
 |some _=>some (.iface t x)
 |none=>none
def aU(x:AV):Option AV:=
 match x with
 | .G5 .. =>some x
 | .func (.func _) _ _=>some x
 | .func (.yield _) _ _=>some x
 | .iface .. =>some x
 |_=>none
def ld(ix:Nat)(t:AV):Option AV:=
 match t with
 | .tuple l=>l[ix]?
 |_=>none
def AM0(c a b:AV):Option AV:=
 match c with
 | .bool true=>some a
 | .bool false=>some b
 |_=>none
def opV(op:Op)(vs:List AV):M AV:=
 match op with
 | .move _=>(match vs with|[x]=>pure x|_=>H9)
 | .assign _=>(match vs with|[x]=>pure x|_=>H9)
 | .pick _ _ _=>(match vs with|[c,a,b]=>qD (AM0 c a b)|_=>H9)
 | .alloc e=>(match bg P e with
  |some z=>do
   let b<-newRow z.cells
   pure (.G5 b 0 0)
  |none=>H9)
 | .box _ _=>(match vs with
  |[x]=>do
   let b<-newRow x.cells
   pure (.G5 b 0 0)
  |_=>H9)
 | .build t Iv=>qD (yD P t (fh Iv.toList vs))
 | .buildSlice t len Iv=>Xy P t len (fh Iv.toList vs)
 | .load t _=>(match vs with|[a]=>p6 P t a|_=>H9)
 | .store t _ _=>(match vs with|[a,x]=>AAT P t a x|_=>H9)
 | .nilCheck _=>(match vs with|[x]=>qD (aU x)|_=>H9)
 | .binOp op t _ _ _=>(match vs with|[x,y]=>qD (ANM P op t x y)|_=>H9)
 | .unOp op _ _=>(match vs with|[x]=>qD (unA op x)|_=>H9)
 | .convert src dst _=>(match vs with|[x]=>qD (lW P src dst x)|_=>H9)
 | .makeInterface t _=>(match vs with|[x]=>qD (nI P t x)|_=>H9)
 | .makeFunc fn first _=>(match fn with
  | .yield _=>H9
  |_=>pure (.func fn (vs.take first.size) (vs.drop first.size)))
 | .makeMap _ none=>do
  let r<-newObj (.map [])
  pure (.map r)
 | .makeSlice t _ _=>(match vs with|[l,c]=>cr P t l c|_=>H9)
 | .slice t _ lo hi mx=>(match vs with
  |x::r=>match aX lo r with
   |some (lo',r)=>match aX hi r with
    |some (VI,r)=>match aX mx r with
     |some (mx',_)=>qD (AAM P t x lo' VI mx')
     |none=>H9
    |none=>H9
   |none=>H9
  |[]=>H9)
 | .fieldAddr s _ f=>(match vs with|[x]=>qD (cL P s x f)|_=>H9)
 | .field s _ f=>(match vs with|[x]=>qD (yZ P s x f)|_=>H9)
 | .indexAddr t _ _=>(match vs with|[x,i]=>qD (cd P t x i)|_=>H9)
 | .index t _ _=>(match vs with|[x,i]=>qD (zL P t x i)|_=>H9)
 | .lookup t _ _ ok=>(match vs with|[m,k]=>su P t m k ok|_=>H9)
 | .mapUpdate t _ _ _=>(match vs with
  |[.map r,k,x]=>(match XH P t with
   |some (kt,_)=>bif Nr (P.underlying kt) k then do
     n8 r (Rv (ADs (P.underlying kt) k x))
     pure RY
    else H9
   |none=>H9)
  |_=>H9)
 | .typeAssert _ _ MA ok=>(match vs with|[x]=>qD (q6 P MA ok x)|_=>H9)
 | .extract _ ix=>(match vs with|[t]=>qD (ld ix t)|_=>H9)
 | .call c=>ALy P ev c vs
 |_=>H9
def XU(ops:List CI)(fr:Tr AV)(o:CI):Bool:=
 match o.guard with
 |none=>true
 |some (j,QZ)=>match ops[j]? with
  |some o'=>match o'.dst with
   |some d=>match fr.get d with
    |some (.bool b)=>b==QZ
    |_=>false
   |none=>false
  |none=>false
def iX(fr:Tr AV)(d:Option Tmp)(v:AV):Tr AV:=match d with
 |some d=>fr.set d v
 |none=>fr
def NK(nt:Nat)(d:Option Tmp):Bool:=match d with
 |some d=>C5 d nt
 |none=>true
def ji(ops:List CI)(fr:Tr AV)(o:CI):M AV:=
 bif XU ops fr o then(match Ly fr o.op.operands.toList with
  |some vs=>opV P ev o.op vs
  |none=>H9)
 else pure RY
variable(nt:Nat)
def ADm(ops:List CI):List CI->Tr AV->M (Tr AV)
 |[],fr=>pure fr
 |o::r,fr=>bif NK nt o.dst then do
   let v<-ji P ev ops fr o
   ADm ops r (iX fr o.dst v)
  else H9
def AHG(ops:List CI):List CI->Tr AV->M (Tr AV×List (Nat×Nat))
 |[],fr=>pure (fr,[])
 |o::r,fr=>bif NK nt o.dst then do
   let p<-ss (ji P ev ops fr o)
   let q<-AHG ops r (iX fr o.dst p.1)
   pure (q.1,p.2::q.2)
  else H9
def Ma:List CI->LN->LN
 |[],H6=>H6
 |o::r,H6=>Ma r (H6++[o.after.toList.foldl (λm e=>bif C7 .any e then m|||1<<<e.on|||H6.getD e.on 0 else m) 0])
def pG(a b:Nat×Nat):Bool:= !(Bo (a.2&&&(b.1|||b.2)) 0&&Bo (a.1&&&b.2) 0)
def jr(m:Nat)(l:Nat×Nat):List (Nat×Nat)->Nat->Bool
 |[],_=>false
 |a::r,i=>(!(Ep m i)&&pG a l)||jr m l r (i+1)
def Zt(done:List (Nat×Nat)):List (Nat×Nat)->LN->Bool
 |[],_=>false
 |_::_,[]=>true
 |l::r,m::ms=>jr m l done 0||Zt (done++[l]) r ms
def UI(l:List Cb):LN:=l.filterMap λ| .tmp t=>some t|_=>none
def O8(ops:List CI)(o:CI):LN:=
 UI o.op.operands.toList++(match o.guard with
  |some (j,_)=>(match ops[j]? with
   |some o'=>o'.dst.toList
   |none=>[])
  |none=>[])
def Ux(ops:List CI)(a b:CI):Bool:=
 (
  match a.dst with
  |some d=> !(O8 ops b).contains d&& !(b.dst==some d)
  |none=>true)&&
 (match b.dst with
  |some d=> !(O8 ops a).contains d
  |none=>true)
def kJ(ops:List CI)(m:Nat)(o:CI):List CI->Nat->Bool
 |[],_=>true
 |a::r,i=>(Ep m i||Ux ops a o)&&kJ ops m o r (i+1)
def ZY(ops:List CI)(done:List CI):List CI->LN->Bool
 |[],_=>true
 |_::_,[]=>false
 |o::r,m::ms=>kJ ops m o done 0&&ZY ops (done++[o]) r ms
def jv:List CI->Nat->Bool
 |[],_=>true
 |o::r,i=>(o.after.toList.all λe=>C5 e.on i|| !(C7 .any e))&&jv r (i+1)
def Oq(ops:List CI):Bool:=jv ops 0&&ZY ops [] ops (Ma ops [])
def tS(ops:List CI)(fr:Tr AV):M (Tr AV):=
 bif Oq ops&&P.follows .mixedOrders then do
  let q<-AHG P ev nt ops ops fr
  bif Zt [] q.2 (Ma ops [])then H9 else pure q.1
 else H9
def wK(body:Tr AV->M (OT×Tr AV)):Nat->Tr AV->M (OT×Tr AV)
 |0,_=>H9
 |n+1,fr=>do
  let p<-body fr
  match p.1 with
  | .normal=>wK body n p.2
  |e=>pure (e,p.2)
def nB:Nat:=1000000
def Ys:Obj->Option uB
 | .loop l=>some l
 |_=>none
def Nj(f:uB->Option uB):Obj->Option (Unit×Obj)
 | .loop l=>match f l with
  |some l'=>some ((),.loop l')
  |none=>none
 |_=>none
def Va:Obj->Option (OT×Obj)
 | .loop l=>match l.state with
  | .busy=>none
  |_=>some (l.pending,.loop {l with state:=.exhausted})
 |_=>none
def pK(rnd:Bool):DA->Tr AV->M (OT×Tr AV)
 | .skip,fr=>pure (.normal,fr)
 | .label _,fr=>pure (.normal,fr)
 | .region _ ops d,fr=>bif d then do
   let Vz<-tS P ev nt ops.toList fr
   pure (.normal,Vz)
  else do
   let Vz<-ADm P ev nt ops.toList ops.toList fr
   pure (.normal,Vz)
 | .seq a b,fr=>do
  let p<-pK rnd a fr
  match p.1 with
  | .normal=>pK rnd b p.2
  |e=>pure (e,p.2)
 | .cond c a b,fr=>match Oh fr c with
  |some (.bool true)=>pK rnd a fr
  |some (.bool false)=>pK rnd b fr
  |_=>H9
 | .block id c,fr=>do
  let p<-pK rnd c fr
  match p.1 with
  | .exit sj=>pure (bif Bo sj id then .normal else .exit sj,p.2)
  |e=>pure (e,p.2)
 | .loop c,fr=>wK (pK rnd c) nB fr
 | .scope c,fr=>pK rnd c fr
 | .exit id,fr=>pure (.exit id,fr)
 | .ret,fr=>pure (.ret,fr)
 | .rangeFunc f params assign body,fr=>bif rnd then H9 else match Oh fr f with
  |some (.func (.func g) first K8)=>match P.funcs[g]? with
   |some fn=>match fn.body with
    |some _=>bif fn.name== "runtime.NumGoroutine"then H9 else do
     let l<-newObj (.loop {params,tmps:=fr,nt,assign,body,state:=.ready,pending:=.normal})
     let _<-ev (.call g (first++[.func (.yield l) [] []]++K8))
     let e<-n8 l Va
     pure (e,fr)
    |none=>H9
   |none=>H9
  |_=>H9
 | .goto _,_=>H9
 | .refuse _,_=>H9
def Vw(fr:Tr AV):List EG->M (List AV)
 |[]=>pure []
 | .tmp t::r=>do
  let l<-Vw fr r
  pure ((fr.get t).getD RY::l)
 | .cell a t::r=>do
  let x<-p6 P t ((fr.get a).getD RY)
  let l<-Vw fr r
  pure (x::l)
def ALe:List AV->AV
 |[v]=>v
 |l=> .tuple l
def OW(nt:Nat)(fr:Tr AV):LN->List AV->Option (Tr AV)
 |[],[]=>some fr
 |p::ps,a::as=>bif C5 p nt then OW nt (fr.set p a) ps as else none
 |_,_=>none
def Yl:Nat->ah->M AV
 |0,_=>H9
 |n+1,.call f args=>match P.funcs[f]? with
  |some fn=>match fn.body with
   |some c=>do
    let p<-pK P (Yl n) (max args.length fn.ntmps) false c (Qu args 0 .nil)
    match p.1 with
    | .exit _=>H9
    |_=>do
     let l<-Vw P p.2 fn.results.toList
     pure (ALe l)
   |none=>H9
  |none=>H9
 |n+1,.round l args=>do
  let L<-jd l Ys
  match OW L.nt L.tmps L.params.toList args with
  |some fr=>do
   let p<-pK P (Yl n) L.nt true L.assign fr
   match p.1 with
   | .normal=>do
    n8 l (Nj λL=>match L.state with| .ready=>some {L with state:=.busy}|_=>none)
    let q<-pK P (Yl n) L.nt true L.body p.2
    match q.1 with
    | .normal=>do
     n8 l (Nj λL=>some {L with state:=.ready,pending:=.normal})
     pure (.bool true)
    |e=>do
     n8 l (Nj λL=>some {L with state:=.done,pending:=e})
     pure (.bool false)
   |_=>H9
  |none=>H9
end
end
abbrev NO:=Nat->Nat->Option (Nat×Nat×Nat)
def NO.le(m m':NO):Prop:=∀b u p,m b u=some p->m' b u=some p
def NO.le_refl(m:NO):m.le m:=λ_ _ _ h=>h
def NO.le_trans{m m' m'':NO}(h:m.le m')(h':m'.le m''):m.le m'':=λb u p e=>h' b u p (h b u p e)
mutual
inductive VR (m:NO):AV->Bc->Prop
 |int (k:IntKind) (n:Int):VR m (.int k n) (.int k n)
 |bool (b:Bool):VR m (.bool b) (.bool b)
 |HK (s:ByteArray) (len code:Nat):s.size=len->O3 s.data.toList=code->VR m (.HK len code) (.string s)
 |G5 (b v o B t e:Nat):m b v=some (B,t,e)->VR m (.G5 b v o) (.pointer (some ⟨B,o,none⟩))
 |Sm:VR m .Sm (.pointer none)
 |slice (b v o len:Nat) (cap:Option Nat) (B t e c:Nat):m b v=some (B,t,e)->len<=c->(∀c',cap=some c'->c=c')->
  (cap=none->o=0->c*e<=t)->VR m (.slice b v o len cap) (.slice (some ⟨B,o,none⟩) len c)
 |LX:VR m .LX (.slice none 0 0)
 |map (r B t e:Nat):m r 0=some (B,t,e)->VR m (.map r) (.map (some B))
 |Q1:VR m .Q1 (.map none)
 |func (fn:Fn) (fs cs:List AV) (fs' NL:List Bc):(∀l,fn≠ .yield l)->JT m fs fs'->JT m cs NL->VR m (.func fn fs cs) (.func fn fs'.toArray NL.toArray)
 |yield (l B t e:Nat):m l 0=some (B,t,e)->VR m (.func (.yield l) [] []) (.func (.yield B) #[] #[])
 |Pq:VR m .Pq .nilFunc
 |iface (t:Bm) (a:AV) (v:Bc):VR m a v->VR m (.iface t a) (.iface t v)
 |Pg:VR m .Pg .nilIface
 |agg (l:List AV) (l':List Bc):JT m l l'->VR m (.agg l) (.agg l'.toArray)
 |tuple (l:List AV) (l':List Bc):JT m l l'->VR m (.tuple l) (.tuple l'.toArray)
inductive JT (m:NO):List AV->List Bc->Prop
 |nil:JT m [] []
 |cons (a:AV) (v:Bc) (l:List AV) (l':List Bc):VR m a v->JT m l l'->JT m (a::l) (v::l')
end
mutual
def VR.mono {m m':NO} (h:m.le m') {a:AV} {v:Bc}:VR m a v->VR m' a v
 | .int k n=> .int k n
 | .bool b=> .bool b
 | .HK s n c h1 h2=> .HK s n c h1 h2
 | .G5 b v o B t e hm=> .G5 b v o B t e (h _ _ _ hm)
 | .Sm=> .Sm
 | .slice b v o len cap B t e c hm h1 h2 h3=> .slice b v o len cap B t e c (h _ _ _ hm) h1 h2 h3
 | .LX=> .LX
 | .map r B t e hm=> .map r B t e (h _ _ _ hm)
 | .Q1=> .Q1
 | .func fn fs cs fs' NL h0 h1 h2=> .func fn fs cs fs' NL h0 (JT.mono h h1) (JT.mono h h2)
 | .yield l B t e hm=> .yield l B t e (h _ _ _ hm)
 | .Pq=> .Pq
 | .iface t a v h1=> .iface t a v (VR.mono h h1)
 | .Pg=> .Pg
 | .agg l l' h1=> .agg l l' (JT.mono h h1)
 | .tuple l l' h1=> .tuple l l' (JT.mono h h1)
def JT.mono {m m':NO} (h:m.le m') {l:List AV} {l':List Bc}:JT m l l'->JT m' l l'
 | .nil=> .nil
 | .cons a v l l' h1 h2=> .cons a v l l' (VR.mono h h1) (JT.mono h h2)
end
def JT.length{m:NO}{l:List AV}{l':LV}(h:JT m l l'):l.length=l'.length:=by
 induction l generalizing l' with
 |nil=>cases h;rfl
 |cons a l ih=>cases h with|cons _ v _ l' h1 h2=>simp[ih h2]
def JT.append{m:NO}{l:List AV}{l':LV}{k:List AV}{k':LV}(h:JT m l l')(hk:JT m k k'):JT m (l++k) (l'++k'):=by
 induction l generalizing l' with
 |nil=>cases h;exact hk
 |cons a l ih=>cases h with|cons _ v _ l' h1 h2=>exact .cons _ _ _ _ h1 (ih h2)
def JT.take{m:NO}{l:List AV}{l':LV}(h:JT m l l')(n:Nat):JT m (l.take n) (l'.take n):=by
 induction l generalizing l' n with
 |nil=>cases h;simp;exact .nil
 |cons a l ih=>
  cases h with
  |cons _ v _ l' h1 h2=>
   cases n with
   |zero=>exact .nil
   |succ n=>exact .cons _ _ _ _ h1 (ih h2 n)
def JT.drop{m:NO}{l:List AV}{l':LV}(h:JT m l l')(n:Nat):JT m (l.drop n) (l'.drop n):=by
 induction l generalizing l' n with
 |nil=>cases h;simp;exact .nil
 |cons a l ih=>
  cases h with
  |cons _ v _ l' h1 h2=>
   cases n with
   |zero=>exact .cons _ _ _ _ h1 h2
   |succ n=>exact ih h2 n
def JT.get{m:NO}{l:List AV}{l':LV}(h:JT m l l'){i:Nat}{a:AV}(ha:l[i]?=some a):∃v,l'[i]?=some v/\VR m a v:=by
 induction l generalizing l' i with
 |nil=>simp at ha
 |cons x l ih=>
  cases h with
  |cons _ v _ l' h1 h2=>
   cases i with
   |zero=>simp at ha;subst ha;exact⟨v,rfl,h1⟩
   |succ i=>simp at ha;simpa using ih h2 ha
def JT.nO{m:NO}{l:List AV}{l':LV}(hl:l.length=l'.length)(h:∀(i:Nat) (a:AV) (v:Bc),l[i]?=some a->l'[i]?=some v->VR m a v):JT m l l':=by
 induction l generalizing l' with
 |nil=>cases l' with
  |nil=>exact .nil
  |cons=>simp at hl
 |cons a l ih=>
  cases l' with
  |nil=>simp at hl
  |cons v l'=>exact .cons _ _ _ _ (h 0 a v rfl rfl) (ih AZ λi a v h1 h2=>h (i+1) a v (by simpa using h1) AcT)
def JT.one{m:NO}{a:AV}{v:Bc}(h:VR m a v):JT m [a] [v]:=.cons _ _ _ _ h .nil
def VR.cells{m:NO}{a:AV}{v:Bc}(h:VR m a v):JT m a.cells v.cells.toList:=by
 cases h with
 |agg l l' h=>exact h
 |func=>exact .one (.func _ _ _ _ _ ‹_› ‹_› ‹_›)
 |int=>exact .one (.int _ _)
 |bool=>exact .one (.bool _)
 |HK=>exact .one (.HK _ _ _ ‹_› ‹_›)
 |G5=>exact .one (.G5 _ _ _ _ _ _ ‹_›)
 |Sm=>exact .one .Sm
 |slice=>exact .one (.slice _ _ _ _ _ _ _ _ _ ‹_› ‹_› ‹_› ‹_›)
 |LX=>exact .one .LX
 |map=>exact .one (.map _ _ _ _ ‹_›)
 |Q1=>exact .one .Q1
 |yield=>exact .one (.yield _ _ _ _ ‹_›)
 |Pq=>exact .one .Pq
 |iface=>exact .one (.iface _ _ _ ‹_›)
 |Pg=>exact .one .Pg
 |tuple=>exact .one (.tuple _ _ ‹_›)
def VR.Iu{m:NO}{a:AV}{v:Bc}(h:VR m a v)(ha:a.Iu=true):v.oneCell'=true:=by cases h<;>first|rfl|(simp[AV.Iu]at ha)
structure FR (m:NO) (nt:Nat) (fr:Tr AV) (tmps:Array Bc):Prop where
 size:tmps.size=nt
 get:∀t,VR m ((fr.get t).getD RY) (tmps.getD t undef)
def ae(m:NO):List (AV×AV)->List DT->Prop
 |[],[]=>True
 |(k,x)::r,e::r'=>VR m k e.key/\VR m x e.val/\ae m r r'
 |_,_=>False
def ARW:OT->Option DA->Prop
 | .normal,p=>p=none
 | .exit id,p=>p=some (.exit id)
 | .ret,p=>p=some .ret
def ag(m:NO)(w:World)(b:Nat):Obj->Prop
 | .Gy r=>r.Zv<r.nv/\(∀u,(m b u).isSome=true<->u<r.nv)/\
  ∀u B t e,m b u=some (B,t,e)->e=r.u7/\∃cs ty,w.heap[B]?=some (.cells cs ty (0,0))/\cs.size=t/\
   ∀i,i<r.n->(u=r.Zv\/i<r.Mw)->∃a v,r.cells.get i=some a/\cs[i]?=some v/\VR m a v
 | .map es=>(∀u,(m b u).isSome=true<->u=0)/\∀B t e,m b 0=some (B,t,e)->∃Jf HH,w.heap[B]?=some (.map Jf HH)/\ae m es Jf.toList
 | .loop L=>(∀u,(m b u).isSome=true<->u=0)/\∀B t e,m b 0=some (B,t,e)->∃fn tmps ay defers,
  w.heap[B]?=some (.loop {state:=L.state,pending:=ay,fn:=fn,tmps:=tmps,params:=L.params,assign:=L.assign,body:=L.body,defers:=defers})/\
  FR m L.nt L.tmps tmps/\ARW L.pending ay
structure IQ (m:NO) (h:Nat->Option Obj) (w:World):Prop where
 PX:∀b o,h b=some o->ag m w b o
 dom:∀b u p,m b u=some p->∃o,h b=some o
 QF:∀b u B t e b' u' t' e',m b u=some (B,t,e)->m b' u'=some (B,t',e')->b=b'
 lt:∀b u B t e,m b u=some (B,t,e)->B<w.heap.size
structure Jt (m:NO) (w:World) (m':NO) (w':World):Prop where
 le:m.le m'
 size:w.heap.size<=w'.heap.size
 iI:∀b u B t e,m' b u=some (B,t,e)->(∃b' u' t' e',m b' u'=some (B,t',e'))\/w.heap.size<=B
 Kv:∀B,B<w.heap.size->(∀b u t e,m b u≠some (B,t,e))->w'.heap[B]?=w.heap[B]?
 os:w'.os=w.os
 output:w'.output=w.output
 M4:∀a,w'.frozen? a=w.frozen? a
def Jt.refl(m:NO)(w:World):Jt m w m w:=⟨(NO.le_refl m),Bd _,λb u _ t e h=> .inl ⟨b,u,t,e,h⟩,λ_ _ _=>rfl,rfl,rfl,λ_=>rfl⟩
def Jt.trans{m m' m'':NO}{w w' w'':World}(h:Jt m w m' w')(h':Jt m' w' m'' w''):Jt m w m'' w'':=by
 refine⟨NO.le_trans h.le h'.le,CD h.size h'.size,?_,?_,h'.os.trans h.os,h'.output.trans h.output,λa=>(h'.M4 a).trans (h.M4 a)⟩
 .intro b u B t e hb;rcases h'.iI b u B t e hb with⟨b',u',t',e',h1⟩|h1
  .exact h.iI _ _ _ _ _ h1
  .exact Akc
 .intro B hB hn;rw[h'.Kv B (Cw hB h.size) ?_,h.Kv B hB hn];intro b u t e hb;rcases h.iI b u B t e hb with⟨b',u',t',e',h1⟩|h1
  .exact hn _ _ _ _ h1
  .omega
def Jt.drew(m:NO)(w:World):Jt m w m {w with drawn:=w.drawn+1}:=⟨(NO.le_refl m),Bd _,λb u _ t e h=> .inl ⟨b,u,t,e,h⟩,λ_ _ _=>rfl,rfl,rfl,λ_=>rfl⟩
def FR.mono{m m':NO}(h:m.le m'){nt:Nat}{fr:Tr AV}{tmps:AV0}(hf:FR m nt fr tmps):FR m' nt fr tmps:=⟨hf.size,λt=>(hf.get t).mono h⟩
def ae.mono{m m':NO}(h:m.le m'):∀{es:List (AV×AV)} {l:List DT},ae m es l->ae m' es l
 |[],[],_=>trivial
 |(_,_)::_,_::_,⟨h1,h2,h3⟩=>⟨h1.mono h,h2.mono h,h3.mono h⟩
 |[],_::_,h=>h
 |(_,_)::_,[],h=>h
def ag.mono{m m':NO}{w w':World}{b:Nat}{o:Obj}(hle:m.le m')(Km:∀u,m' b u=m b u)
  (hw:∀u B t e,m b u=some (B,t,e)->w'.heap[B]?=w.heap[B]?)(h:ag m w b o):ag m' w' b o:=by
 cases o with
 |Gy r=>
  obtain⟨h1,h2,h3⟩:=h;refine⟨h1,λu=>by rw[Km];exact h2 u,λu B t e hm=>?_⟩;rw[Km]at hm;obtain⟨he,cs,ty,hc,hs,hi⟩:=h3 u B t e hm;refine⟨he,cs,ty,by rw[hw u B t e hm];exact hc,hs,λi h1 h2=>?_⟩;obtain⟨a,v,ha,hv,hr⟩:=hi i h1 h2;exact⟨a,v,ha,hv,hr.mono hle⟩
 |map es=>
  obtain⟨h2,h3⟩:=h;refine⟨λu=>by rw[Km];exact h2 u,λB t e hm=>?_⟩;rw[Km]at hm;obtain⟨Jf,HH,hc,he⟩:=h3 B t e hm;exact⟨Jf,HH,by rw[hw 0 B t e hm];exact hc,he.mono hle⟩
 |loop L=>
  obtain⟨h2,h3⟩:=h;refine⟨λu=>by rw[Km];exact h2 u,λB t e hm=>?_⟩;rw[Km]at hm;obtain⟨fn,tmps,ay,defers,hc,hf,hp⟩:=h3 B t e hm;exact⟨fn,tmps,ay,defers,by rw[hw 0 B t e hm];exact hc,hf.mono hle,hp⟩
def IQ.congr{m:NO}{h h':Nat->Option Obj}{w:World}(hr:IQ m h w)(e:∀b,h' b=h b):IQ m h' w:=by have:h'=h:=funext e;rw[this];exact hr
def IQ.drew{m:NO}{h:Nat->Option Obj}{w:World}(hr:IQ m h w):IQ m h {w with drawn:=w.drawn+1}:=⟨λb o hb=>(hr.PX b o hb).mono (NO.le_refl m) (λ_=>rfl) λ_ _ _ _ _=>rfl,hr.dom,hr.QF,hr.lt⟩
def IQ.empty(w:World):IQ (λ_ _=>none) (λ_=>none) w:=⟨λ_ _ h=>AdK,λ_ _ _ h=>AdK,λ_ _ _ _ _ _ _ _ _ h=>AdK,λ_ _ _ _ _ h=>AdK⟩
def IQ.new{m:NO}{h:Nat->Option Obj}{w:World}(hr:IQ m h w){b:Nat}(hb:h b=none)(o:Obj)(PX:EN)(t e:Nat)
  (ho:∀m',m.le m'->(∀u,m' b u=if u=0 then some (w.heap.size,t,e)else none)->(w.alloc PX).heap[w.heap.size]?=some PX->ag m' (w.alloc PX) b o)
  (TL:∀a,(w.alloc PX).frozen? a=w.frozen? a):
  ∃m',Jt m w m' (w.alloc PX)/\IQ m' (λx=>if x=b then some o else h x) (w.alloc PX)/\m' b 0=some (w.heap.size,t,e):=by
 have hmb:∀u,m b u=none:=by
  intro u;cases hm:m b u with
  |none=>rfl
  |some p=>obtain⟨o',Xb⟩:=hr.dom _ _ _ hm;rw[hb]at Xb;cases Xb
 let m':NO:=λx u=>if x=b then(if u=0 then some (w.heap.size,t,e)else none)else m x u
 have hle:m.le m':=by
  intro x u p hx;show(if x=b then _ else _)=_;by_cases e':x=b
  .subst e';rw[hmb]at hx;cases hx
  .rw[Ng e'];exact hx
 have Sl:∀u,m' b u=if u=0 then some (w.heap.size,t,e)else none:=λu=>by simp[m']
 have NM:∀x u,x≠b->m' x u=m x u:=λx u hx=>by simp[m',hx]
 refine⟨m',⟨hle,AD,?_,?_,rfl,rfl,TL⟩,⟨?_,?_,?_,?_⟩,by rw[Sl];simp⟩
 .intro x u B t' e' hx;by_cases e1:x=b
  .subst e1;rw[Sl]at hx;split at hx
   .cases hx;exact .inr (Bd _)
   .cases hx
  .rw[NM x u e1]at hx;exact .inl ⟨_,_,_,_,hx⟩
 .intro B hB _;exact DE w PX B hB
 .intro x o' hx;by_cases e1:x=b
  .subst e1;rw[Ps rfl]at hx;cases hx;exact ho m' hle Sl (EK w PX)
  .rw[Ng e1]at hx;exact(hr.PX x o' hx).mono hle (λu=>NM x u e1) λu B t' e' hm=>DE w PX B (hr.lt _ _ _ _ _ hm)
 .intro x u p hx;by_cases e1:x=b
  .subst e1;exact⟨o,AD⟩
  .rw[NM x u e1]at hx;obtain⟨o',Xb⟩:=hr.dom _ _ _ hx;exact⟨o',by simp only[Ng e1];exact Xb⟩
 .intro x u B t1 e1 x' u' t2 e2 h1 h2;by_cases c1:x=b
  .by_cases c2:x'=b
   .rw[c1,c2]
   .subst c1;rw[Sl]at h1;rw[NM x' u' c2]at h2;split at h1
    .cases h1;have:=hr.lt _ _ _ _ _ h2;omega
    .cases h1
  .rw[NM x u c1]at h1;by_cases c2:x'=b
   .subst c2;rw[Sl]at h2;split at h2
    .cases h2;have:=hr.lt _ _ _ _ _ h1;omega
    .cases h2
   .rw[NM x' u' c2]at h2;exact hr.QF _ _ _ _ _ _ _ _ _ h1 h2
 .intro x u B t1 e1 h1;rw[Dz];by_cases c1:x=b
  .subst c1;rw[Sl]at h1;split at h1
   .cases h1;omega
   .cases h1
  .rw[NM x u c1]at h1;have:=hr.lt _ _ _ _ _ h1;omega
def IQ.ALf{m m':NO}{h:Nat->Option Obj}{w w':World}(hr:IQ m h w){b:Nat}{o:Obj}{B:Nat}
  (hle:m.le m')(NM:∀x u,x≠b->m' x u=m x u)
  (T9:∃u t e,m b u=some (B,t,e))
  (AKT:∀u B' t e,m' b u=some (B',t,e)->(∃u' t' e',m b u'=some (B',t',e')))
  (hw:∀B',B'≠B->w'.heap[B']?=w.heap[B']?)(N1:w'.heap.size=w.heap.size)
  (xX:w'.os=w.os)(fF:w'.output=w.output)(TL:∀a,w'.frozen? a=w.frozen? a)
  (ho:ag m' w' b o)(hb:∃o',h b=some o'):
  Jt m w m' w'/\IQ m' (λx=>if x=b then some o else h x) w':=by
 obtain⟨u0,t0,e0,hu0⟩:=T9;refine⟨⟨hle,by rw[N1];exact Bd _,?_,?_,xX,fF,TL⟩,⟨?_,?_,?_,?_⟩⟩
 .intro x u B' t e hx;by_cases c:x=b
  .subst c;obtain⟨u',t',e',h1⟩:=AKT _ _ _ _ hx;exact .inl ⟨_,_,_,_,h1⟩
  .rw[NM _ _ c]at hx;exact .inl ⟨_,_,_,_,hx⟩
 .intro B' _ hn;exact hw B' (λe=>hn b u0 t0 e0 (by rw[e];exact hu0))
 .intro x o' hx;by_cases c:x=b
  .subst c;rw[Ps rfl]at hx;cases hx;exact ho
  .rw[Ng c]at hx;refine(hr.PX x o' hx).mono hle (λu=>NM x u c) λu B' t e hm=>hw B' ?_;intro e';subst e';exact c (hr.QF _ _ _ _ _ _ _ _ _ hm hu0)
 .intro x u p hx;by_cases c:x=b
  .subst c;exact⟨o,AD⟩
  .rw[NM _ _ c]at hx;obtain⟨o',Xb⟩:=hr.dom _ _ _ hx;exact⟨o',by simp only[Ng c];exact Xb⟩
 .intro x u B' t1 e1 x' u' t2 e2 h1 h2;by_cases c1:x=b
  .by_cases c2:x'=b
   .rw[c1,c2]
   .subst c1;obtain⟨u3,t3,e3,h3⟩:=AKT _ _ _ _ h1;rw[NM _ _ c2]at h2;exact hr.QF _ _ _ _ _ _ _ _ _ h3 h2
  .rw[NM _ _ c1]at h1;by_cases c2:x'=b
   .subst c2;obtain⟨u3,t3,e3,h3⟩:=AKT _ _ _ _ h2;exact hr.QF _ _ _ _ _ _ _ _ _ h1 h3
   .rw[NM _ _ c2]at h2;exact hr.QF _ _ _ _ _ _ _ _ _ h1 h2
 .intro x u B' t1 e1 h1;rw[N1];by_cases c1:x=b
  .subst c1;obtain⟨u3,t3,e3,h3⟩:=AKT _ _ _ _ h1;exact hr.lt _ _ _ _ _ h3
  .rw[NM _ _ c1]at h1;exact hr.lt _ _ _ _ _ h1
section
def I7{α β:Type}{x:M α}{f:α->M β}{s:St}{b:β}{s':St}(h:(x>>=f).run s=.ok b s'):
 ∃a s1,x.run s=.ok a s1/\(f a).run s1=.ok b s':=bp.1 h
def IS{α:Type}{a b:α}{s s':St}(h:(pure a:M α).run s=.ok b s'):b=a/\s'=s:=by cases h;exact⟨rfl,rfl⟩
def HR{α:Type}{b:α}{s s':St}(h:(H9:M α).run s=.ok b s'):False:=by cases h
def tL{α:Type}{x:Option α}{a:α}{s s':St}(h:(qD x).run s=.ok a s'):x=some a/\s'=s:=by
 unfold qD at h;cases x with
 |none=>exact(HR h).elim
 |some b=>obtain⟨rfl,rfl⟩:=IS h;exact⟨rfl,rfl⟩
def fN{α:Type}{b:Nat}{f:Obj->Option α}{s:St}{a:α}{s':St}(h:(jd b f).run s=.ok a s'):
  ∃o,s.heap.get b=some o/\f o=some a/\s'.heap=s.heap/\s'.next=s.next:=by
 obtain⟨_,o,h1,h2,rfl⟩:=cq.1 h;exact⟨o,h1,h2,rfl,rfl⟩
def dR{α:Type}{b:Nat}{f:Obj->Option (α×Obj)}{s:St}{a:α}{s':St}(h:(n8 b f).run s=.ok a s'):
  ∃o o',s.heap.get b=some o/\f o=some (a,o')/\s'.heap=s.heap.set b o'/\s'.next=s.next:=by
 obtain⟨_,o,o',h1,h2,rfl⟩:=il.1 h;exact⟨o,o',h1,h2,rfl,rfl⟩
def zf{o:Obj}{s:St}{b:Nat}{s':St}(h:(newObj o).run s=.ok b s'):b=s.next/\s'.heap=s.heap.set s.next o/\s'.next=s.next+1:=by cases h;exact⟨rfl,rfl,rfl⟩
def KF(s s':St):Prop:=∀b,s.next<=b->b<s'.next->s.heap.get b=none
def M.tF{α:Type}{x:M α}{s:St}{a:α}{s':St}(h:x.run s=.ok a s'):s.next<=s'.next:=by obtain⟨r,w,L⟩:=x.loc _ _ _ h;exact L.next
def KF.left{s s1 s':St}(h:KF s s')(h1:s1.next<=s'.next):KF s s1:=λb h2 h3=>h b h2 AA
def KF.right{α:Type}{x:M α}{s:St}{a:α}{s1 s':St}(hx:x.run s=.ok a s1)(h:KF s s'):KF s1 s':=by obtain⟨r,w,L⟩:=x.loc _ _ _ hx;intro b h2 h3;exact L.dom b (h b (CD L.next h2) h3) (.inr h2)
def KF.split{α β:Type}{x:M α}{y:M β}{s:St}{a:α}{b:β}{s1 s':St}(hx:x.run s=.ok a s1)(hy:y.run s1=.ok b s')(h:KF s s'):
 KF s s1/\KF s1 s':=⟨h.left (M.tF hy),h.right hx⟩
def T3(l:List AV):∀(i:Nat) (t:Tr AV) (j:Nat),(Qu l i t).get j=if i<=j/\j<i+l.length then l[j-i]? else t.get j:=by
 induction l with
 |nil=>intro i t j;simp only[Qu,List.length_nil];rw[Ng AA]
 |cons x l ih=>
  intro i t j;simp only[Qu,ih,Tr.Lb,CG];by_cases h1:i+1<=j/\j<i+1+l.length
  .rw[Ps h1,Ps AA];have:j-i=(j-(i+1))+1:=AA;rw[this];simp
  .rw[Ng h1];by_cases h2:j=i
   .subst h2;rw[Ps rfl,Ps AA];simp
   .rw[Ng h2,Ng AA]
def Cs.AOj(xs:List AV)(j:Nat):(Cs.of xs).get j=xs[j]?:=by
 unfold Cs.of;cases Ct xs.length 16 with
 |true=>rfl
 |false=>
  show(Qu xs 0 .nil).get j=xs[j]?;rw[T3];by_cases h:j<xs.length
  .rw[Ps AA];rfl
  .rw[Ng AA,Tr.ABK,CA AA]
def Cs.Ve(xs:List AV)(i:Nat)(c:Cs)(j:Nat):(Cs.fill xs i c).get j=if i<=j/\j<i+xs.length then xs[j-i]? else c.get j:=by
 cases c with
 |AEE t=>exact T3 xs i t j
 |AGb l=>
  simp only[Cs.fill];cases hb:Ct (i+xs.length) l.length with
  |true=>
   have hle:=E9 hb;show(l.take i++(xs++l.drop (i+xs.length)))[j]?=_;have hl:(l.take i).length=i:=by rw[C1];omega
   by_cases h1:j<i
   .rw[B5 AA,Ng AA,Cr,Ps h1];rfl
   .rw[CU AA,hl];by_cases h2:j<i+xs.length
    .rw[B5 AA,Ps AA]
    .rw[CU AA,Ng AA,Cg];show l[_]?=l[j]?;congr 1;omega
  |false=>
   show(Qu xs i (Qu l 0 .nil)).get j=_;rw[T3];by_cases h:i<=j/\j<i+xs.length
   .rw[Ps h,Ps h]
   .rw[Ng h,Ng h,T3];show _=l[j]?;by_cases h:j<l.length
    .rw[Ps AA];rfl
    .rw[Ng AA,Tr.ABK,CA AA]
def tR{t:Cs}:∀{n i:Nat} {l:List AV},Vu t i n=some l->l.length=n/\∀j,j<n->t.get (i+j)=l[j]?:=by
 intro n
 induction n with
 |zero=>intro i l h;simp[Vu]at h;subst h;exact⟨rfl,λj hj=>by omega⟩
 |succ n ih=>
  intro i l h;simp only[Vu]at h;cases ht:t.get i with
  |none=>simp[ht]at h
  |some x=>
   cases hr:Vu t (i+1) n with
   |none=>simp[ht,hr]at h
   |some r=>
    simp[ht,hr]at h;subst h;obtain⟨h1,h2⟩:=ih hr;refine⟨by simp[h1],λj hj=>?_⟩;cases j with
    |zero=>simpa using ht
    |succ j=>have:=h2 j AA;rw[show i+(j+1)=i+1+j by omega,this];simp
def Sf{a b:Nat}(h:a≠b):Bo a b=false:=by
 cases e:Bo a b with
 |false=>rfl
 |true=>exact Zq (Bu e) h
def To(a:Nat):Bo a a=true:=by rw[Ff]
def aA{r:dW}{v AEM:Nat}(h:r.oT v AEM=true):AEM<=r.n/\(v=r.Zv\/(v<r.nv/\AEM<=r.Mw)):=by unfold dW.oT at h;simp only[Bk,DU,Nat.ble_eq,Ff,Nat.blt_eq]at h;exact h
section
variable{P:Program} {m:NO} {w:World}
def AHU{h:Nat->Option Obj}(hr:IQ m h w){b v i n:Nat}{o:Obj}{l:List AV}(ho:h b=some o)(hl:fV v i n o=some l)
  {B t e:Nat}(hm:m b v=some (B,t,e)):
  ∃l',JT m l l'/\l'.length=n/\∀j u,l'[j]?=some u->w.cell? ((⟨B,i,none⟩:EW).add j)=some u:=by
 cases o with
 |map es=>simp[fV]at hl
 |loop L=>simp[fV]at hl
 |Gy r=>
  simp only[fV]at hl;cases hf:r.oT v (i+n)with
  |false=>simp[hf]at hl
  |true=>
   rw[hf]at hl;simp only[cond_true]at hl;obtain⟨h1,h2⟩:=tR hl;obtain⟨hn,hv⟩:=aA hf;obtain⟨_,_,h5⟩:=hr.PX b _ ho;obtain⟨_,cs,ty,Jw,_,hi⟩:=h5 v B t e hm
   have Ja:∀j,j<n->∃a u,l[j]?=some a/\cs[i+j]?=some u/\VR m a u:=by
    intro j hj;obtain⟨a,u,ha,hu,ZE⟩:=hi (i+j) AA AO;rw[h2 j hj]at ha;exact⟨a,u,ha,hu,ZE⟩
   refine⟨(Bw n).map λj=>(cs[i+j]?).getD undef,JT.nO (by simp[h1]) ?_,AD,?_⟩
   .intro j a u ha hu;have hj:j<n:=by rw[<- h1];exact(Bn.1 ha).1
    obtain⟨a',u',oE,hu',ZE⟩:=Ja j hj;rw[ha]at oE;cases oE;simp[hj,hu']at hu;subst hu;exact ZE
   .intro j u hu;have hj:j<n:=by have:=(Bn.1 hu).1;simpa using this
    obtain⟨a',u',oE,hu',ZE⟩:=Ja j hj;simp[hj,hu']at hu;subst hu;have yq:(⟨B,i,none⟩:EW).add j=⟨B,i+j,none⟩:=by unfold Addr.add;split<;>simp_all
    rw[yq,Db w B (i+j) cs ty (0,0) Jw,hu']
def VG{s:St}(hr:IQ m s.heap.get w){b v i n:Nat}{l:List AV}{s':St}(h:(aV b v i n).run s=.ok l s'){B t e:Nat}(hm:m b v=some (B,t,e)):
  ∃l',JT m l l'/\l'.length=n/\(∀j u,l'[j]?=some u->w.cell? ((⟨B,i,none⟩:EW).add j)=some u)/\(loadCells ⟨B,i,none⟩ n).run P w=.ok l'.toArray w/\s'.heap=s.heap/\s'.next=s.next:=by
 obtain⟨o,h1,h2,h3,h4⟩:=fN h;obtain⟨l',sT,jI,sU⟩:=AHU hr h1 h2 hm;refine⟨l',sT,jI,sU,?_,h3,h4⟩;rw[<- jI];exact run_loadCells_list w _ _ sU
def tQ{s:St}(hr:IQ m s.heap.get w){b v i:Nat}{a:AV}{s':St}(h:(wj b v i).run s=.ok a s'){B t e:Nat}(hm:m b v=some (B,t,e)):
  ∃u,VR m a u/\w.cell? ⟨B,i,none⟩=some u/\s'.heap=s.heap/\s'.next=s.next:=by
 obtain⟨o,h1,h2,h3,h4⟩:=fN h;cases o with
 |map es=>simp[kI]at h2
 |loop L=>simp[kI]at h2
 |Gy r=>
  simp only[kI]at h2;cases hf:r.oT v (i+1)with
  |false=>simp[hf]at h2
  |true=>
   rw[hf]at h2;simp only[cond_true]at h2;obtain⟨hn,hv⟩:=aA hf;obtain⟨_,_,h5⟩:=hr.PX b _ h1;obtain⟨_,cs,ty,Jw,_,hi⟩:=h5 v B t e hm;obtain⟨a',u,ha,hu,ZE⟩:=hi i AA AO;rw[h2]at ha;cases ha;exact⟨u,ZE,by rw[Db w B i cs ty (0,0) Jw,hu],h3,h4⟩
def KY(w:World)(o:EN)(h:∀c t fr,o=.cells c t fr->fr=(0,0))(a:EW):(w.alloc o).frozen? a=w.frozen? a:=by
 by_cases ha:a.block=w.heap.size
 .have e1:(w.alloc o).heap[a.block]?=some o:=by rw[ha];exact EK w o
  have e2:w.heap[a.block]?=none:=by rw[ha];simp
  simp only[Du,e1,e2];cases o with
  |cells c t fr=>rw[h c t fr rfl];simp
  |_=>rfl
 .by_cases H5:a.block<w.heap.size
  .simp only[Du,DE w o a.block H5]
  .have e1:(w.alloc o).heap[a.block]?=none:=by show(w.heap.push o)[a.block]?=none;simp;omega
   have e2:w.heap[a.block]?=none:=by simp;omega
   simp only[Du,e1,e2]
def ABm{s:St}(hr:IQ m s.heap.get w){l:List AV}{cells:AV0}{e:Bm}{u7:Nat}{o:Obj}
  (ho:o=.Gy {n:=l.length,cells:=Cs.of l,Zv:=0,nv:=1,Mw:=q8,u7:=u7})
  {b:Nat}{s':St}(h:(newObj o).run s=.ok b s')(hf:KF s s')
  (hl:JT m l (cells.toList.take l.length)):
  ∃m',Jt m w m' (w.alloc (.cells cells e))/\IQ m' s'.heap.get (w.alloc (.cells cells e))/\m' b 0=some (w.heap.size,cells.size,u7):=by
 subst ho;obtain⟨rfl,h2,h3⟩:=zf h;have hb:s.heap.get s.next=none:=hf _ (Bd _) AA
 obtain⟨m',h5,h6,h7⟩:=hr.new hb (.Gy {n:=l.length,cells:=Cs.of l,Zv:=0,nv:=1,Mw:=q8,u7:=u7}) (.cells cells e) cells.size u7 (by
  intro m' APC Sl Ja;refine⟨AD,λu=>by rw[Sl];split<;>simp<;>omega,?_⟩;intro u B t e' hm;rw[Sl]at hm;split at hm
  .cases hm;refine⟨rfl,cells,e,Ja,rfl,λi hi _=>?_⟩;simp only at hi;obtain⟨a,ha⟩:∃a,l[i]?=some a:=⟨l[i],by simp[hi]⟩
   obtain⟨v,hv,ZE⟩:=hl.get ha;rw[Cr,Ps hi]at hv;refine⟨a,v,?_,by simpa using hv,ZE.mono APC⟩;show(Cs.of l).get i=some a;rw[Cs.AOj];exact ha
  .cases hm) (KY w _ Adr)
 refine⟨m',h5,?_,h7⟩;refine h6.congr λx=>?_;rw[h2,Tr.Lb]
def L8(w:World)(g:Nat)(old cs:AV0)(ty:Bm)(hg:w.heap[g]?=some (.cells old ty (0,0))):
  (w.setRow g cs).heap[g]?=some (.cells cs ty (0,0))/\(∀k,k≠g->(w.setRow g cs).heap[k]?=w.heap[k]?)/\(w.setRow g cs).heap.size=w.heap.size/\
  ∀a,(w.setRow g cs).frozen? a=w.frozen? a:=by
 have h1:=setRow_heap w g old cs ty (0,0) hg;have h2:∀k,k≠g->(w.setRow g cs).heap[k]?=w.heap[k]?:=λk hk=>setRow_other w g k cs hk;refine⟨h1,h2,by simp[World.setRow],λa=>?_⟩;by_cases e:a.block=g
 .simp only[Du,e,h1,hg]
 .simp only[Du,h2 _ e]
def NJ(cs:LV)(i:Nat)(xs:LV)(h:i+xs.length<=cs.length)(j:Nat):
  (cs.take i++xs++cs.drop (i+xs.length))[j]?=if i<=j/\j<i+xs.length then xs[j-i]? else cs[j]?:=by
 by_cases h1:j<i
 .rw[Ng AA,CN,B5 AB,Cr,Ps h1]
 .by_cases h2:j<i+xs.length
  .rw[Ps AA,B5 AB,CU AB];congr 1;simp;omega
  .rw[Ng AA,CU AB,Cg];congr 1;simp;omega
def KP(cs:LV)(i:Nat)(xs:LV)(h:i+xs.length<=cs.length):(cs.take i++xs++cs.drop (i+xs.length)).length=cs.length:=by simp;omega
def Tk{l:List AV}{l':LV}(h:JT m l l')(ha:l.all AV.Iu=true):∀v∈l',v.oneCell'=true:=by
 induction l generalizing l' with
 |nil=>cases h;simp
 |cons a l ih=>
  cases h with
  |cons _ v _ l' h1 h2=>
   simp only[Cl,Bk]at ha;intro x hx;rcases Bz.1 hx with rfl|hx
   .exact h1.Iu ha.1
   .exact ih h2 ha.2 x hx
def qd{s:St}(hr:IQ m s.heap.get w){b v i:Nat}{xs:List AV}{Nn:LV}{s':St}(h:(dU b v i xs).run s=.ok () s')
  {B t e:Nat}(hm:m b v=some (B,t,e))(hx:JT m xs Nn):
  ∃w',(storeCells ⟨B,i,none⟩ Nn 0).run P w=.ok () w'/\Jt m w m w'/\IQ m s'.heap.get w':=by
 cases hxs:xs with
 |nil=>
  subst hxs;cases hx;obtain⟨_,rfl⟩:=IS (h:(pure ():M Unit).run s=.ok () s');exact⟨w,rfl,Jt.refl m w,hr⟩
 |cons x0 xr=>
  have h':(n8 b (Zh v i xs)).run s=.ok () s':=by rw[hxs]at h⊢;exact h
  obtain⟨o,o',h1,h2,h3,h4⟩:=dR h';cases o with
  |map es=>simp[Zh]at h2
  |loop L=>simp[Zh]at h2
  |Gy r=>
   simp only[Zh]at h2;cases hf:r.oT v (i+xs.length)&&xs.all AV.Iu with
   |false=>simp[hf]at h2
   |true=>
    rw[hf]at h2;simp only[cond_true,Ba,CM,true_and]at h2;obtain⟨Nm,OK⟩:=GD.1 hf;obtain⟨hn,hv⟩:=aA Nm;have ho:=hr.PX b _ h1;obtain⟨ATO,hnv,h5⟩:=ho;obtain⟨AO4,cs,ty,Jw,hct,hi⟩:=h5 v B t e hm;have II:=hx.length;have Xm:0<xs.length:=by rw[hxs];simp
    have AGA:i+Nn.length<=cs.toList.length:=by
     obtain⟨a,u,_,hu,_⟩:=hi (i+xs.length-1) AA AO;have:=(B4.1 hu).1;simp;omega
    have H4:=run_storeCells_at (P:=P) B i ty Nn 0 cs w Jw (by simpa using AGA) (Tk hx OK);simp only[DF]at H4;obtain⟨g1,g2,g3,g4⟩:=L8 w B cs (cs.toList.take i++Nn++cs.toList.drop (i+Nn.length)).toArray ty Jw;refine⟨_,H4,?_⟩
    have key:=hr.ALf (m':=m) (b:=b) (B:=B) (o:=o') (w':=w.setRow B (cs.toList.take i++Nn++cs.toList.drop (i+Nn.length)).toArray)
     (NO.le_refl m) (λ_ _ _=>rfl) ⟨v,t,e,hm⟩ (λu B' t e hh=>⟨u,t,e,hh⟩) g2 g3 rfl rfl g4 ?_ ⟨_,h1⟩
    .refine⟨key.1,key.2.congr λx=>?_⟩;rw[h3,Tr.Lb]
    .rw[<- h2];have AX9:v<r.nv:=by rw[<- hnv];rw[hm];rfl
     refine⟨AX9,hnv,λu B' t' e' hm'=>?_⟩;obtain⟨ATY,NL,ik,SG,ATN,VI⟩:=h5 u B' t' e' hm';refine⟨ATY,?_⟩
     have Sl:∀j,j<(bif Bo v r.Zv then r.n else min r.n r.Mw)->(u=v\/j<(bif Bo r.nv 1 then r.Mw else min r.Mw i))->
       j<r.n/\(u=r.Zv\/j<r.Mw)/\(u=v\/j<i\/r.nv=1):=by
      intro j hj1 pY;by_cases vm:v=r.Zv
      .rw[vm,To]at hj1;simp only[cond_true]at hj1;refine⟨hj1,?_,?_⟩
       .rcases pY with h|h
        .exact .inl (h.trans vm)
        .right;revert h;cases Bo r.nv 1<;>simp<;>omega
       .exact Agg
      .rw[Sf vm]at hj1;simp only[cond_false]at hj1;have vW:=(hv.resolve_left vm).2;refine⟨AA,.inr AA,?_⟩;exact Agg
     by_cases hB:B'=B
     .subst hB;rw[Jw]at SG;cases SG;refine⟨_,ty,g1,?_,?_⟩
      .rw[<- ATN];simp only[Ci,KP _ _ _ AGA,CB]
      .intro j hj1 pY;obtain⟨k1,k2,k3⟩:=Sl j hj1 pY;obtain⟨a,u',ha,hu',ZE⟩:=VI j k1 k2;simp only[List.getElem?_toArray,NJ _ _ _ AGA,Cs.Ve];by_cases T9:i<=j/\j<i+xs.length
       .rw[Ps AA,Ps AA];obtain⟨a1,Me⟩:∃a1,xs[j-i]?=some a1:=⟨xs[j-i]' AA,by rw[BZ]⟩
        obtain⟨u1,hu1,AYB⟩:=hx.get Me;exact⟨a1,u1,Me,hu1,AYB⟩
       .rw[Ng AA,Ng AA];exact⟨a,u',ha,by simpa using hu',ZE⟩
     .refine⟨NL,ik,by rw[g2 B' hB];exact SG,ATN,λj hj1 pY=>?_⟩;obtain⟨k1,k2,k3⟩:=Sl j hj1 pY;obtain⟨a,u',ha,hu',ZE⟩:=VI j k1 k2;simp only[Cs.Ve]
      have MT:u≠v:=by
       rintro rfl;rw[hm]at hm';cases hm';exact hB rfl
      have Vh:r.nv≠1:=by
       intro h1';have:u<r.nv:=by rw[<- hnv,hm'];rfl
       exact MT AA
      have hji:j<i:=by rcases k3 with h|h|h;exact Zq h MT;exact h;exact Zq h Vh
      rw[Ng AA];exact⟨a,u',ha,hu',ZE⟩
end
end
section
section
variable{P:Program} {m:NO} {w:World}
def PG{t:Bm}{n:Nat}(h:ND P t=some n):∃i,P.info? t=some i/\i.size=n:=by
 unfold ND at h;cases hi:P.info? t with
 |none=>simp[hi]at h
 |some i=>simp[hi]at h;exact⟨i,rfl,h⟩
def L5{t:Bm}{n:Nat}(h:Ox P t=some n):∃i,P.info? t=some i/\i.bytes=n:=by
 unfold Ox at h;cases hi:P.info? t with
 |none=>simp[hi]at h
 |some i=>simp[hi]at h;exact⟨i,rfl,h⟩
def H0{t:Bm}{n:Nat}(h:ND P t=some n)(w:World):(En t).run P w=.ok n w:=by obtain⟨i,hi,rfl⟩:=PG h;simp[En,Dk,hi]
def JF{t e:Bm}(h:La P t=some e):P.underlying t=some (.slice e):=by
 unfold La at h;split at h
 .rename_i e' he;simp at h;subst h;exact he
 .cases h
def XI{t k e:Bm}(h:XH P t=some (k,e)):P.underlying t=some (.map k e):=by
 unfold XH at h;split at h
 .rename_i k' e' he;simp at h;obtain⟨rfl,rfl⟩:=h;exact he
 .cases h
def Md{t:Bm}{f:Nat}{fd:FY}(h:RO P t f=some fd):∃fs,P.underlying t=some (.struct fs)/\fs[f]?=some fd:=by
 unfold RO at h;split at h
 .rename_i fs hfs;exact⟨fs,hfs,h⟩
 .cases h
def KE{t:Bm}{b:Bool}(h:P6 P t=some b)(w:World):(isAgg t).run P w=.ok b w:=by
 unfold P6 at h;split at h
 .exact Aj7
 .exact Aj7
 .rename_i d h1 h2 hd;simp at h;subst h;cases d<;>first|(exact(h1 _ rfl).elim)|(exact(h2 _ _ rfl).elim)|simp[isAgg,Bb hd]
 .cases h
def bC{v:Bc}{a:AV}(h:VM v=some a):VR m a v:=by
 unfold VM at h;split at h<;>first|(cases h;done)|skip
 all_goals(simp at h;subst h)
 .exact .bool _
 .exact .int _ _
 .exact .HK _ _ _ rfl rfl
 .exact .Sm
 .exact .LX
 .exact .Q1
 .exact .Pq
 .exact .Pg
def Xv:∀{l:LV} {k:List AV},Sy l=some k->JT m k l
 |[],k,h=>by simp[Sy]at h;subst h;exact .nil
 |v::r,k,h=>by
  simp only[Sy]at h;cases h1:VM v with
  |none=>simp[h1]at h
  |some a=>
   cases h2:Sy r with
   |none=>simp[h1,h2]at h
   |some l=>simp[h1,h2]at h;subst h;exact .cons _ _ _ _ (bC h1) (Xv h2)
def WI{v:Bc}{a:AV}(h:Xu v=some a):VR m a v:=by
 unfold Xu at h;split at h
 .rename_i cs;cases h2:Sy cs.toList with
  |none=>simp[h2]at h
  |some l=>simp[h2]at h;subst h;exact .agg _ cs.toList (Xv h2)
 .rename_i cs;cases h2:Sy cs.toList with
  |none=>simp[h2]at h
  |some l=>simp[h2]at h;subst h;exact .tuple _ cs.toList (Xv h2)
 .exact bC h
def oA{t:Bm}{z:AV}(h:bg P t=some z):∃i v,P.info? t=some i/\i.zero=some v/\Xu v=some z:=by
 unfold bg at h;cases hi:P.info? t with
 |none=>simp[hi]at h
 |some i=>
  cases hz:i.zero with
  |none=>simp[hi,hz]at h
  |some v=>simp[hi,hz]at h;exact⟨i,v,rfl,hz,h⟩
def Pk{t:Bm}{z:AV}(h:bg P t=some z)(w:World):∃v,(EX t).run P w=.ok v w/\∀m,VR m z v:=by obtain⟨i,v,hi,hz,hc⟩:=oA h;exact⟨v,by simp[EX,Dk,hi,hz],λm=>WI hc⟩
def ZM{a:AV}{n:Nat}(h:a.nat=some n){v:Bc}(hv:VR m a v):∃k,v=.int k (n:Int):=by
 cases hv<;>simp[AV.nat]at h;rename_i k i;cases i with
 |ofNat j=>simp at h;subst h;exact⟨k,rfl⟩
 |negSucc j=>simp at h
def m9{s:St}(hr:IQ m s.heap.get w){t:Bm}{a x:AV}{v:Bc}{s':St}(h:(p6 P t a).run s=.ok x s')(ha:VR m a v):
  ∃v',(DZ t v).run P w=.ok v' w/\VR m x v'/\s'.heap=s.heap/\s'.next=s.next:=by
 cases ha<;>simp only[p6]at h<;>first|exact(HR h).elim|skip
 rename_i b u o B t' e hm;cases PM:P6 P t with
 |none=>rw[PM]at h;exact(HR h).elim
 |some g=>
  rw[PM]at h;cases g with
  |true=>
   cases hs:ND P t with
   |none=>rw[hs]at h;exact(HR h).elim
   |some n=>
    rw[hs]at h;obtain⟨l,s1,h1,h2⟩:=I7 h;obtain⟨rfl,rfl⟩:=IS h2;obtain⟨l',g1,g2,g3,g4,g5,g6⟩:=VG (P:=P) hr h1 hm;exact⟨.agg l'.toArray,by simp[DZ,Cu,loadVar,KE PM,H0 hs,g4],.agg _ _ g1,g5,g6⟩
  |false=>
   obtain⟨u',g1,g2,g3,g4⟩:=tQ hr h hm;exact⟨u',by simp[DZ,Cu,loadVar,KE PM,g2],g1,g3,g4⟩
def AD9{s:St}(hr:IQ m s.heap.get w){t:Bm}{a x y:AV}{v u:Bc}{s':St}(h:(AAT P t a x).run s=.ok y s')(ha:VR m a v)(hx:VR m x u):
  ∃w',(FI t v u).run P w=.ok () w'/\Jt m w m w'/\IQ m s'.heap.get w'/\y=RY:=by
 cases ha<;>simp only[AAT]at h<;>first|exact(HR h).elim|skip
 rename_i b ver o B t' e hm;cases hs:ND P t with
 |none=>rw[hs]at h;exact(HR h).elim
 |some n=>
  rw[hs]at h;cases hn:Bo x.cells.length n with
  |false=>simp only[hn,cond_false]at h;exact(HR h).elim
  |true=>
   simp only[hn,cond_true]at h;obtain⟨_,s1,h1,h2⟩:=I7 h;obtain⟨rfl,rfl⟩:=IS h2;obtain⟨w',g1,g2,g3⟩:=qd (P:=P) hr h1 hm hx.cells
   have II:u.cells.size=n:=by
    have:=hx.cells.length;rw[Bu hn]at this;exact AjU
   exact⟨w',by simp[FI,Cu,storeVar,H0 hs,II,g1],g2,g3,rfl⟩
def XK{s:St}(hr:IQ m s.heap.get w){l:List AV}{cells:AV0}{ty:Bm}{b:Nat}{s':St}(h:(newRow l).run s=.ok b s')(hf:KF s s')
  (hl:JT m l cells.toList):∃m',Jt m w m' (w.alloc (.cells cells ty))/\IQ m' s'.heap.get (w.alloc (.cells cells ty))/\m' b 0=some (w.heap.size,cells.size,0):=
 ABm hr (u7:=0) (l:=l) (e:=ty) rfl h hf (by
  have:l.length=cells.toList.length:=hl.length;rw[CJ AA];exact hl)
def Ll(e:Bm)(cells:AV0)(w:World):(Go.newRow e cells).run P w=.ok ⟨w.heap.size,0,none⟩ (w.alloc (.cells cells e)):=by simp only[Go.newRow,Bh];rfl
def ACY{s:St}(hr:IQ m s.heap.get w){e:Bm}{z:AV}(hz:bg P e=some z){b:Nat}{s':St}(h:(newRow z.cells).run s=.ok b s')(hf:KF s s'):
  ∃v w' m',(GF e true (.tuple #[])).run P w=.ok v w'/\Jt m w m' w'/\IQ m' s'.heap.get w'/\VR m' (.G5 b 0 0) v:=by
 obtain⟨v,hv,ZE⟩:=Pk hz w;obtain⟨m',g1,g2,g3⟩:=XK (ty:=e) hr h hf (ZE m).cells;exact⟨.pointer (some ⟨w.heap.size,0,none⟩),_,m',by simp[GF,hv,newVar,Ll],g1,g2,.G5 _ _ _ _ _ _ g3⟩
def AIn{s:St}(hr:IQ m s.heap.get w){e:Bm}{x:AV}{u:Bc}(hx:VR m x u){b:Nat}{s':St}(h:(newRow x.cells).run s=.ok b s')(hf:KF s s'):
  ∃v w' m',(Instr.box e u).run P w=.ok v w'/\Jt m w m' w'/\IQ m' s'.heap.get w'/\VR m' (.G5 b 0 0) v:=by
 obtain⟨m',g1,g2,g3⟩:=XK (ty:=e) hr h hf hx.cells;exact⟨.pointer (some ⟨w.heap.size,0,none⟩),_,m',by simp[Instr.box,newVar,Ll],g1,g2,.G5 _ _ _ _ _ _ g3⟩
def XV(m:NO):List (Nat×AV)->List (Nat×Bc)->Prop
 |[],[]=>True
 |(i,a)::r,(j,v)::r'=>i=j/\VR m a v/\XV m r r'
 |_,_=>False
def Vc(xs:LV):∀(cs:AV0) (off k:Nat),
  off+k+xs.length<=cs.size->
  ((xs.zipIdx k).foldl (λcs (x:Bc×Nat)=>cs.setIfInBounds (off+x.2) x.1) cs).toList=cs.toList.take (off+k)++xs++cs.toList.drop (off+k+xs.length):=by
 induction xs with
 |nil=>intro cs off k h;simp
 |cons x xs ih=>
  intro cs off k h;simp only[CG]at h;simp only[List.zipIdx_cons,List.foldl_cons];rw[ih _ off (k+1) AB];apply Dc;intro j;have hl:off+(k+1)+xs.length<=(cs.setIfInBounds (off+k) x).toList.length:=by simp only[CB,Array.size_setIfInBounds];omega
  rw[NJ _ _ _ hl,NJ _ _ _ (by rw[CG,CB];omega)];simp only[CG,Array.toList_setIfInBounds];by_cases h1:off+(k+1)<=j/\j<off+(k+1)+xs.length
  .rw[Ps h1,Ps AA,show j-(off+k)=(j-(off+(k+1)))+1 by omega];simp
  .rw[Ng h1];by_cases h2:j=off+k
   .subst h2;rw[Ps AA,Nat.sub_self,List.getElem?_cons_zero,List.getElem?_set_self (by rw[CB];omega)]
   .rw[Ng AA,List.getElem?_set_ne AA]
def Rx(cs:AV0):cs.zipIdx.toList=cs.toList.zipIdx:=by simp
def T1{JV dF:Nat->Option (Nat×Nat)}(hp:∀i p,dF i=some p->JV i=some p):∀{Iv:List (Nat×AV)} {Lt:List (Nat×Bc)} {l k:List AV} {cs:AV0},
  XV m Iv Lt->JT m l cs.toList->lj dF l Iv=some k->∃NL,FB JV cs Lt=some NL/\JT m k NL.toList
 |[],[],l,k,cs,_,hl,h=>by simp[lj]at h;subst h;exact⟨cs,rfl,hl⟩
 |(i,a)::r,(j,v)::r',l,k,cs,hpr,hl,h=>by
  obtain⟨rfl,hav,KT⟩:=hpr;simp only[lj]at h;cases au:dF i with
  |none=>simp[au]at h
  |some p=>
   obtain⟨off,size⟩:=p;simp only[au]at h;cases hc:Bo a.cells.length size&&Ct (off+a.cells.length) l.length with
   |false=>simp[hc]at h
   |true=>
    simp only[hc,cond_true]at h;simp only[Bk,Ff,Nat.ble_eq]at hc;have II:=hl.length;have RF:=hav.cells.length;simp only[CB]at II RF;have jH:=Vc v.cells.toList cs off 0 AB;simp only[DF,CB]at jH
    have hrel:JT m (nj l off a.cells) ((v.cells.zipIdx.foldl (λcs (x:Bc×Nat)=>cs.setIfInBounds (off+x.2) x.1) cs)).toList:=by
     rw[<- Array.foldl_toList,Rx,jH];unfold nj;rw[RF];exact((hl.take off).append hav.cells).append (hl.drop _)
    obtain⟨NL,g1,g2⟩:=T1 hp KT hrel h;refine⟨NL,?_,g2⟩;simp only[FB,hp _ _ au];rw[Ng]
    .exact g1
    .simp;omega
 |[],_::_,_,_,_,h,_,_=>h.elim
 |(_,_)::_,[],_,_,_,h,_,_=>h.elim
def gF{t:Bm}{Iv:List (Nat×AV)}{Lt:Array (Nat×Bc)}(hp:XV m Iv Lt.toList){a:AV}(h:yD P t Iv=some a)(w:World):
  ∃v,(Er t Lt).run P w=.ok v w/\VR m a v:=by
 unfold yD at h;cases hz:bg P t with
 |none=>simp[hz]at h
 |some z=>
  obtain⟨zv,da,vn⟩:=Pk hz w;simp only[hz]at h;split at h
  .rename_i NH hu;cases Jg:PY P NH.toList with
   |false=>simp[Jg]at h
   |true=>
    simp only[Jg,cond_true]at h;split at h
    .rename_i l hl;simp at h;subst h
     have sf:∃XO:Array (Nat×Nat),(NH.mapM (m:=Sem) λf=>do pure (f.offset,<- En f.type)).run P w=.ok XO w/\∀i p,Ym P NH i=some p->XO[i]?=some p:=by
      have yy:∀(fs:List FY),PY P fs=true->∃ps:List (Nat×Nat),(fs.mapM (m:=Sem) λf=>do pure (f.offset,<- En f.type)).run P w=.ok ps w/\
        ∀(i:Nat) (f:FY) (s:Nat),fs[i]?=some f->ND P f.type=some s->ps[i]?=some (f.offset,s):=by
       intro fs
       induction fs with
       |nil=>intro _;exact⟨[],AD,λi f s h=>by simp at h⟩
       |cons f fs ih=>
        intro Jg;simp only[PY,Cl,Bk]at Jg;obtain⟨ps,h1,h2⟩:=ih (by simpa[PY]using Jg.2);exact AfV
      obtain⟨ps,h1,h2⟩:=yy NH.toList Jg;refine⟨ps.toArray,?_,?_⟩
      .exact Aid
      .intro i p y5;unfold Ym at y5;exact AgY
     obtain⟨XO,APY,vg⟩:=sf;obtain⟨NL,g1,g2⟩:=T1 (JV:=(XO[·]?)) vg hp (vn m).cells hl;exact Ako
    .cases h
  .rename_i n e hu;split at h
   .rename_i size hs;split at h
    .rename_i l hl;simp at h;subst h;obtain⟨NL,g1,g2⟩:=T1 (JV:=λi=>some (i*size,size)) (λi p h=>h) hp (vn m).cells hl;refine⟨.agg NL,?_,?_⟩
     .simp only[Er,Bh,da,Result.andThen_ok,Bb hu,H0 hs,g1];rfl
     .have:=VR.agg (m:=m) l NL.toList g2;exact Afx
    .cases h
   .cases h
  .cases h
def ABJ{z:List AV}{zc:AV0}(hz:JT m z zc.toList)(n:Nat)(h:n=0\/0<z.length):
  JT m (Vd n z) ((Es n).map λi=>zc[i%zc.size]!).toList:=by
 have hl:=hz.length;simp only[CB]at hl;refine JT.nO (by simp[Vd]) ?_;intro i a v ha hv;have hi:i<n:=by have:=(Bn.1 ha).1;simpa[Vd]using this
 rcases h with h|h
 .omega
 .have H5:i%z.length<z.length:=Nat.mod_lt _ h;simp[Vd,hi,FC,BZ H5]at ha;simp[hi]at hv;obtain⟨u,hu,ZE⟩:=hz.get (i:=i%z.length) (a:=z[i%z.length]) (by rw[BZ]);rw[hl]at hu
  have hu':zc[i%zc.size]! =u:=by
   have:=(Cq (xs:=zc) (i:=i%zc.size)).symm.trans hu;simp[getElem!_def,this]
  rw[<- ha,<- hv,hu'];exact ZE
def qg{e:Bm}{n size:Nat}{z:List AV}(hz:(bif Bo (n*size) 0 then some []else zeroCells P e size)=some z):
  ∃zc:AV0,(if n*size=0 then pure #[]else do pure (<- EX e).cells:Sem (AV0)).run P w=.ok zc w/\JT m z zc.toList/\(n*size=0\/0<z.length):=by
 by_cases h0:n*size=0
 .rw[h0]at hz;simp at hz;subst hz;exact⟨#[],by simp[h0],.nil,.inl h0⟩
 .rw[Sf h0]at hz;simp only[cond_false,zeroCells]at hz;split at hz
  .rename_i z0 hz0;cases hl:Bo z0.cells.length size with
   |false=>simp[hl]at hz
   |true=>
    simp[hl]at hz;subst hz;obtain⟨zv,da,vn⟩:=Pk hz0 w;refine⟨zv.cells,by rw[Ng h0];simp[da],(vn m).cells,?_⟩;rw[Bu hl];rcases Nat.eq_zero_or_pos size with h|h
    .exact Zq (by rw[h];simp) h0
    .exact .inr h
  .cases hz
def Ts{s:St}(hr:IQ m s.heap.get w){t:Bm}{len:Nat}{Iv:List (Nat×AV)}{Lt:Array (Nat×Bc)}(hp:XV m Iv Lt.toList)
  {a:AV}{s':St}(h:(Xy P t len Iv).run s=.ok a s')(hf:KF s s'):
  ∃v w' m',(DW t len Lt).run P w=.ok v w'/\Jt m w m' w'/\IQ m' s'.heap.get w'/\VR m' a v:=by
 unfold Xy at h;split at h
 .rename_i e he;split at h
  .rename_i size hs;cases hb:Ct (len*size) 16777216 with
   |false=>simp only[hb,cond_false]at h;exact(HR h).elim
   |true=>
    simp only[hb,cond_true]at h;split at h
    .rename_i z hz;split at h
     .rename_i l hl;obtain⟨b,s1,h1,h2⟩:=I7 h;obtain⟨rfl,rfl⟩:=IS h2;obtain⟨zc,mq,hz2,hz3⟩:=qg (m:=m) (w:=w) hz;obtain⟨NL,g1,g2⟩:=T1 (JV:=λi=>some (i*size,size)) (λi p h=>h) hp (ABJ hz2 (len*size) hz3) hl;obtain⟨m',k1,k2,k3⟩:=XK (ty:=e) hr h1 hf g2;refine⟨.slice (some ⟨w.heap.size,0,none⟩) len len,_,m',?_,k1,k2,.slice _ _ _ _ _ _ _ _ _ k3 (Bd _) Ads Ad9⟩;have Py:¬(len*size>2^24):=by have:=E9 hb;omega
      by_cases h0:len*size=0
      .rw[Ps h0]at mq;cases mq;simp only[DW,Bh,Bb (JF he),Result.andThen_ok,H0 hs,Ng Py,Ps h0,Sem.run_pure,pure_bind,g1,Ll]
      .rw[Ng h0]at mq;cases da:(EX e).run P w with
       |halt x w1=>rw[Bh,da]at mq;cases mq
       |ok zv w1=>
        rw[Bh,da]at mq;cases mq;simp only[DW,Bh,Bb (JF he),Result.andThen_ok,H0 hs,Ng Py,Ng h0,da,Sem.run_pure,pure_bind,g1,Ll]
     .exact AfP
    .exact AfP
  .exact AfP
 .exact AfP
end
end
section
section
variable{P:Program} {m:NO} {w:World}
def Tq{a b:Nat}(h:C5 a b=true):a<b:=(dq a b).1 h
def LO{a b:Nat}(h:Ct a b=true):a<=b:=E9 h
def U6{t:Bm}{x y:AV}{f:Nat}(h:cL P t x f=some y){v:Bc}(hx:VR m x v)(w:World):
  ∃v',(FJ t v f).run P w=.ok v' w/\VR m y v':=by
 unfold cL at h;split at h
 .rename_i fd hfd;obtain⟨fs,hu,hf⟩:=Md hfd;split at h
  .rename_i n hs;split at h
   .rename_i b ver o;simp at h;subst h;cases hx with
    |G5 _ _ _ B t' e hm=>
     refine⟨.pointer (some ⟨B,o+fd.offset,none⟩),?_,.G5 _ _ _ _ _ _ hm⟩;simp[FJ,Bb hu,hf,Cu,fieldPlace,H0 hs,Cz]
   .cases h
  .cases h
 .cases h
def fR{t:Bm}{l:List AV}{cs:AV0}{off:Nat}{y:AV}(h:AB0 P t l off=some y)(hl:JT m l cs.toList)(w:World):
  ∃v,(part t cs off).run P w=.ok v w/\VR m y v:=by
 unfold AB0 at h;split at h
 .rename_i PM;split at h
  .rename_i n hs;exact Afc
  .cases h
 .exact Ag3
 .cases h
def gi{t:Bm}{x y:AV}{f:Nat}(h:yZ P t x f=some y){v:Bc}(hx:VR m x v)(w:World):
  ∃v',(FO t v f).run P w=.ok v' w/\VR m y v':=by
 unfold yZ at h;split at h
 .rename_i fd hfd;obtain⟨fs,hu,hf⟩:=Md hfd;split at h
  .rename_i l;cases hx with
   |agg _ l' hl=>
    exact Ahw
  .cases h
 .cases h
def VB{t:Bm}{x i y:AV}(h:cd P t x i=some y){v u:Bc}(hx:VR m x v)(hi:VR m i u)(w:World):
  ∃v',(Dv t v u).run P w=.ok v' w/\VR m y v':=by
 unfold cd at h;split at h
 .rename_i n hn;obtain⟨k,rfl⟩:=ZM hn hi;split at h
  .rename_i e hu;split at h
   .rename_i b ver o len cap;split at h
    .rename_i size hs;cases H5:C5 n len with
     |false=>simp[H5]at h
     |true=>
      simp[H5]at h;subst h;have sV:=Tq H5;cases hx with
      |slice _ _ _ _ _ B t' e' c hm h1 h2 h3=>
       refine⟨.pointer (some ⟨B,o+n*size,none⟩),?_,.G5 _ _ _ _ _ _ hm⟩;have hc:(0:Int)<=(n:Int)/\(n:Int)<(len:Int):=AA;simp[Dv,EL,Bb hu,H0 hs,Cz,sV]
    .cases h
   .cases h
  .rename_i len e hu;split at h
   .rename_i b ver o;split at h
    .rename_i size hs;cases H5:C5 n len with
     |false=>simp[H5]at h
     |true=>
      simp[H5]at h;subst h;have sV:=Tq H5;cases hx with
      |G5 _ _ _ B t' e' hm=>
       refine⟨.pointer (some ⟨B,o+n*size,none⟩),?_,.G5 _ _ _ _ _ _ hm⟩;simp[Dv,EL,Bb hu,Cu,H0 hs,Cz,sV]
    .cases h
   .cases h
  .cases h
 .cases h
def pN(l:List UInt8):∀i,O3 l>>>(8*i)=O3 (l.drop i):=by
 induction l with
 |nil=>intro i;simp[O3]
 |cons b r ih=>
  intro i;cases i with
  |zero=>simp
  |succ i=>
   have:O3 (b::r)>>>8=O3 r:=by
    simp only[O3,Nat.shiftRight_eq_div_pow];have:=b.toNat_lt;omega
   rw[show 8*(i+1)=8+8*i by omega,Nat.shiftRight_add,this,ih];simp
def ACw(l:List UInt8):∀i,O3 l%2^(8*i)=O3 (l.take i):=by
 induction l with
 |nil=>intro i;simp[O3]
 |cons b r ih=>
  intro i;cases i with
  |zero=>simp[O3];omega
  |succ i=>
   simp only[O3,List.take_succ_cons];rw[<- ih i,show 8*(i+1)=8+8*i by omega,Nat.pow_add];have h8:(2:Nat)^8=256:=rfl;rw[h8];have hb:=b.toNat_lt;rw[Nat.add_mod,Nat.mul_mod_mul_left]
   have:b.toNat%(256*2^(8*i))=b.toNat:=Nat.mod_eq_of_lt (by
    have:1<=2^(8*i):=Nat.one_le_two_pow;have:256*1<=256*2^(8*i):=Nat.mul_le_mul_left _ this;omega)
   rw[this];apply Nat.mod_eq_of_lt;have h1:O3 r%2^(8*i)<2^(8*i):=Nat.mod_lt _ (Nat.two_pow_pos _);have h2:256*(O3 r%2^(8*i)+1)<=256*2^(8*i):=Nat.mul_le_mul_left _ h1;omega
def AFS(l:List UInt8)(i:Nat)(b:UInt8)(h:l[i]?=some b):(O3 l>>>(8*i))%256=b.toNat:=by
 rw[pN]
 have hd:l.drop i=b::l.drop (i+1):=by
  obtain⟨hi,he⟩:=Bn.1 h;rw[Bx hi,he]
 rw[hd];simp only[O3];have:=b.toNat_lt;omega
def AL4(l k:List UInt8):O3 (l++k)=O3 l+O3 k<<<(8*l.length):=by
 induction l with
 |nil=>simp[O3]
 |cons b r ih=>
  simp only[List.cons_append,O3,ih,CG,Nat.shiftLeft_eq];rw[show 8*(r.length+1)=8*r.length+8 by omega,Nat.pow_add];have h8:(2:Nat)^8=256:=rfl;rw[h8,Nat.mul_add,<- Nat.mul_assoc,Dw];congr 2;rw[Ez 256 (O3 k),Nat.mul_assoc,Ez 256,]
def u5:∀(l k:List UInt8),l.length=k.length->O3 l=O3 k->l=k
 |[],[],_,_=>rfl
 |[],_::_,h,_=>by simp at h
 |_::_,[],h,_=>by simp at h
 |a::l,b::k,h,e=>by
  simp only[O3]at e;have ha:=a.toNat_lt;have hb:=b.toNat_lt;have h1:a.toNat=b.toNat:=AA;have h2:O3 l=O3 k:=AA;rw[UInt8.toNat_inj.1 h1,u5 l k AE h2]
def tf{s t:BA}{n a k b:Nat}(h1:s.size=n)(h2:O3 s.data.toList=a)(h3:t.size=k)(h4:O3 t.data.toList=b):
  (Bo n k&&Bo a b)=(s.toList==t.toList):=by
 rw[FZ,FZ];have hs:s.data.toList.length=n:=(CB (xs:=s.data)).trans h1;have ht:t.data.toList.length=k:=(CB (xs:=t.data)).trans h3;by_cases e:s.data.toList=t.data.toList
 .rw[e]at h2 hs;have e1:n=k:=AA;have e2:a=b:=AA;rw[e1,e2,To,To,e];simp
 .have:(s.data.toList==t.data.toList)=false:=by simpa using e
  rw[this];by_cases hn:n=k
  .have:a≠b:=λhab=>e (u5 _ _ AA AA);simp[Sf this]
  .simp[Sf hn]
def iJ{t:Bm}{x i y:AV}(h:zL P t x i=some y){v u:Bc}(hx:VR m x v)(hi:VR m i u)(w:World):
  ∃v',(Fj t v u).run P w=.ok v' w/\VR m y v':=by
 unfold zL at h;split at h
 .rename_i n hn;obtain⟨k,rfl⟩:=ZM hn hi;split at h
  .rename_i hu;split at h
   .rename_i len code;cases H5:C5 n len with
    |false=>simp[H5]at h
    |true=>
     simp only[H5,cond_true,Ba]at h;subst h;have sV:=Tq H5;cases hx with
     |HK s _ _ h1 h2=>
      have N1:n<s.size:=AA;obtain⟨b,hb⟩:∃b,s[n]?=some b:=⟨s[n],by rw[getElem?_pos s n N1]⟩
      have Py:s.data.toList[n]?=some b:=by
       have:s[n]?=s.data[n]?:=by
        rw[getElem?_pos s n N1,getElem?_pos s.data n N1];rfl
       rw[this]at hb;simpa using hb
      refine⟨.int .u8 b.toNat,?_,?_⟩
      .simp[Fj,EL,Bb hu,hb]
      .have:=AFS _ _ _ Py;rw[h2]at this;rw[this];exact .int _ _
   .cases h
  .rename_i len e hu;split at h
   .rename_i cs;split at h
    .rename_i size hs;cases H5:C5 n len with
     |false=>simp[H5]at h
     |true=>
      simp[H5]at h;have sV:=Tq H5;cases hx with
      |agg _ l' hl=>
       obtain⟨v',h1,h2⟩:=fR (cs:=l'.toArray) h AZ w;exact⟨v',by simp[Fj,EL,Bb hu,H0 hs,sV,h1],h2⟩
    .cases h
   .cases h
  .cases h
 .cases h
def MN(o:ON)(v:Option Bc):Prop:=match o,v with
 |none,none=>True
 |some n,some u=>∃k,u=.int k (n:Int)
 |_,_=>False
def OE{k:IntKind}{n y:Nat}(c:BoundsCode)(h:n<=y)(w:World):(Ft (.int k (n:Int)) y c).run P w=.ok n w:=by have:(0:Int)<=(n:Int)/\(n:Int)<=(y:Int):=AA;simp[Ft,EL,h]
def OX{TO:Bool}{len cap:Nat}{Mw KQ max:ON}{lo hi mx:Option Bc}(h1:MN Mw lo)(h2:MN KQ hi)(h3:MN max mx)
  (b1:max.getD cap<=cap)(b2:KQ.getD len<=max.getD cap\/(KQ=none/\max=none))(b3:Mw.getD 0<=KQ.getD len)(b4:max=none\/KQ≠none)(w:World):
  (GZ TO len cap lo hi mx).run P w=.ok (Mw.getD 0,KQ.getD len,max.getD cap) w:=by
 have hm:∃M:Sem Nat,(∀w,M.run P w=.ok (max.getD cap) w)/\(match mx with
  |some v=>Ft v cap (if TO then .slice3Acap else .slice3Alen)
  |none=>pure cap)=M:=by
  refine⟨_,?_,rfl⟩;intro w;cases max<;>cases mx<;>simp only[MN]at h3
  .rfl
  .obtain⟨k,rfl⟩:=h3;exact OE _ (by simpa using b1) w
 obtain⟨M,hM,hMe⟩:=hm;unfold GZ;cases max<;>cases mx<;>simp only[MN]at h3
 .simp only[Option.getD_none]at b1 b2⊢;cases KQ<;>cases hi<;>simp only[MN]at h2
  .cases Mw<;>cases lo<;>simp only[MN]at h1
   .simp
   .obtain⟨k,rfl⟩:=h1;simp at b3;simp[OE _ b3]
  .obtain⟨k2,rfl⟩:=h2;have hb:_<=cap:=b2.resolve_right AD;simp only[Option.getD_some]at hb b3;cases Mw<;>cases lo<;>simp only[MN]at h1
   .simp[OE _ hb]
   .obtain⟨k,rfl⟩:=h1;simp at b3;simp[OE _ hb,OE _ b3]
 .obtain⟨k3,rfl⟩:=h3;have MT:KQ≠none:=b4.resolve_left AD;cases KQ with
  |none=>exact Zq rfl MT
  |some hn=>
   cases hi<;>simp only[MN]at h2;obtain⟨k2,rfl⟩:=h2;simp only[Option.getD_some]at b1 b2 b3⊢;have hb:=b2.resolve_right AD;cases Mw<;>cases lo<;>simp only[MN]at h1
   .simp[OE _ b1,OE _ hb]
   .obtain⟨k,rfl⟩:=h1;simp at b3;simp[OE _ b1,OE _ hb,OE _ b3]
def size_extract(s:BA)(l h:Nat)(h1:l<=h)(h2:h<=s.size):(s.extract l h).size=h-l:=by simp[Dg];omega
def oS(s:BA)(l h:Nat):(s.extract l h).data.toList=(s.data.toList.drop l).take (h-l):=by simp[ByteArray.data_extract,FN,List.extract_eq_take_drop]
end
end
section
section
variable{P:Program} {m:NO} {w:World}
def and_true{a b:Bool}(h:(a&&b)=true):a=true/\b=true:=GD.1 h
def ic{t:Bm}{x y:AV}{Mw KQ max:ON}(h:AAM P t x Mw KQ max=some y){v:Bc}{lo hi mx:Option Bc}(hx:VR m x v)
  (h1:MN Mw lo)(h2:MN KQ hi)(h3:MN max mx)(w:World):
  ∃v',(DL t v lo hi mx).run P w=.ok v' w/\VR m y v':=by
 unfold AAM at h;split at h
 .rename_i hu;split at h
  .rename_i len code;split at h
   .cases h
   .simp only at h;cases hb:Ct (KQ.getD len) len&&Ct (Mw.getD 0) (KQ.getD len)with
    |false=>simp[hb]at h
    |true=>
     simp only[hb,cond_true,Ba]at h;subst h;obtain⟨MR,MK⟩:=and_true hb;cases hx with
     |HK s _ _ e1 e2=>
      cases mx<;>simp only[MN]at h3;have hB:=OX (P:=P) (TO:=false) (len:=len) (cap:=len) h1 h2 (max:=none) (mx:=none) trivial AD (.inl (by simpa using LO MR)) (LO MK) (.inl rfl) w;refine⟨.string (s.extract (Mw.getD 0) (KQ.getD len)),?_,?_⟩
      .simp only[DL,Bh,Bb hu,Result.andThen_ok,FP,e1];simp;rw[hB];rfl
      .refine .HK _ _ _ (size_extract _ _ _ (LO MK) (by rw[e1];exact LO MR)) ?_;rw[oS,<- ACw,<- pN,e2,GY]
  .cases h
 .rename_i e hu;split at h
  .rename_i b ver o len cap;split at h
   .rename_i size hs;cases hx with
    |slice _ _ _ _ _ B t' e' c hm g1 g2 g3=>
     have fin:∀(mN:Nat),max.getD c=mN->mN<=c->KQ.getD len<=mN->Mw.getD 0<=KQ.getD len->(max=none\/KQ≠none)->
       (DL t (.slice (some ⟨B,o,none⟩) len c) lo hi mx).run P w=
        .ok (.slice (some (if mN=Mw.getD 0 then⟨B,o,none⟩else⟨B,o+Mw.getD 0*size,none⟩)) (KQ.getD len-Mw.getD 0) (mN-Mw.getD 0)) w:=by
      intro mN hmN c1 c2 c3 c4;subst hmN;have hB:=OX (P:=P) (TO:=true) (len:=len) (cap:=c) h1 h2 h3 c1 (.inl c2) c3 c4 w;simp only[DL,Bh,Bb hu,Result.andThen_ok,FP,hB,H0 hs,Sem.run_pure];by_cases hh:max.getD c=Mw.getD 0
      .simp only[Ps hh]
      .simp only[Ng hh,Option.map_some,Cz]
     split at h
     .simp only at h;cases hb:Ct (KQ.getD len) len&&Ct (Mw.getD 0) (KQ.getD len)&&(Bo (Mw.getD 0) 0||C5 (Mw.getD 0) len)with
      |false=>simp[hb]at h
      |true=>
       simp only[hb,cond_true,Ba]at h;subst h;obtain⟨yv,Xp⟩:=and_true hb;obtain⟨MR,MK⟩:=and_true yv;have b1:=LO MR;have b2:=LO MK
       have b3:Mw.getD 0=0\/Mw.getD 0<len:=by
        rcases Dy.1 Xp with h|h
        .exact .inl (Bu h)
        .exact .inr (Tq h)
       refine⟨_,fin c AD (Bd _) AA b2 (.inl rfl),?_⟩;by_cases hh:c=Mw.getD 0
       .rw[Ps hh];have h0:Mw.getD 0=0:=AA;simp only[h0,Nat.zero_mul,DF,Nat.sub_zero];exact .slice _ _ _ _ _ _ _ _ _ hm AA AeP λ_=>g3 rfl
       .rw[Ng hh];refine .slice _ _ _ _ _ _ _ _ _ hm AA AeP λ_ ho=>?_;have:o=0:=AA;have:=g3 rfl this;exact CD (Cf _ (Nat.sub_le _ _)) this
     .rename_i MT;simp only at h;cases hb:Ct (max.getD (cap.getD len)) (cap.getD len)&&Ct (KQ.getD len) (max.getD (cap.getD len))&&Ct (Mw.getD 0) (KQ.getD len)&&(max.isNone||KQ.isSome)with
      |false=>simp[hb]at h
      |true=>
       simp only[hb,cond_true,Ba]at h;subst h;obtain⟨vQ,pV⟩:=and_true hb;obtain⟨yv,Xp⟩:=and_true vQ;obtain⟨MR,MK⟩:=and_true yv;have b1:=LO MR;have b2:=LO MK;have b3:=LO Xp
       have b4:max=none\/KQ≠none:=by
        exact AhF
       have AXU:max.getD c=max.getD (cap.getD len)/\cap.getD len<=c:=by
        cases cap with
        |some c0=>have:=g2 c0 rfl;subst this;exact⟨rfl,Bd _⟩
        |none=>
         cases max with
         |none=>exact Zq rfl (MT rfl)
         |some M=>exact⟨rfl,g1⟩
       refine⟨_,fin (max.getD (cap.getD len)) AXU.1 AA b2 b3 b4,?_⟩;by_cases hh:max.getD (cap.getD len)=Mw.getD 0
       .rw[Ps hh,hh,To];simp only[cond_true];exact Ag7
       .rw[Ng hh,Sf hh];simp only[cond_false];exact Ag7
   .cases h
  .split at h
   .rename_i n hs;cases hb:Bo (max.getD 0) 0&&Bo (KQ.getD 0) 0&&Bo (Mw.getD 0) 0&&(max.isNone||KQ.isSome)with
    |false=>simp[hb]at h
    |true=>
     simp only[hb,cond_true,Ba]at h;subst h;obtain⟨vQ,pV⟩:=and_true hb;obtain⟨yv,Xp⟩:=and_true vQ;obtain⟨MR,MK⟩:=and_true yv;have b1:=Bu MR;have b2:=Bu MK;have b3:=Bu Xp
     have b4:max=none\/KQ≠none:=by
      exact AhF
     cases hx;have hB:=OX (P:=P) (TO:=true) (len:=0) (cap:=0) h1 h2 h3 AA (.inl AA) AA b4 w;refine⟨.slice none 0 0,?_,.LX⟩;simp only[DL,Bh,Bb hu,Result.andThen_ok,FP,hB,H0 hs,Sem.run_pure,b1,b2,b3];simp
   .cases h
  .cases h
 .rename_i n e hu;split at h
  .rename_i b ver o;split at h
   .rename_i size hs;simp only at h;cases hb:Ct (max.getD n) n&&Ct (KQ.getD n) (max.getD n)&&Ct (Mw.getD 0) (KQ.getD n)&&(max.isNone||KQ.isSome)with
    |false=>simp[hb]at h
    |true=>
     simp only[hb,cond_true,Ba]at h;subst h;obtain⟨vQ,pV⟩:=and_true hb;obtain⟨yv,Xp⟩:=and_true vQ;obtain⟨MR,MK⟩:=and_true yv;have b1:=LO MR;have b2:=LO MK;have b3:=LO Xp
     have b4:max=none\/KQ≠none:=by
      exact AhF
     cases hx with
     |G5 _ _ _ B t' e' hm=>
      have hB:=OX (P:=P) (TO:=false) (len:=n) (cap:=n) h1 h2 h3 b1 (.inl b2) b3 b4 w;by_cases hh:max.getD n=Mw.getD 0
      .rw[hh,To];simp only[cond_true];refine⟨.slice (some ⟨B,o,none⟩) (KQ.getD n-Mw.getD 0) (Mw.getD 0-Mw.getD 0),?_,?_⟩
       .simp only[DL,Bh,Bb hu,Result.andThen_ok,Cu,hB,H0 hs,Sem.run_pure,hh,if_true]
       .exact Ag7
      .rw[Sf hh];simp only[cond_false];refine⟨.slice (some ⟨B,o+Mw.getD 0*size,none⟩) (KQ.getD n-Mw.getD 0) (max.getD n-Mw.getD 0),?_,?_⟩
       .simp only[DL,Bh,Bb hu,Result.andThen_ok,Cu,hB,H0 hs,Sem.run_pure,Ng hh,Cz]
       .exact Ag7
   .cases h
  .cases h
 .cases h
def rf{t:Bm}{x y:AV}{r:Bool}(h:eqS (P.underlying t) x y=some r){u v:Bc}(hx:VR m x u)(hy:VR m y v)(d:Nat)(w:World):
  (Cx (d+1) t u v).run P w=.ok r w:=by
 unfold eqS at h;split at h
 .rename_i k0 hu;split at h
  .rename_i k a k' b;cases hx;cases hy;split at h
   .rename_i hk;subst hk;simp at h;subst h;simp[Cx,Bb hu]
   .cases h
  .cases h
 .rename_i hu;split at h
  .rename_i a b;cases hx;cases hy;simp at h;subst h;simp[Cx,Bb hu]
  .cases h
 .rename_i hu;split at h
  .rename_i n a k b;cases hx with
   |HK s _ _ e1 e2=>
    cases hy with
    |HK s' _ _ e3 e4=>
     simp only[Ba]at h;subst h;rw[run_equalIn_string w d t s s' hu,tf e1 e2 e3 e4]
  .cases h
 .rename_i e hu;exact Akn
 .rename_i e hu;exact Akn
 .rename_i k e hu;exact Akn
 .rename_i p q e hu;split at h
  .cases hx<;>cases hy<;>simp at h<;>subst h<;>simp[Cx,Bb hu]
  .cases hx;cases hy<;>simp at h<;>subst h<;>simp[Cx,Bb hu]
  .exact AfQ
  .cases h
 .rename_i ms hu;split at h
  .exact AfQ
  .exact AfQ
  .cases h
 .cases h
def Qs{xs ys:List AV}{us vs:AV0}(hx:JT m xs us.toList)(hy:JT m ys vs.toList)(d:Nat)(w:World):
  ∀{fs:List FY} {r:Bool},eqFields P xs ys fs=some r->(Fk (d+1) us vs fs).run P w=.ok r w
 |[],r,h=>by simp[eqFields]at h;subst h;rfl
 |f::fs,r,h=>by
  simp only[eqFields]at h;by_cases hn:f.name= "_"
  .rw[Ps hn]at h;cases h
  .rw[Ng hn]at h;split at h
   .rename_i PM;split at h
    .rename_i x hxf;split at h
     .rename_i y hyf;obtain⟨u,hu,hur⟩:=hx.get hxf;obtain⟨v,hv,ZE⟩:=hy.get hyf;have p1:(part f.type us f.offset).run P w=.ok u w:=by simp[part,KE PM];rw[show us[f.offset]?=some u by simpa using hu];rfl
      have p2:(part f.type vs f.offset).run P w=.ok v w:=by simp[part,KE PM];rw[show vs[f.offset]?=some v by simpa using hv];rfl
      split at h
      .rename_i he;have:=rf he hur ZE d w;simp only[Fk,Bh,p1,p2,Result.andThen_ok,this,ne_eq,hn,not_false_eq_true,if_true];simpa using Qs hx hy d w h
      .rename_i he;simp at h;subst h;have:=rf he hur ZE d w;simp only[Fk,Bh,p1,p2,Result.andThen_ok,this,ne_eq,hn,not_false_eq_true,if_true];simp
      .cases h
     .cases h
    .cases h
   .cases h
def AA2{t:Bm}{x y:AV}{r:Bool}(h:eqA P t x y=some r){u v:Bc}(hx:VR m x u)(hy:VR m y v)(w:World):
  (Dq t u v).run P w=.ok r w/\∀op a b,(DS op t a b u v).run P w=.ok () w:=by
 unfold eqA at h;split at h
 .rename_i fs hu;split at h
  .rename_i xs ys;cases hc:P.stoodInHeld t||P.eqGuardType P.depth t with
   |true=>simp[hc]at h
   |false=>
    simp only[hc,cond_false]at h;obtain⟨c1,c2⟩:=Cn.1 hc;cases hx with
    |agg _ us hxs=>
     cases hy with
     |agg _ vs hys=>
      have hfs:P.fieldsOf t=fs:=by simp[Program.fieldsOf,hu]
      refine⟨?_,λop a b=>run_eqGuard_agg w op t a b _ _ c2⟩;exact AgV
  .cases h
 .refine⟨by simp only[Dq,Et];exact rf h hx hy 9999 w,?_⟩;intro op a b
  have hng:∀u v,(u≠ .nilIface\/v≠ .nilIface)->((∀c,u≠ .agg c)\/(∀c,v≠ .agg c))->(DS op t a b u v).run P w=.ok () w:=by
   intro u v h1 h2;cases op<;>simp only[DS]<;>first|rfl|skip
   all_goals
    cases u<;>cases v<;>first|rfl|(simp at h1;done)|(simp at h2;done)
  refine hng u v ?_ ?_
  .exact AhC
  .exact AhC
end
end
section
section
variable{P:Program} {m:NO} {w:World}
def gE(op:EP)(h1:op≠ .shl)(h2:op≠ .shr)(t:Bm)(k:IntKind)(a b:Int):
  Di op t (.int k a) (.int k b)=match op with
   | .add=>Fl op k a b
   | .sub=>Fl op k a b
   | .mul=>Fl op k a b
   | .quo=>Op.intDiv op k a b
   | .rem=>Op.intDiv op k a b
   | .and=>GU op k a b
   | .or=>GU op k a b
   | .xor=>GU op k a b
   | .andNot=>GU op k a b
   |_=>Op.intCmp op a b:=by
 cases op<;>first|(exact(h1 rfl).elim)|(exact(h2 rfl).elim)|(simp only[Di,ne_eq,not_true_eq_false,if_false])
def ADP{op:EP}{k:IntKind}{a b:Int}{x:AV}(h:bS op k a b=some x)(t:Bm)(w:World):
  ∃v,(Di op t (.int k a) (.int k b)).run P w=.ok v w/\VR m x v:=by
 cases op
 case shl=>
  exact Agv
 case shr=>
  exact Agv
 all_goals
  rw[gE _ AD AD];simp only[bS,AFJ]at h
  first
   |(cases h;done)
   |(simp only[Ba]at h;subst h;first|exact⟨_,rfl,.int _ _⟩|exact⟨_,rfl,.bool _⟩)
   |(
    split at h
    .cases h
    .rename_i hb;simp only[Ba]at h;subst h;exact⟨_,by simp[Op.intDiv,hb],.int _ _⟩)
def qV{op:EP}(ho:op=.shl\/op=.shr){k k':IntKind}{a b:Int}{x:AV}(h:bS op k a b=some x)(t:Bm)(w:World):
  ∃v,(Di op t (.int k a) (.int k' b)).run P w=.ok v w/\VR m x v:=by
 rcases ho with rfl|rfl
 .exact Ag8
 .exact Ag8
def ALZ{op:EP}{n a k b:Nat}{x:AV}(h:AHr op n a k b=some x){s t:BA}(h1:s.size=n)(h2:O3 s.data.toList=a)(h3:t.size=k)(h4:O3 t.data.toList=b)
  (ty:Bm)(w:World):∃v,(Di op ty (.string s) (.string t)).run P w=.ok v w/\VR m x v:=by
 unfold AHr at h;split at h
 .simp only[Ba]at h;subst h;refine⟨.bool (s.toList==t.toList),by simp[Di,Op.stringOp],?_⟩;rw[tf h1 h2 h3 h4];exact .bool _
 .simp only[Ba]at h;subst h;refine⟨.bool !(s.toList==t.toList),by simp[Di,Op.stringOp],?_⟩;rw[tf h1 h2 h3 h4];exact .bool _
 .cases h
inductive Pt:Bc->Bc->Prop
 |bool (a b):Pt (.bool a) (.bool b)
 |G5 (a b):Pt (.pointer a) (.pointer b)
 |slice (a l c b k d):Pt (.slice a l c) (.slice b k d)
 |map (a b):Pt (.map a) (.map b)
 |ASk (f a b):Pt (.func f a b) .nilFunc
 |ASl (f a b):Pt .nilFunc (.func f a b)
 |func3:Pt .nilFunc .nilFunc
 |APl (t v):Pt (.iface t v) .nilIface
 |APm (t v):Pt .nilIface (.iface t v)
 |agg (a b):Pt (.agg a) (.agg b)
def Pt.run{u v:Bc}(h:Pt u v)(t:Bm):Di .eql t u v=(do pure (.bool (<- Dq t u v)))/\(∀(r:Bool),(Dq t u v).run P w=.ok r w->(Di .eql t u v).run P w=.ok (.bool r) w/\(Di .neq t u v).run P w=.ok (.bool !r) w):=by
 cases h<;>exact⟨rfl,λr hr=>⟨by
  show(do pure (.bool (<- Dq t _ _)):Sem Bc).run P w=_;rw[Bh,hr];rfl,by
  show(do pure (.bool (!(<- Dq t _ _))):Sem Bc).run P w=_;rw[Bh,hr];rfl⟩⟩
def ACy{d:Option DB}{x y:AV}{q:Bool}(h:eqS d x y=some q)(n1:∀k n k' n',x=.int k n->y=.int k' n'->False)
  (n3:∀n a k b,x=.HK n a->y=.HK k b->False){u v:Bc}(hx:VR m x u)(hy:VR m y v):Pt u v:=by
 unfold eqS at h;split at h
 .split at h
  .exact(n1 _ _ _ _ rfl rfl).elim
  .cases h
 .split at h
  .cases hx;cases hy;exact .bool _ _
  .cases h
 .split at h
  .exact(n3 _ _ _ _ rfl rfl).elim
  .cases h
 .split at h
  .exact Ajf
  .exact Ajf
  .exact Ajf
  .cases h
 .split at h
  .exact AiS
  .exact AiS
  .exact AiS
  .cases h
 .split at h
  .exact AjY
  .exact AjY
  .exact AjY
  .cases h
 .split at h
  .cases hx<;>cases hy<;>exact .ASk _ _ _
  .cases hx;cases hy<;>exact .ASl _ _ _
  .cases hx;cases hy;exact .func3
  .cases h
 .split at h
  .cases hx;cases hy;exact .APl _ _
  .cases hx;cases hy;exact .APm _ _
  .cases h
 .cases h
def ANN{t:Bm}{x y:AV}{u v:Bc}{r:Bool}(hr:(Dq t u v).run P w=.ok r w)(hq:∃q,eqA P t x y=some q)
  (n1:∀k n k' n',x=.int k n->y=.int k' n'->False)
  (n3:∀n a k b,x=.HK n a->y=.HK k b->False)(hx:VR m x u)(hy:VR m y v):
  (Di .eql t u v).run P w=.ok (.bool r) w/\(Di .neq t u v).run P w=.ok (.bool !r) w:=by
 obtain⟨q,hq⟩:=hq
 have hp:Pt u v:=by
  unfold eqA at hq;split at hq
  .split at hq
   .cases hx;cases hy;exact .agg _ _
   .cases hq
  .exact ACy hq n1 n3 hx hy
 exact(hp.run (P:=P) (w:=w) t).2 r hr
def q9{op:EP}{t:Bm}{x y z:AV}(h:ANM P op t x y=some z){u v:Bc}(hx:VR m x u)(hy:VR m y v)(a b:Cb)(w:World):
  ∃r,(do DS op t a b u v;Di op t u v:Sem Bc).run P w=.ok r w/\VR m z r:=by
 unfold ANM at h;split at h
 .rename_i k n k' n';cases hx;cases hy;have hg:(DS op t a b (.int k n) (.int k' n')).run P w=.ok () w:=by cases op<;>simp[DS]
  split at h
  .obtain⟨r,h1,h2⟩:=qV (P:=P) (m:=m) (k':=k') (.inl rfl) h t w;exact AgD
  .obtain⟨r,h1,h2⟩:=qV (P:=P) (m:=m) (k':=k') (.inr rfl) h t w;exact AgD
  .split at h
   .rename_i hk;subst hk;obtain⟨r,h1,h2⟩:=ADP (P:=P) (m:=m) h t w;exact AgD
   .cases h
 .rename_i n a' k b';cases hx with
  |HK s _ _ e1 e2=>
   cases hy with
   |HK s' _ _ e3 e4=>
    obtain⟨r,h1,h2⟩:=ALZ (P:=P) (m:=m) h e1 e2 e3 e4 t w;have hg:(DS op t a b (.string s) (.string s')).run P w=.ok () w:=by cases op<;>simp[DS]
    exact AgD
 .rename_i x' y' n1 n3
  have ATH:∀(r:Bool),(Dq t u v).run P w=.ok r w->(∃q,eqA P t x y=some q)->(Di .eql t u v).run P w=.ok (.bool r) w/\(Di .neq t u v).run P w=.ok (.bool !r) w:=
   λr hr hq=>ANN hr hq n1 n3 hx hy
  split at h
  .split at h
   .rename_i r hr;simp at h;subst h;obtain⟨e1,e2⟩:=AA2 hr hx hy w;exact⟨.bool r,by simp only[Bh,e2,Result.andThen_ok,(ATH r e1 ⟨_,hr⟩).1],.bool _⟩
   .cases h
  .split at h
   .rename_i r hr;simp at h;subst h;obtain⟨e1,e2⟩:=AA2 hr hx hy w;exact⟨.bool !r,by simp only[Bh,e2,Result.andThen_ok,(ATH r e1 ⟨_,hr⟩).2],.bool _⟩
   .cases h
  .cases h
def AAZ{op:UnOp}{x y:AV}(h:unA op x=some y){u:Bc}(hx:VR m x u)(w:World):∃v,(GG op u).run P w=.ok v w/\VR m y v:=by
 unfold unA at h;split at h
 .cases hx;simp at h;subst h;exact⟨_,by simp[GG],.bool _⟩
 .cases hx;simp at h;subst h;exact⟨_,by simp[GG,Fl],.int _ _⟩
 .cases h
def Yj{src dst:Bm}{x y:AV}(h:lW P src dst x=some y){u:Bc}(hx:VR m x u)(w:World):
  ∃v,(convert src dst u).run P w=.ok v w/\VR m y v:=by
 unfold lW at h;split at h
 .rename_i d hd;split at h
  .rename_i k hu;split at h
   .cases hx;simp at h;subst h;exact⟨.int k _,by simp only[convert,Bh,Bb hd,Bb hu,Result.andThen_ok];cases d<;>rfl,.int _ _⟩
   .cases h
  .cases h
 .cases h
def ADN{t:Bm}{x y:AV}(h:nI P t x=some y){u:Bc}(hx:VR m x u)(w:World):∃v,(Ef t u).run P w=.ok v w/\VR m y v:=by
 unfold nI at h;split at h
 .cases h
 .rename_i d hn hd;simp at h;subst h;exact Agx
 .cases h
def xt{t MA:Bm}{ok:Bool}{x y:AV}(h:q6 P MA ok x=some y){u:Bc}(hx:VR m x u)(w:World):
  ∃v,(FE u t MA ok).run P w=.ok v w/\VR m y v:=by
 unfold q6 at h;split at h
 .cases h
 .rename_i d hn hd;split at h
  .rename_i t' v';split at h
   .rename_i ht;subst ht;simp only[Ba]at h;subst h;cases hx with
    |iface _ _ u' hv=>
     refine⟨if ok then .tuple #[u',.bool true]else u',?_,?_⟩
     .cases d<;>first|(exact(hn _ rfl).elim)|(cases ok<;>simp[FE,Bb hd])
     .cases ok
      .exact hv
      .exact .tuple _ [u',.bool true] (.cons _ _ _ _ hv (.one (.bool _)))
   .cases h
  .cases h
 .cases h
def u9{ix:Nat}{x y:AV}(h:ld ix x=some y){u:Bc}(hx:VR m x u)(w:World):∃v,(Fo u ix).run P w=.ok v w/\VR m y v:=by
 unfold ld at h;split at h
 .cases hx with
  |tuple _ l' hl=>
   obtain⟨v,hv,ZE⟩:=hl.get h;exact⟨v,by simp[Fo,hv],ZE⟩
 .cases h
def Tb{d:DB}{x y:AV}{r:Bool}(h:bU (some d) x y=some r){u v:Bc}(hx:VR m x u)(hy:VR m y v):DN d u v=some r:=by
 unfold bU at h;split at h
 .rename_i k0 hd;cases hd;split at h
  .cases hx;cases hy;split at h
   .rename_i hk;subst hk;simp at h;subst h;simp[DN]
   .cases h
  .cases h
 .rename_i hd;cases hd;split at h
  .cases hx with
   |HK s _ _ e1 e2=>
    cases hy with
    |HK s' _ _ e3 e4=>
     simp only[Ba]at h;subst h;rw[tf e1 e2 e3 e4];simp[DN,EC]
  .cases h
 .cases h
def ADS{d:DB}{x:AV}(h:Nr (some d) x=true){u:Bc}(hx:VR m x u):
  ((∃k n,d=.int k/\∃k',u=.int k' n)\/(d=.string/\∃s,u=.string s)):=by
 unfold Nr bU at h;split at h
 .rename_i k0 hd;cases hd;split at h
  .cases hx;exact .inl ⟨_,_,rfl,_,rfl⟩
  .cases h
 .rename_i hd;cases hd;split at h
  .cases hx;exact .inr ⟨rfl,_,rfl⟩
  .cases h
 .cases h
def rR{t:Bm}{d:DB}(hd:P.underlying t=some d){x:AV}(h:Nr (some d) x=true){u:Bc}(hx:VR m x u)(empty:Bool)(w:World)(n:Nat):
  (EU empty (n+1) t u).run P w=.ok () w:=by
 rcases ADS h hx with⟨k,n,rfl,k',rfl⟩|⟨rfl,s,rfl⟩
 .simp[EU,Bb hd]
 .simp[EU,Bb hd]
def Qp{t:Bm}{d:DB}(hd:P.underlying t=some d){x:AV}(h:Nr (some d) x=true){u:Bc}(hx:VR m x u)(empty:Bool)(w:World):
 (EU empty 10000 t u).run P w=.ok () w:=rR hd h hx empty w 9999
def AV6(m:NO):Option AV->Option (Nat×Bc)->Prop
 |none,none=>True
 |some x,some (_,v)=>VR m x v
 |_,_=>False
def vC{d:DB}{k:AV}{u:Bc}(hk:VR m k u):∀{es:List (AV×AV)} {l:List DT} {r:Option AV} (i:Nat),ae m es l->vB (some d) k es=some r->
  ∃q,Cm d u l i=some q/\AV6 m r q
 |[],[],r,i,_,h=>by simp[vB]at h;subst h;exact⟨none,rfl,trivial⟩
 |(k',x)::es,e::l,r,i,⟨h1,h2,h3⟩,h=>by
  simp only[vB]at h;split at h
  .rename_i he;simp at h;subst h;exact⟨some (i,e.val),by simp[Cm,Tb he hk h1],h2⟩
  .rename_i he;obtain⟨q,g1,g2⟩:=vC hk (i+1) h3 h;exact⟨q,by simp[Cm,Tb he hk h1,g1],g2⟩
  .cases h
 |[],_::_,_,_,h,_=>h.elim
 |(_,_)::_,[],_,_,h,_=>h.elim
def Nt(w:World)(B:Nat)(Jf:Array DT)(HH:Nat)(h:w.heap[B]?=some (.map Jf HH)):(FM B).run P w=.ok (.map Jf HH) w:=by simp[FM,Em,h]
def zX{s:St}(hr:IQ m s.heap.get w){t:Bm}{mp k x:AV}{ok:Bool}{s':St}(h:(su P t mp k ok).run s=.ok x s'){u v:Bc}(hm:VR m mp u)(hk:VR m k v):
  ∃r,(Ec t u v ok).run P w=.ok r w/\VR m x r/\s'.heap=s.heap/\s'.next=s.next:=by
 unfold su at h;split at h
 .rename_i kt e hme;have hu:=XI hme;cases ja:Nr (P.underlying kt) k with
  |false=>simp only[ja,cond_false]at h;exact(HR h).elim
  |true=>
   simp only[ja,cond_true]at h
   obtain⟨d,hd⟩:∃d,P.underlying kt=some d:=by
    cases hd:P.underlying kt with
    |none=>rw[hd]at ja;simp[Nr,bU]at ja
    |some d=>exact⟨d,rfl⟩
   rw[hd]at ja;split at h
   .rename_i z hz;obtain⟨zv,da,vn⟩:=Pk hz w;obtain⟨r,s1,h1,h2⟩:=I7 h;split at h1
    .obtain⟨rfl,rfl⟩:=IS h1;cases hm;obtain⟨rfl,rfl⟩:=IS h2;refine⟨if ok then .tuple #[zv,.bool false]else zv,?_,?_,rfl,rfl⟩
     .simp[Ec,Bb hu,Qp hd ja hk,DD,Bb hd,Cm,da]
     .exact AhY
    .rename_i b;obtain⟨o,g1,g2,g3,g4⟩:=fN h1;cases hm with
     |map _ B t' e' y8=>
      cases o with
      |Gy r'=>simp[Ur]at g2
      |loop L=>simp[Ur]at g2
      |map es=>
       simp only[Ur]at g2;obtain⟨_,ho⟩:=hr.PX _ _ g1;obtain⟨Jf,HH,Qy,he⟩:=ho B t' e' y8;rw[hd]at g2;obtain⟨q,k1,k2⟩:=vC hk 0 he g2;cases r with
       |none=>
        cases q with
        |some p=>exact k2.elim
        |none=>
         obtain⟨rfl,rfl⟩:=IS h2;refine⟨if ok then .tuple #[zv,.bool false]else zv,?_,?_,g3,g4⟩
         .simp[Ec,Bb hu,Nt w B Jf HH Qy,Qp hd ja hk,DD,Bb hd,k1,da]
         .exact AhY
       |some a=>
        cases q with
        |none=>exact k2.elim
        |some p=>
         obtain⟨i,vv⟩:=p;obtain⟨rfl,rfl⟩:=IS h2;refine⟨if ok then .tuple #[vv,.bool true]else vv,?_,?_,g3,g4⟩
         .simp[Ec,Bb hu,Nt w B Jf HH Qy,Qp hd ja hk,DD,Bb hd,k1]
         .cases ok
          .exact k2
          .exact .tuple _ [vv,.bool true] (.cons _ _ _ _ k2 (.one (.bool _)))
    .exact(HR h1).elim
   .exact AfP
 .exact AfP
end
end
end Go.Ab
