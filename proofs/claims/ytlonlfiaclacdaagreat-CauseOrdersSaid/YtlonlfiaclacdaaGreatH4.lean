/- Part of the proof of CauseOrders (own work, made small). -/
import Derived.Test.YtlonlfiaclacdaaGreatE2
import Derived.Test.YtlonlfiaclacdaaGreatH1
import Derived.Test.YtlonlfiaclacdaaGreatH3
set_option linter.all false
set_option maxRecDepth 100000
open Array renaming getElem?_eq_getElem->Bv,getElem?_eq_some_iff->B4
open Bool renaming and_eq_true->Bk
open Go renaming Calls->E8,FuncId->CE,Program->Cc,Value->Bc,callsIn_wide->EM,lt_of_block->Dt
open Go.Proofs.Tryz renaming prog->BW
open Go.RowKit.Below renaming heap_alloc->DX
open Go.Vi.G8 renaming Gy->A2
open Go.Vi.PV renaming bool->BG
open Go.Vi.St renaming JW->A3,IB->Ay
open Go.World renaming cell?->GJ,size_alloc->Dz
open List renaming append_nil->CL,getElem?_eq_getElem->BZ,getElem_mem->Bl,length_cons->CG,length_map->BX,nil_append->CX
namespace Go.Vi
section
open Go Go.RowKit Go.Proofs
structure Lv (I:Nat->Prop) (w w':World):Prop where
 size:w.heap.size<=w'.heap.size
 Kv:∀B,B<w.heap.size->¬I B->w'.heap[B]?=w.heap[B]?
 os:w'.os=w.os
 output:w'.output=w.output
def AEs(w0 w1:World)(v:Bc)(a e:Int):Prop:=∃I:Nat->Prop,(∀B,I B->w0.heap.size<=B/\B<w1.heap.size)/\∀w2,(∀B,I B->w2.heap[B]?=w1.heap[B]?)->E8 BW 14 #[v] w2 λen w3=>en=.returned (.tuple #[.int .i64 a,.int .i64 e])/\Lv I w2 w3
def l9{t:Ab.Tr Ab.Obj}{n:Nat}:∀{k:Nat},vF t n k=true->∀b,n<=b->b<n+k->t.get b=none
 |0,_,b,h1,h2=>by omega
 |k+1,h,b,h1,h2=>by
  simp only[vF,Bk]at h;by_cases c:b=n+k
  .subst c;cases hg:t.get (n+k)with
   |none=>rfl
   |some o=>rw[hg]at h;exact Zq h.1 AD
  .exact l9 h.2 b h1 AA
def xO{t:BA}{l c:Nat}{a e:Int}(h:XT l c=some (a,e))(hl:t.size=l)(hc:Ab.O3 t.data.toList=c)(w:World):
  E8 BW 19 #[.string t] w λen w'=>∃xa xn xc,en=.returned (.tuple #[.agg #[.slice xa xn xc],.bool true])/\Lv (λ_=>False) w w'/\AEs w w' (.agg #[.slice xa xn xc]) a e:=by
 unfold XT at h;split at h
 .rename_i pb pv po pn pc s1 OR;split at h
  .rename_i a' e' s3 he3;cases Kr:vF s1.heap s1.next (s3.next- s1.next)with
   |false=>rw[Kr]at h;cases h
   |true=>
   rw[Kr]at h;cases h;have hr:Ab.IQ (λ_ _=>none) Ab.st0.heap.get w:=Ab.IQ.empty w;have hf:Ab.KF Ab.st0 s1:=λb _ _=>rfl;refine EM.1 (((Ab.ef 80).call 19 [.HK l c] Ab.st0 _ s1 OR _ w [.string t] hr (.cons _ _ _ _ (.HK t l c hl hc) .nil) hf).mono ?_);rintro en w' ⟨m1,v1,rfl,hx,VJ,hv⟩;cases hv with
   |tuple _ l1 sT=>
   cases sT with
   |cons _ vp _ l2 hvp jI=>
   cases jI with
   |cons _ vb _ l3 cY sU=>
   cases sU;cases cY;have AYA:=hvp;cases hvp with
   |agg _ lx hlx=>
   cases hlx with
   |cons _ x _ l4 hx1 hl4=>
   cases hl4;have AYH:=hx1;obtain⟨xa,xn,xc,rfl⟩:∃a n c,x=.slice a n c:=by cases AYH<;>exact⟨_,_,_,rfl⟩
   refine⟨xa,xn,xc,rfl,⟨hx.size,λB hB _=>hx.Kv B hB Aeg,hx.os,hx.output⟩,λB=>∃b u t e,m1 b u=some (B,t,e),λB ⟨b,u,t',e2,hb⟩=>⟨?_,VJ.lt b u B t' e2 hb⟩,λw2 h2=>?_⟩
   .rcases hx.iI b u B t' e2 hb with⟨_,_,_,_,h0⟩|h0
    .cases h0
    .exact h0
   .have N1:Ab.IQ m1 s1.heap.get w2:=by
     refine⟨λb o hb=>?_,VJ.dom,VJ.QF,λb u B t e hb=>?_⟩
     .have:=VJ.PX b o hb;cases o with
      |Gy r=>
       obtain⟨h1,yo,h3⟩:=this;refine⟨h1,yo,λu B t e hm=>?_⟩;obtain⟨h4,cs,ty,h5,h6⟩:=h3 u B t e hm;exact⟨h4,cs,ty,(h2 B ⟨b,u,t,e,hm⟩).trans h5,h6⟩
      |map es=>
       obtain⟨h1,yo⟩:=this;refine⟨h1,λB t e hm=>?_⟩;obtain⟨Jf,HH,h5,h6⟩:=yo B t e hm;exact⟨Jf,HH,(h2 B ⟨b,0,t,e,hm⟩).trans h5,h6⟩
      |loop L=>
       obtain⟨h1,yo⟩:=this;refine⟨h1,λB t e hm=>?_⟩;obtain⟨fn,tmps,ay,defers,h5,h6⟩:=yo B t e hm;exact⟨fn,tmps,ay,defers,(h2 B ⟨b,0,t,e,hm⟩).trans h5,h6⟩
     .have h1:=VJ.lt b u B t e hb;have h3:=h2 B ⟨b,u,t,e,hb⟩;rw[Bv h1]at h3;exact(B4.1 h3).1
    have aO:Ab.KF s1 s3:=λb h3 h4=>l9 Kr b h3 AA;refine EM.1 (((Ab.ef 80).call 14 [.agg [.slice pb pv po pn pc]] s1 _ s3 he3 _ w2 [.agg #[.slice xa xn xc]] N1 (.cons _ _ _ _ AYA .nil) aO).mono ?_);rintro en w3 ⟨m3,v3,rfl,hx3,_,hv3⟩;cases hv3 with
    |tuple _ k1 Mv=>
    cases Mv with
    |cons _ i1 _ k2 hi1 Jr=>
    cases Jr with
    |cons _ i2 _ k3 O4 bP=>
    cases bP;cases hi1;cases O4;exact⟨rfl,hx3.size,λB hB hn=>hx3.Kv B hB λb u t e hb=>hn ⟨b,u,t,e,hb⟩,hx3.os,hx3.output⟩
  .cases h
 .cases h
end
section
open Go Go.RowKit Go.Proofs
def t1:BA:=⟨#[110,111,100,101,32,102,40,41,32,114,101,116,117,114,110,115,32,40,120,58,32,105,56,41,32,118,97,114,32,121,58,32,105,56,59,32,108,101,116,32,120,32,61,32,121,32,43,32,49,105,56,59,32,121,32,61,32,120,59,32,116,101,108]⟩
def t2:BA:=⟨#[110,111,100,101,32,102,40,41,32,114,101,116,117,114,110,115,32,40,120,58,32,105,56,41,32,118,97,114,32,121,58,32,105,56,59,32,108,101,116,32,120,32,61,32,48,105,56,32,45,62,32,112,114,101,32,121,59,32,121,32,61,32,120,59,32,116,101,108]⟩
def in1(w:World):E8 BW 19 #[.string t1] w λen w'=>∃xa xn xc,en=.returned (.tuple #[.agg #[.slice xa xn xc],.bool true])/\Lv (λ_=>False) w w'/\AEs w w' (.agg #[.slice xa xn xc]) 18 29:=xO AJh AF AF w
def in2(w:World):E8 BW 19 #[.string t2] w λen w'=>∃xa xn xc,en=.returned (.tuple #[.agg #[.slice xa xn xc],.bool true])/\Lv (λ_=>False) w w'/\AEs w w' (.agg #[.slice xa xn xc]) 0 0:=xO AJg AF AF w
def AGx(w:World):E8 BW 16 #[.int .i64 29] w λen w'=>en=.returned (.int .i64 29)/\w'=w:=by
 go_enter Tryz.func16,Tryz.ntmps16
 go_wp2
 go_ret
 exact⟨rfl,rfl⟩
def AKz(w:World):E8 BW 16 #[.int .i64 0] w λen w'=>en=.returned (.int .i64 0)/\w'=w:=by
 go_enter Tryz.func16,Tryz.ntmps16
 go_wp2
 go_ret
 exact⟨rfl,rfl⟩
set_option maxHeartbeats 8000000 in
def AEt(w:World):E8 BW 12 #[] w λen w'=>en=.returned (.bool true)/\Lv (λ_=>False) w w':=by
 go_enter Tryz.func12,Tryz.ntmps12
 go_wp2_with (fail)
 refine(in1 _).mono ?_;rintro _ w1 ⟨xa,xn,xc,rfl,k1,f1⟩;go_wp2_with (fail)
 refine(in2 _).mono ?_;rintro _ w2 ⟨ya,yn,yc,rfl,k2,f2⟩;have ADC:w1.heap.size<w2.heap.size:=by have:=k2.size;simp at this;omega
 have MR:w2.heap[w1.heap.size]?=some (.cells #[.slice xa xn xc] 25 (0,0)):=(k2.Kv _ AD id).trans (Pu w1 _);have Xp:(w2.alloc (.cells #[.slice ya yn yc] 25)).heap[w1.heap.size]?=some (.cells #[.slice xa xn xc] 25 (0,0)):=(DX _ _ _ ADC).trans MR;have pV:(w2.alloc (.cells #[.slice ya yn yc] 25)).heap[w2.heap.size]?=some (.cells #[.slice ya yn yc] 25 (0,0)):=Pu w2 _;have hc3:(w2.alloc (.cells #[.slice ya yn yc] 25)).cell? ⟨w1.heap.size,0,none⟩=some (.slice xa xn xc):=by unfold GJ;rw[Xp];rfl
 have hc4:(w2.alloc (.cells #[.slice ya yn yc] 25)).cell? ⟨w2.heap.size,0,none⟩=some (.slice ya yn yc):=by unfold GJ;rw[pV];rfl
 go_wp2_with (fail)
 obtain⟨I1,hI1,g1⟩:=f1;obtain⟨I2,hI2,g2⟩:=f2;have L9:=k1.size;simp only[Dz]at hI2;refine(g1 _ λB hB=>?_).mono ?_
 .have:=(hI1 B hB).2;rw[DX _ _ _ AA,k2.Kv B AB id,DX _ _ _ AA]
 rintro _ w5 ⟨rfl,k5⟩;have hs5:=k5.size;simp only[Dz]at hs5;have hb5:w5.heap[w2.heap.size]?=some (.cells #[.slice ya yn yc] 25 (0,0)):=(k5.Kv _ AD λh=>by have:=(hI1 _ h).2;omega).trans pV;have hc5:w5.cell? ⟨w2.heap.size,0,none⟩=some (.slice ya yn yc):=by unfold GJ;rw[hb5];rfl
 go_wp2_with (fail)
 refine(g2 _ λB hB=>?_).mono ?_
 .have:=hI2 B hB;rw[k5.Kv B AB (λh=>by have:=(hI1 _ h).2;omega),DX _ _ _ AA]
 rintro _ w6 ⟨rfl,k6⟩;go_wp2_with (fail)
 refine(AGx w6).mono ?_;rintro _ _ ⟨rfl,rfl⟩;go_wp2_with (fail)
 refine(AKz _).mono ?_;rintro _ _ ⟨rfl,rfl⟩;go_wp2
 go_ret
 have hs6:=k6.size;have K9:=k2.size;simp only[Dz]at K9;refine⟨rfl,AA,λB hB _=>?_,?_,?_⟩
 .rw[k6.Kv B AA (λh=>by have:=(hI2 _ h).1;omega),k5.Kv B AB (λh=>by have:=(hI1 _ h).1;omega),DX _ _ _ AA,k2.Kv B AB id,DX _ _ _ AA,k1.Kv B hB id]
 .exact k6.os.trans (k5.os.trans (k2.os.trans k1.os))
 .exact k6.output.trans (k5.output.trans (k2.output.trans k1.output))
def AEu:PC BW 12 [] [] (.bool true) []:=by intro K w Bs HW hK hC L6 hA;cases hC;cases hA;refine(EM.2 (AEt w)).mono ?_;rintro e w' ⟨rfl,k⟩;refine⟨K,_,rfl,⟨bB.refl K,λB ks hk=>?_,λB ks hk _=>hk,.nil,k.size,λB hB _=>k.Kv B hB id,k.os,k.output,λa ha=>World.frozen?_of_block (k.Kv _ ha id),.one _ _ (.data _ _ (.bool _))⟩⟩;obtain⟨vs,ty,h1,h2⟩:=hK B ks hk;exact⟨vs,ty,(k.Kv B (Dt h1) id).trans h1,h2⟩
end
attribute [local irreducible] Iq IJ Hf Ij HS Ik G3 G4 HQ IA H7 KV Hx Ig Ie Iz LH LS Jq Kp LG Hw Hg IT pQ Jy JZ Hb HP He H2 IN I0 Int.instDecidableEq Int.decEq instBEqOfDecidableEq KB Jk Jx MS Sn SZ IP IU IZ pC Rs SY MW MX MH
section
open Go.Proofs
def AQV{P:Cc}{X:Mode}{f:CE}{vs args:LP}{s:St}{kl:KL}{IC Hs:LLP}{r:PV}{bs:LN}(h:PC P f args IC r Hs)(h1:Js vs 0=some (args,bs))(h2:Mq bs=true)(h3:HZ s bs=some IC)(h4:Hs.length=bs.length)
  (hk:kl (JV r (IF s bs Hs)).1 (JV r (IF s bs Hs)).2 [] bs):SY P X f vs s kl:=
 by unfold SY;exact(Pc P X).2 (.inl ⟨_,_,bs,⟨args,IC,r,Hs,h1,h2,h3,h4,h,rfl⟩,hk⟩)
def AWU{P:Cc}{X:Mode}{f:CE}{vs:LP}{s:St}{kl:KL}(h:SY P X f vs s kl):JZ (.bool false) false (λk=>SY P X f vs s k) kl s:=AMy (by simp[sO]) h
def oh(l:List BA)(hl:l.length<=100000):PC BW 24 [.HC (l.map Gv),.HC (l.map Gv)] [] (.bool true) []:=by
 have loop:∀(m i:Nat),l.length-i=m->i<=l.length->∀s:St,AAl 0 0 (λr c=>c=[]/\r=.bool true) (m+1) (.HC (l.map Gv)) (.HC (l.map Gv)) (I i) s:=by
  intro m
  induction m with
  |zero=>
   intro i hm hi s;show ka _ _ _ _ _ _ _ _;unfold ka;refine Gu Aeb ?_;rw[BX];refine Gu Ade ?_;refine cf ?_;unfold AFA;exact Ahd
  |succ m ih=>
   intro i hm hi s;have SX:i<l.length:=AA;have hli:l[i]?=some l[i]:=BZ SX;show ka _ _ _ _ _ _ _ _;unfold ka;refine Gu Aeb ?_;rw[BX];refine Gu Adf ?_;refine ct ?_;refine HA Aee ?_;refine HA (IM rfl) ?_;refine HA Aee ?_;refine HA (IM rfl) ?_;apply HA
   .exact Ho (v:=.bool false) (by
     show some (BG (!(l[i].toList==l[i].toList)))=_;simp)
   refine⟨by simp[Ih,I6,Jv,It],?_⟩;refine cf ?_;refine Gu Adc ?_;refine Gu Jb ?_;exact ih (i+1) AA SX s
 have:PQ BW 24 [.HC (l.map Gv),.HC (l.map Gv)] [] (λr c=>c=[]/\r=.bool true):=by
  refine ANT 0 rfl _ _ ?_;unfold c24;refine Gu Aeb ?_;refine Gu Aeb ?_;apply Gu
  .exact Ho (v:=.bool false) (by
    show some (BG (!((((l.map Gv).length:Nat):Int)==(((l.map Gv).length:Nat):Int))))=_;simp)
  refine cf ?_;exact⟨_,loop l.length 0 AA AA _⟩
 exact Afg
def OO.len{n:G8}{l:List BA}{ok:Bool}(h:OO n l ok):l.length<=n.Hm.length:=by
 rcases h with⟨_,rfl,_⟩|⟨_,out,h1,_,_,rfl⟩
 .simp
 .split
  .have:=h1.len;rw[G8.kG]at this;exact Afx
  .simp
def AIj{N:List G8}{n:G8}:Js [.agg [.HC (N.map A2)],.agg n.Gy] 0=some ([.agg [.HC (N.map A2)],.agg n.Gy],[]):=by rw[n.ZV];rfl
def AEz{n:G8}:Js [.agg n.Gy] 0=some ([.agg n.Gy],[]):=by rw[n.ZV];rfl
def wH{N:List G8}(hw:PWF N)(hN:kP N){Q:F1}{b:Nat}{s:St}(hb:s.heap b=some (.box [.HC (N.map A2)]))(hQ:Q (.bool true) s):∀(m i:Nat),N.length-i=m->i<=N.length->gu (.Im .Lp) Q (m+1) (.G5 b 0) (I i) s
 |0,i,hm,hi=>by
  have II:=hw.len;unfold gu rp;refine Gu JD ?_;refine Gu (G2 hb rfl) ?_;refine Gu (Iy (G1:=N.map A2) rfl) ?_;rw[BX];refine Gu Ade ?_;refine cf ?_;unfold yf;exact Ls rfl hQ
 |m+1,i,hm,hi=>by
  have II:=hw.len;have SX:i<N.length:=AA;have ZB:N[i]?=some N[i]:=BZ SX;have jK:=hN i SX;have hwf:=hw.wf _ (Bl SX);have Pe:N[i].wt<=20000:=by have:=ZN (l:=N) SX;have:=hw.Il;omega
  generalize N[i]=n at ZB jK hwf Pe;obtain⟨l,ok,ho⟩:=AHH n;have Xs:=ho.len;have jb:=@G8.ABy n;have AGK:=Pe;unfold G8.wt at AGK;unfold gu rp;refine Gu JD ?_;refine Gu (G2 hb rfl) ?_;refine Gu (Iy (G1:=N.map A2) rfl) ?_;rw[BX];refine Gu Adf ?_;refine ct ?_;refine HA (Ii hb rfl) ?_;refine HA JD ?_;refine HA (G2 hb rfl) ?_;refine HA Aes ?_;refine HA (Jo n.HJ) ?_;refine tN (AHI (N:=N) hwf jK.ASd Pe ho) AIj rfl rfl rfl ?_;simp only[Hu,Lu];refine HA (tK rfl) ?_;refine HA (tK rfl) ?_;refine HA tH ?_;refine HA OM ?_;refine⟨by simp[Ih,I6,Jv,It],?_⟩;refine Gu JD ?_;refine Gu (G2 hb rfl) ?_;refine Gu Aes ?_;refine Gu (Jo n.HJ) ?_;refine wY (AD2 hwf jK Pe ho) AEz rfl rfl rfl ?_;simp only[Hu,Lu];refine Gu (tK rfl) ?_;refine Gu (tK rfl) ?_;refine Gu tH ?_;refine Gu OM ?_;refine Gu (Ho (v:=.bool false) (by cases ok<;>kernel_rfl)) ?_;refine sM ?_;refine sM ?_;refine AWU ?_;refine AQV (oh l AA) (args:=[.HC (l.map Gv),.HC (l.map Gv)]) rfl rfl rfl rfl ?_;simp only[Oo,Lu];refine Mh bX ?_;refine Gu TP ?_;refine cf ?_;refine Gu Adc ?_;refine Gu Jb ?_;exact wH hw hN hb hQ m (i+1) AA SX
def ADo(t:BA)(ht:(t.size:Int)<=9223372036854775807):PC BW 10 [.HK t] [] (.bool true) []:=by
 refine nS (Q:=λr s=>r=.bool true) ((AOP (.Im .Lp) _ ?_).sw gl) λr s h=>by rw[h];rfl
 obtain⟨N,ok,I5,hw,hn⟩:=AHW t ht;unfold g10;refine wY AEu (args:=[]) rfl rfl rfl rfl ?_;simp only[Oo,Lu];refine Gu OM ?_;refine wY I5 (args:=[.HK t]) rfl rfl rfl rfl ?_;simp only[Hu,rdy,Lu];refine Gu (tK rfl) ?_;refine Gu (tK rfl) ?_;refine Gu (bW rfl) ?_;refine Gu (LY (A3 rfl) rfl rfl rfl) ?_;refine Gu OM ?_;refine Gu bX ?_;refine sM ?_;refine Mh bX ?_;refine Gu TP ?_;cases ok with
 |false=>
  refine ct ?_;refine Gu OM ?_;exact Ls (Q:=λr (s:St)=>r=.bool true) (s:=St.mk (λ_=>none) 0) rfl rfl
 |true=>
  refine cf ?_;exact⟨_,wH hw (hn rfl) Ay rfl N.length 0 AA AA⟩
end
end Go.Vi
