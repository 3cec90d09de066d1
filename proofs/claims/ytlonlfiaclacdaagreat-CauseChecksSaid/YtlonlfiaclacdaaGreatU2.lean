/- Part of the proof of CauseChecks (own work, made small). -/
import Derived.Test.YtlonlfiaclacdaaGreatF7
import Derived.Test.YtlonlfiaclacdaaGreatH1
import Derived.Test.YtlonlfiaclacdaaGreatU1
set_option linter.all false
set_option maxRecDepth 100000
open Classical renaming propDecidable->ED
open Go renaming FuncId->B9
open Go.Proofs.Tryz renaming prog->BZ
open Go.Vi.GO renaming GG->Ay
open Go.Vi.Ge renaming GG->Am
open Go.Vi.Item renaming Mu->BT
open Go.Vi.St renaming H3->Az,HJ->A4
open Int renaming toNat->Dk,toNat_natCast->Cj
open List renaming append_nil->CG,drop_eq_getElem_cons->Bt,drop_of_length_le->CB,getD_eq_getElem?_getD->CK,getElem?_append_right->CT,getElem?_eq_getElem->Bc,getElem?_eq_some_iff->Bp,getElem?_map->CV,length_cons->CE,length_map->Bb,mem_map->B8,mem_of_getElem?->Bn,mem_range->Da,nil_append->CC,range->CS,set_cons_succ->Cb,set_cons_zero->Ca
namespace Go.Vi
attribute [local irreducible] H0 HR Gp Ht Gf Hu GJ GM Gc HK HC JI G6 Hs Hq Ho JZ Jd Ip JN JW G2 Gq Hb pQ I2 Ic Gn Gb Gs HA HZ H8 Int.instDecidableEq Int.decEq instBEqOfDecidableEq IY II Ia Jq HF HH HN pC Nm OJ Jz Jc
section
open Go.Proofs Go.Ti
noncomputable def GO.gr0(n:GO)(v:Nat):LN:=(CS (n.all.length+(BT n.GQ).length)).filter λw=>@decide (n.ed false n.fR n.all.length v w) (ED _)
def vf{n:GO}{v w:Nat}:w∈n.gr0 v<->n.ed false n.fR n.all.length v w:=by
 unfold GO.gr0;rw[List.mem_filter,Da];constructor
 .rintro⟨_,h⟩;exact@of_decide_eq_true _ (ED _) h
 .intro h;have:=jH (k:=n.all.length) (λm=>AJE m) h;exact⟨AA,@decide_eq_true _ (ED _) h⟩
def kK{on:LLI}{E:Int->Int->Prop}{a:Nat}(hm:L2 [] on a E){v w:Nat}:w∈(on.getD v []).map Dk<->E v w:=by
 rw[B8];constructor
 .rintro⟨x,hx,rfl⟩;rw[hm.is]at hx;rcases hx with hx|⟨h0,he⟩
  .simp at hx
  .rw[show((x.toNat:Nat):Int)=x by omega];exact he
 .intro he;exact⟨w,(hm.is v w).2 (.inr ⟨AA,he⟩),AA⟩
def GO.SZ(n:GO)(v:Nat):Prop:=R n.gr0 (v+n.JS.length) (v+n.JS.length)
def GO.K3(n:GO):Nat:=n.Hz.length+n.GA.length+(BT n.GQ).length
def GO.IK(n:GO):LI:=(n.Hz++n.GA).map Ge.GY++BT n.GQ
def XY(n:GO):n.IK.length=n.K3:=by simp[GO.IK,GO.K3];omega
def ASS{n:GO}{gR:KU}{c:Nat}(hR:L2 [] gR.on c (n.ed false n.fR n.all.length))(v:Nat):R gR.gr (v+n.JS.length) (v+n.JS.length)<->n.SZ v:=⟨λr=>r.sub λv w hw=>vf.2 ((kK hR).1 hw),λr=>r.sub λv w hw=>(kK hR).2 (vf.1 hw)⟩
def ASR{N:List GO}{i:Nat}{n:GO}(h:O6 N i n){gP:Gr}{a:Nat}(hP:L2 [] gP.on a (n.ed true n.fP (n.Hz.length+n.GA.length)))(v:Nat):R gP.gr v v<->n.SZ v:=by
 refine gg.SZ ⟨λk hk=>?_,λv w=>?_⟩ v
 .refine List.eq_nil_iff_forall_not_mem.2 λw hw=>?_;have:=jI h (vf.1 hw);omega
 .show w∈(gP.on.getD v []).map Dk<->_;rw[kK hP,vf,AGv h AA AA];simp
inductive qL:List GO->Int->Int->Prop
 |nil:qL [] 0 0
 |skip (n:GO) (r:List GO) (a e:Int):(∀v,v<n.K3->¬n.SZ v)->qL r a e->qL (n::r) a e
 |Zs (n:GO) (r:List GO) (v:Nat) (a:Int):n.IK[v]?=some a->n.SZ v->(∀u,u<v->¬n.SZ u)->qL (n::r) a 29
def qL.one{N:List GO}{a e:Int}(h:qL N a e):∀{a' e':Int},qL N a' e'->a=a'/\e=e':=by
 induction h with
 |nil=>intro a' e' k;cases k;exact⟨rfl,rfl⟩
 |skip n r a e hn _ ih=>
  intro a' e' k;cases k with
  |skip _ _ _ _ _ k=>exact ih k
  |Zs _ _ v _ ha hr _=>exact Zq hr (hn v Aat)
 |Zs n r v a ha hr hu=>
  intro a' e' k;cases k with
  |skip _ _ _ _ hn k=>exact Zq hr (hn v Aat)
  |Zs _ _ v' _ lM PU hu'=>
   have:v=v':=by
    rcases Nat.lt_trichotomy v v' with h|h|h
    .exact Zq hr (hu' v h)
    .exact h
    .exact Zq PU (hu v' h)
   subst this;rw[ha]at lM;cases lM;exact⟨rfl,rfl⟩
def ACF:∀N:List GO,∃a e,qL N a e
 |[]=>⟨0,0,.nil⟩
 |n::r=>by
  by_cases h:∃v,v<n.K3/\n.SZ v
  .obtain⟨v0,hv0⟩:=h
   obtain⟨v,⟨h1,h2⟩,h3⟩:∃v,(v<n.K3/\n.SZ v)/\∀u,u<v->¬(u<n.K3/\n.SZ u):=by
    revert hv0
    induction v0 using Nat.strongRecOn with
    |ind k ih=>
     intro hk;by_cases h:∃u,u<k/\(u<n.K3/\n.SZ u)
     .obtain⟨u,hu,hpu⟩:=h;exact ih u hu hpu
     .exact⟨k,hk,λu hu hpu=>h ⟨u,hu,hpu⟩⟩
   obtain⟨a,ha⟩:∃a,n.IK[v]?=some a:=⟨_,Bc (by rw[XY];exact h1)⟩
   exact⟨a,29,.Zs n r v a ha h2 λu hu hr=>h3 u hu ⟨AA,hr⟩⟩
  .obtain⟨a,e,hk⟩:=ACF r;exact⟨a,e,.skip n r a e (λv hv hr=>h ⟨v,hv,hr⟩) hk⟩
variable{N:List GO} {Q:F1}
def AIn{i:Nat}{n:GO}(Pv:n.wt<=20000){s s':St}{r:PV}{g:Gr}(h:ABo s n r s' g):ABr g n.K3/\g.IK.length=n.K3:=by
 have hl:=Item.PW n.GQ;have hw:=Pv;unfold GO.wt at hw;have hon:=h.on;have HM:g.os.length=n.K3:=by have:=hon.len;simpa[GO.K3]using this
 refine⟨⟨HM,by unfold GO.K3;omega,λv x hx=>?_,λv=>?_⟩,by rw[h.IK];exact XY n⟩
 .rw[hon.is]at hx;rcases hx with hx|⟨h0,he⟩
  .simp at hx
  .have:=jH (k:=n.Hz.length+n.GA.length) (λm=>AP7 m) he;unfold GO.K3;omega
 .rw[CK];cases hv:g.on[v]? with
  |none=>simp
  |some l=>have:=h.PX l (Bn hv);simp;omega
def xX{n:GO}{g:Gr}(Pv:n.wt<=20000){B:Nat}{t:Ti.TS}{s:St}(h:Zo s g n.K3 B t)(ha:g.IK=n.IK)(hr:∀v,v<n.K3->(t.out v=true<->n.SZ v)){w:PV->PV->F1}{lv nv jv:PV}(Zs:∀v a,n.IK[v]?=some a->n.SZ v->(∀u,u<v->¬n.SZ u)->Q (.tuple [I a,I 29]) s)
  (skip:(∀v,v<n.K3->¬n.SZ v)->om (.Hw .Jh) Q w lv nv jv s):∀(m k:Nat),n.K3-k=m->k<=n.K3->(∀u,u<k->¬n.SZ u)->dR (.Hw .Jh) Q w (m+1) (.GN g.gp 0) (.map (B+7)) lv nv jv (I n.K3) (I k) s
 |0,k,hm,hk,hn=>by
  unfold dR oq;refine Fy AbX ?_;refine cf ?_;exact skip λv hv=>hn v AA
 |m+1,k,hm,hk,hn=>by
  have G7:k<n.K3:=AA;have hl:=Item.PW n.GQ;unfold GO.wt at Pv;have hcn:n.K3<=20000:=by unfold GO.K3;omega
  obtain⟨M,xt,rM⟩:=h.out;unfold dR oq;refine Fy AbW ?_;refine ct ?_;refine Fy Il ?_;by_cases Yd:n.SZ k
  .obtain⟨a,SU⟩:∃a,n.IK[k]?=some a:=⟨_,Bc (by rw[XY];exact G7)⟩
   refine Fy (bW (x:=1) xt rM ⟨λ_=>rfl,λhh=>Zq ((hr k G7).2 Yd) hh⟩) ?_;refine Fy (Gt (AR9 AA)) ?_;refine ct ?_;refine Fy Kl ?_;refine Fy Hj ?_;refine Fy (GH h.fix.gs.box rfl) ?_
   obtain⟨c,hc⟩:∃c,Hk (g.ba,g.IK)=.HL c (I7 g.IK):=by
    have h1:=h.fix.gs.IK;unfold KQ at h1;cases hb:g.ba with
    |none=>
     simp only[hb]at h1;rw[ha]at h1;rw[h1]at SU;cases SU
    |some c=>exact⟨c,rfl⟩
   rw[hc,ha];refine Fy (JE (GG:=[I a]) AA (by simp[I7,SU]) rfl) ?_;refine Fy (Hg rfl) ?_;refine Fy Il ?_;exact L5 rfl (Zs k a SU Yd hn)
  .refine Fy (bW (x:=0) xt rM ⟨λhh=>Zq ((hr k G7).1 hh) Yd,λ_=>rfl⟩) ?_;refine Fy (Gt (AR8 rfl)) ?_;refine cf ?_;refine Fy AbS ?_
   exact xX Pv h ha hr Zs skip m (k+1) AA G7 λu hu=>by
    by_cases e:u=k
    .subst e;exact Yd
    .exact hn u AA
def xW(hw:zJ N)(hN:Vk N)(hQ:∀a e s,qL N a e->Q (.tuple [I a,I e]) s):∀(m i:Nat),N.length-i=m->i<=N.length->(∀a e,qL (N.drop i) a e->qL N a e)->∀s,Gm s->Wj (.Hw .Jh) Q (m+1) (.GV (N.map Ay)) (I N.length) (I i) s
 |0,i,hm,hi,hc,s,hf=>by
  rw[CB AA]at hc;unfold Wj oo;refine Fy AbX ?_;refine cf ?_;unfold ACq;exact L5 rfl (hQ 0 0 s (hc 0 0 .nil))
 |m+1,i,hm,hi,hc,s,hf=>by
  have G7:i<N.length:=AA;have HM:=hw.len;rw[Bt G7]at hc;obtain⟨n,KO⟩:∃n,n=N[i]:=⟨_,rfl⟩
  rw[<- KO]at hc;have VN:N[i]?=some n:=by rw[KO];exact Bc G7
  have lW:O6 N i n:=by rw[KO];exact hN i G7
  have hwf:n.WF:=hw.wf _ (Bn VN);have Pv:n.wt<=20000:=by have:=T1 (l:=N) G7;rw[<- KO]at this;have:=hw.HS;omega
  obtain⟨s1,Kq⟩:∃s1,s1=(s.new (.box [.Gh ⟨#[]⟩,.nil,.nil,.nil,.nil,I 0])).set s.next (.box n.GG):=⟨_,rfl⟩
  have MS:Gm s1:=by rw[Kq];exact Hx (Hh hf) AH
  have Lz:s1.heap s.next=some (.box n.GG):=by rw[Kq];exact A4
  unfold Wj oo;refine Fy AbW ?_;refine ct ?_;refine Fy Ab6 ?_;refine Fy (IB n.GX) ?_;refine Fy (Lw rfl) ?_;refine Fy (IZ (Az rfl) n.GX (by rw[n.Zg];rfl) rfl) ?_;rw[<- Kq];refine Fy (Hm Lz n.GX) ?_;refine Rc (AFD hwf (GO.hd lW.AT9) Pv MS) λv s2 _ M4 hq=>?_;obtain⟨g,hG⟩:=hq;obtain⟨hV,hal⟩:=AIn (i:=i) Pv hG
  have hgr:∀v w,v<n.K3->w∈g.gr v->w<n.K3:=λv w _ hw=>by
   exact Ag4
  obtain⟨t,hA⟩:=A.ex hgr (CS n.K3) (λv hv=>Da.1 hv) TS.zero;rw[hG.res];refine Fy Zb ?_;refine Rc (AEi hV M4 hG.gs hal hA) λv s3 _ Tl hq=>?_;obtain⟨rfl,hR⟩:=hq;have Yd:∀v,v<n.K3->(t.out v=true<->n.SZ v):=λv hv=>(AAs hA (Da.2 hv)).trans (ASR lW hG.on v);refine Fy vk ?_;refine Fy Kl ?_;refine Fy Hj ?_;refine Fy (GH hR.fix.gs.box rfl) ?_;refine Fy (H5 (NY hR.fix.gs.IK)) ?_;rw[MC,hal];refine⟨_,xX Pv hR hG.IK Yd (λv a h1 h2 h3=>hQ _ _ _ AdB) (λPt=>?_) n.K3 0 AA AA λu hu=>by omega⟩;unfold om;refine Fy AbS ?_;exact xW hw hN hQ m (i+1) AA G7 (λa e h=>hc a e (.skip n _ a e Pt h)) s3 Tl
def il(hw:zJ N)(hN:Vk N){a e:Int}(h:qL N a e):PC BZ 14 [.agg [.GV (N.map Ay)]] [] (.tuple [I a,I e]) []:=by
 refine XI (Q:=λr s=>r=.tuple [I a,I e]) ((ALk (.Hw .Jh) _ ?_).sw Th) λr s h=>by rw[h];rfl
 unfold g14;refine Fy Acp ?_;refine Fy Hj ?_;refine Fy (GH (Az rfl) rfl) ?_;refine Fy Ab7 ?_;rw[Bb];exact⟨_,xW hw hN (λa' e' s h'=>by obtain⟨rfl,rfl⟩:=h.one h';rfl) N.length 0 AA AA (λa e h=>h) _ (Hh Th)⟩
end
section
open Go.Proofs Go.Ti
variable{N:List GO} {Q:F1}
def sy{n:GO}(Pv:n.wt<=20000){s s':St}{r:PV}{g:KU}(h:xC s n r s' g):ABq g (n.JS.length+n.K3)/\g.GL.length=n.JS.length+n.K3/\g.IK=n.JS.map Ge.GY++n.IK:=by
 have hl:=Item.PW n.GQ;have hw:=Pv;unfold GO.wt at hw;have hal:=kL n;have hon:=h.on
 have HM:g.os.length=n.JS.length+n.K3:=by
  have h1:=hon.len;simp only[Bb,List.length_nil]at h1;unfold GO.K3;omega
 refine⟨⟨HM,by unfold GO.K3;omega,λv x hx=>?_,h.PX,by unfold GO.K3;omega⟩,by rw[h.nm];unfold GO.K3;omega,by rw[h.IK];simp[GO.all,GO.IK]⟩;rw[hon.is]at hx;rcases hx with hx|⟨h0,he⟩
 .simp at hx
 .have:=jH (k:=n.all.length) (λm=>AJE m) he;unfold GO.K3;omega
def sf{n:GO}{i:Nat}(lW:O6 N i n)(Pv:n.wt<=20000){s0 sa:St}{r:PV}{g:KU}(hG:xC s0 n r sa g){w:PV->F1}{bx:Nat}{iv:PV}{cs:LP}(Zs:∀v a s,n.IK[v]?=some a->n.SZ v->(∀u,u<v->¬n.SZ u)->Q (.tuple [I a,I 29]) s)
  (skip:(∀v,v<n.K3->¬n.SZ v)->∀s,Gm s->s.heap bx=some (.box cs)->ot (.Hw .Jh) Q w (.GN bx 0) iv s):∀(m k:Nat),n.K3-k=m->k<=n.K3->(∀u,u<k->¬n.SZ u)->∀s,Gm s->RS s g->s.heap bx=some (.box cs)->dT (.Hw .Jh) Q w (m+1) (.GN bx 0) iv (.GN g.gp 0) (I (n.JS.length+k:Nat)) s
 |0,k,hm,hk,hn,s,hf,hg,hb=>by
  obtain⟨hV,Vh,SU⟩:=sy Pv hG;unfold dT ou;refine Fy Kl ?_;refine Fy Hj ?_;refine Fy Ab8 ?_;refine Fy AdH ?_;rw[Bb,Vh];refine Fy AbX ?_;refine cf ?_;exact skip (λv hv=>hn v AA) s hf hb
 |m+1,k,hm,hk,hn,s,hf,hg,hb=>by
  have G7:k<n.K3:=AA;obtain⟨hV,Vh,SU⟩:=sy Pv hG;have gJ:=hV.n2;unfold dT ou;refine Fy Kl ?_;refine Fy Hj ?_;refine Fy Ab8 ?_;refine Fy AdH ?_;rw[Bb,Vh];refine Fy AbW ?_;refine ct ?_;refine Rc (AEj hV hf hg Vh (k:=n.JS.length+k) AA) λv s1 _ MS hq=>?_;obtain⟨b,rfl,hbr,LX,pJ⟩:=hq;rw[Nat.add_comm n.JS.length k,ASS hG.on]at hbr;have Rl:RS s1 g:=hg.Hi λb hb=>LX b (hg.lt hf hb);have Lz:=(LX bx (Gu hf hb)).trans hb;refine Fy Lq ?_;cases b with
  |true=>
   have Yd:=hbr.1 rfl;obtain⟨a,ha⟩:∃a,n.IK[k]?=some a:=⟨_,Bc (by rw[XY];exact G7)⟩
   have hga:g.IK[n.JS.length+k]?=some a:=by rw[SU,CT AD];simpa using ha
   refine ct ?_;refine Fy Kl ?_;refine Fy Hj ?_;refine Fy (GH Rl.box rfl) ?_
   obtain⟨c,hc⟩:∃c,Hk (g.ba,g.IK)=.HL c (I7 g.IK):=by
    have h1:=Rl.IK;unfold KQ at h1;cases hb:g.ba with
    |none=>
     simp only[hb]at h1;rw[h1]at hga;cases hga
    |some c=>exact⟨c,rfl⟩
   rw[hc];refine Fy (JE (GG:=[I a]) AA (by rw[Cj,I7,CV,hga];rfl) rfl) ?_;refine Fy (Hg rfl) ?_;refine Fy Il ?_;exact L5 rfl (Zs k a s1 ha Yd hn)
  |false=>
   refine cf ?_;refine Fy AbS ?_;refine Fy Il ?_
   exact sf lW Pv hG Zs skip m (k+1) AA G7 (λu hu=>by
    by_cases e:u=k
    .subst e;exactλhr=>by have:=hbr.2 hr;cases this
    .exact hn u AA) s1 MS Rl Lz
def se(hw:zJ N)(hN:Vk N){bx:Nat}(hQ:∀a e s,qL N a e->Q (.tuple [I a,I e]) s):∀(m i:Nat),N.length-i=m->i<=N.length->(∀a e,qL (N.drop i) a e->qL N a e)->∀s,Gm s->s.heap bx=some (.box [.GV (N.map Ay)])->eh (.Hw .Jh) Q (m+1) (.GN bx 0) (I i) s
 |0,i,hm,hi,hc,s,hf,hb=>by
  rw[CB AA]at hc;unfold eh u3;refine Fy Hj ?_;refine Fy (GH hb rfl) ?_;refine Fy Ab7 ?_;rw[Bb];refine Fy AbX ?_;refine cf ?_;unfold ACr;exact L5 rfl (hQ 0 0 s (hc 0 0 .nil))
 |m+1,i,hm,hi,hc,s,hf,hb=>by
  have G7:i<N.length:=AA;have HM:=hw.len;rw[Bt G7]at hc;obtain⟨n,KO⟩:∃n,n=N[i]:=⟨_,rfl⟩
  rw[<- KO]at hc;have VN:N[i]?=some n:=by rw[KO];exact Bc G7
  have lW:O6 N i n:=by rw[KO];exact hN i G7
  have hwf:n.WF:=hw.wf _ (Bn VN);have Pv:n.wt<=20000:=by have:=T1 (l:=N) G7;rw[<- KO]at this;have:=hw.HS;omega
  unfold eh u3;refine Fy Hj ?_;refine Fy (GH hb rfl) ?_;refine Fy Ab7 ?_;rw[Bb];refine Fy AbW ?_;refine ct ?_;refine Fy Hj ?_;refine Fy (GH hb rfl) ?_;refine Fy Ab6 ?_;refine Fy (IB n.GX) ?_;refine Rc (ABJ hwf Pv (ANf lW) hf) λv s2 _ M4 hq=>?_;obtain⟨g,hG⟩:=hq;have L0:=(hG.Hi bx (Gu hf hb)).trans hb;rw[hG.res];refine Fy Zb ?_;refine Fy Hj ?_;refine Fy (GH L0 rfl) ?_;refine Fy Ab6 ?_;refine Fy Pw ?_;refine Fy (Hg (v:=.GV (n.JS.map Am)) (by rw[n.Zg];rfl)) ?_;refine Fy (H5 (GK:=n.JS.map Am) rfl) ?_;rw[Bb];refine Fy Il ?_;refine⟨_,sf lW Pv hG (λv a s h1 h2 h3=>hQ _ _ s AdB) (λPt s' jm OK=>?_) n.K3 0 AA AA (λu hu=>by omega) s2 M4 hG.gs L0⟩;unfold ot;refine Fy AbS ?_;refine Fy Il ?_;exact se hw hN hQ m (i+1) AA G7 (λa e h=>hc a e (.skip n _ a e Pt h)) s' jm OK
def AAq(hw:zJ N)(hN:Vk N){a e:Int}(h:qL N a e):PC BZ 15 [.agg [.GV (N.map Ay)]] [] (.tuple [I a,I e]) []:=by
 refine XI (Q:=λr s=>r=.tuple [I a,I e]) ((ALl (.Hw .Jh) _ ?_).sw Th) λr s h=>by rw[h];rfl
 unfold g15;refine Fy Acp ?_;exact⟨_,se hw hN (λa' e' s h'=>by obtain⟨rfl,rfl⟩:=h.one h';rfl) N.length 0 AA AA (λa e h=>h) _ (Hh Th) (Az rfl)⟩
end
end Go.Vi
