/- The statement CauseOrders is proved of every text, with no condition beyond the statement. -/
import Derived.Test.YtlonlfiaclacdaaGreatH4
import Derived.Test.YtlonlfiaclacdaaGreatRows
import Derived.WalkKit
import Derived.ProofKit
import Derived.OpenShut
set_option linter.all false
set_option maxRecDepth 100000
open Go renaming Calls->E8,Func->Eb,FuncId->CE,Program->Cc,TypeId->Bm,Value->Bc,callsIn_wide->EM
open Go.DataW renaming TrodAll->GR
open Go.Proofs.Tryz renaming checked->Ge,prog->BW,underlying4->Gl,underlying9->Gk
open List renaming append_nil->CL,length_cons->CG,mem_append->Bg,nil_append->CX
namespace Go.Vi
open Go Go.Proofs Go.RowKit Go.ChangeShapes Go.WideShapes
structure Nu (w w':World):Prop where
 os:w'.os=w.os
 output:w'.output=w.output
 Kv:∀B,B<w.heap.size->w'.heap[B]?=w.heap[B]?
theorem Nu.No{w w':World}(h:Nu w w')(may:MemPlace->Prop):w.keptBut w' may:=by refine⟨h.os,h.output,λi hi=>?_⟩;rw[h.Kv i hi];split<;>simp_all
theorem z4{P:Cc}{H:Type}{enc:Bm×Bc->H}{f:Eb}{s:ChangeSpec}{QF AFg AJ7 XY:Bool}{W W':World}{args:AV0}{v:Bc}{ds gs:List (DataW H)}{MZ pa pv:List MemPlace}
  (hW:DataW.Whole enc P f.params.toList s.vars QF W args.toList ds gs MZ)
  (fI:∀(b:Nat) (sp:Nat->Bool) (hd:Bool),GR enc P W' b sp hd f.resultTypes.toList (v.resultList f.resultTypes.size) (s.fn H (ds++gs)).results [])
  (Ok:∀sp:Nat->Bool,(∀p∈MZ,sp p.block=true)->GR enc P W' 0 sp true f.params.toList args.toList (s.fn H (ds++gs)).args pa)
  (AMg:∀sp:Nat->Bool,(∀p∈MZ,sp p.block=true)->DataW.TrodVars enc P W' sp s.vars (s.fn H (ds++gs)).vars pv)
  (hps:MZ=pa++pv)(ho:Nu W W')
  (Ld:∀(j:Nat) (t:Bm) (r:Bc),f.resultTypes[j]?=some t->(v.resultList f.resultTypes.size)[j]?=some r->Value.okWide P W' .any 0 t r):
  s.post enc P f QF AFg AJ7 XY W args v W':=by
 have H5:∀p∈MZ,p.block<W.heap.size:=λp hp=>by simpa using hW.lt p hp
 have NM:∀p∈MZ,(λb=>decide (b<W.heap.size)) p.block=true:=λp hp=>by simpa using H5 p hp
 refine⟨ds,gs,MZ,[],pa,pv,hW,fI _ _ _,Ok _ NM,AMg _ NM,World.keptBut_mono (λp hp=>⟨hp,?_⟩) (ho.No (·∈MZ)),λ_=>?_⟩
 .rw[hps,Bg]at hp;exact Or.inr hp
 .obtain⟨_,_,_,_,_,hz,hn⟩:=hW;refine⟨Ld,_,_,([]++pa)++pv,⟨[]++pa,pv,trodAll_append (Ok _ λ_ _=>rfl) (fI _ _ _),AMg _ λ_ _=>rfl,rfl,?_,?_⟩,?_⟩
  .intro b off hp;have hb:MemPlace.cell b off∈MZ:=by rw[hps];simpa using hp
   rw[World.frozen?_of_block (w:=W) (ho.Kv _ (H5 _ hb))];exact hz b off hb
  .intro ha;have:=hn ha;rw[hps]at this;exact Afx
  .intro p hp _;rw[hps];simpa using hp
theorem ADn(w:World)(t:BA)(ht:(t.size:Int)<=9223372036854775807):E8 BW 10 #[.string t] w λe w'=>e=.returned (.bool true)/\Nu w w':=by refine EM.1 ((ADo t ht (λ_=>none) w [] [.string t] (λB ks h=>by cases h) .nil AD (.cons _ _ _ _ (.data _ _ (.HK _)) .nil)).mono ?_);rintro e w' ⟨K',v,rfl,h⟩;refine⟨?_,h.os,h.output,λB hB=>h.Kv B hB AD⟩;rw[MP h.val]
end Go.Vi
namespace Go.Proofs.YtlonlfiaclacdaaGreat.causeOrders
open Go.ChangeShapes Go.WideShapes Go.ChangeAt Go.RowKit Go.ChangeMaps
theorem Hm:ownKnob Tryz.prog.godebug=none:=by kernel_rfl
theorem AP1(os:Os)(te:os.Started)(H:Type)(enc:Bm×Bc->H):
  ReturnsInHanded {} Ge os 10 .any (Rows.causeOrdersSpec.pre6 enc BW Tryz.f10 Rows.causeOrdersRow.domain false) (Rows.causeOrdersSpec.post enc BW Tryz.f10 false true false false):=by
 refine returnsInHanded_of_change (C:=Ge) Hm te AF Tryz.func10
  (ChangeSpec.witness6 (enc:=enc) (C:=Ge) false ⟨#[],#[.string ⟨#[]⟩],[]⟩ 8 AF AF AF AF) ?_
 intro W Iw args ds gs MZ AMf hW hcnd _;have AUK:∀(j:Nat) t v,Tryz.f10.params[j]?=some t->args[j]?=some v->Value.okWide BW W .any Iw t v:=AMf;have hW':=hW;obtain⟨p,q,hA0,hV,rfl,hfz,L6⟩:=hW;have hA:GR enc BW W 0 (λ_=>true) true Tryz.f10.params.toList args.toList ds p:=hA0;rw[Tryz.params10]at hA AUK;obtain⟨v0,vs0,d0,ds0,p0,q0,Ok,rfl,rfl,h0,r0⟩:=trodAll_cons hA;obtain⟨rfl,rfl,rfl⟩:=trodAll_nil r0;obtain rfl:args=#[v0]:=by cases args;simp_all
 obtain⟨rfl,rfl⟩:=trodVars_none hV;obtain⟨a0,rfl,rfl,rfl,w0⟩:=open_string Gk (AUK 0 9 v0 rfl rfl) h0;clear hA0 AMf;simp only[CL]at hW';have hml:maxLen<=9223372036854775807:=AS;refine(Go.Vi.ADn W a0 AA).mono ?_;rintro _ W' ⟨rfl,hg⟩
 exact⟨_,rfl,Go.Vi.z4 (pa:=[]) (pv:=[]) hW' (λ_ _ _=>(trodAll_cons_mk (shut_bool Gl _) trodAll_mk0)) (λsp _=>(trodAll_cons_mk (shut_string Gk w0) trodAll_mk0)) (λ_ _=>rfl) rfl
  hg (ok_one AF rfl (okWide_bool_mk Gl _))⟩
theorem AYf:Rows.causeOrdersRow.holds Tryz.pinned (OpenSpec.ofChange Rows.causeOrdersSpec):=
 OpenClaim.holds_of_wide 10 Tryz.f10 rfl rfl rfl rfl rfl rfl rfl ⟨rfl,rfl,rfl,rfl,rfl⟩ rfl rfl rfl rfl rfl AF Tryz.func10 AF
  (Ot AF) (by unfold Func.isWrapper;first|(rw[Ps (by decide+kernel)];kernel_rfl)|(rw[Ng (by decide+kernel)];exact⟨rfl,rfl⟩))
  (λos te H enc _=>AP1 os te H enc)
theorem proved:Rows.CauseOrdersSaid:=AYf
end Go.Proofs.YtlonlfiaclacdaaGreat.causeOrders
