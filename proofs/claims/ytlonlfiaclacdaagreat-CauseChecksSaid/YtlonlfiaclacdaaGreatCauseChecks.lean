/- The statement CauseChecks is proved of every text, with no condition beyond the statement. -/
import Derived.Test.YtlonlfiaclacdaaGreatU3
import Derived.Test.YtlonlfiaclacdaaGreatRows
import Derived.WalkKit
import Derived.ProofKit
import Derived.OpenShut
set_option linter.all false
set_option maxRecDepth 100000
open Go renaming Func->Dm,FuncId->B9,Program->Cf,TypeId->Bz,Value->Bk
open Go.DataW renaming TrodAll->FU
open Go.Proofs.Tryz renaming checked->Fg,prog->BZ,underlying4->Fq,underlying9->Fp
open List renaming append_nil->CG,length_cons->CE,mem_append->Bf,nil_append->CC,set_cons_succ->Cb,set_cons_zero->Ca
namespace Go.Vi
open Go Go.Proofs Go.RowKit Go.ChangeShapes Go.WideShapes
structure Nu (w w':World):Prop where
 os:w'.os=w.os
 output:w'.output=w.output
 LU:∀B,B<w.heap.size->w'.heap[B]?=w.heap[B]?
theorem Nu.OD{w w':World}(h:Nu w w')(ve:MemPlace->Prop):w.keptBut w' ve:=by refine⟨h.os,h.output,λi hi=>?_⟩;rw[h.LU i hi];split<;>simp_all
theorem vy{P:Cf}{H:Type}{enc:Bz×Bk->H}{f:Dm}{s:ChangeSpec}{YT AQB AHC gh:Bool}{W W':World}{args:AV0}{v:Bk}{ds gs:List (DataW H)}{MW pa pv:List MemPlace}
  (hW:DataW.Whole enc P f.params.toList s.vars YT W args.toList ds gs MW)
  (bM:∀(b:Nat) (sp:Nat->Bool) (hd:Bool),FU enc P W' b sp hd f.resultTypes.toList (v.resultList f.resultTypes.size) (s.fn H (ds++gs)).results [])
  (OU:∀sp:Nat->Bool,(∀p∈MW,sp p.block=true)->FU enc P W' 0 sp true f.params.toList args.toList (s.fn H (ds++gs)).args pa)
  (AJw:∀sp:Nat->Bool,(∀p∈MW,sp p.block=true)->DataW.TrodVars enc P W' sp s.vars (s.fn H (ds++gs)).vars pv)
  (hps:MW=pa++pv)(ho:Nu W W')
  (Jk:∀(j:Nat) (t:Bz) (r:Bk),f.resultTypes[j]?=some t->(v.resultList f.resultTypes.size)[j]?=some r->Value.okWide P W' .any 0 t r):
  s.post enc P f YT AQB AHC gh W args v W':=by
 have G7:∀p∈MW,p.block<W.heap.size:=λp hp=>by simpa using hW.lt p hp
 have OW:∀p∈MW,(λb=>decide (b<W.heap.size)) p.block=true:=λp hp=>by simpa using G7 p hp
 refine⟨ds,gs,MW,[],pa,pv,hW,bM _ _ _,OU _ OW,AJw _ OW,World.keptBut_mono (λp hp=>⟨hp,?_⟩) (ho.OD (·∈MW)),λ_=>?_⟩
 .rw[hps,Bf]at hp;exact Or.inr hp
 .obtain⟨_,_,_,_,_,hz,hn⟩:=hW;refine⟨Jk,_,_,([]++pa)++pv,⟨[]++pa,pv,trodAll_append (OU _ λ_ _=>rfl) (bM _ _ _),AJw _ λ_ _=>rfl,rfl,?_,?_⟩,?_⟩
  .intro b off hp;have hb:MemPlace.cell b off∈MW:=by rw[hps];simpa using hp
   rw[World.frozen?_of_block (w:=W) (ho.LU _ (G7 _ hb))];exact hz b off hb
  .intro ha;have:=hn ha;rw[hps]at this;exact Aea
  .intro p hp _;rw[hps];simpa using hp
theorem zg(w:World)(t:BA)(ht:(t.size:Int)<=9223372036854775807):Calls BZ 3 #[.string t] w λe w'=>e=.returned (.bool true)/\Nu w w':=by refine callsIn_wide.1 ((zj t ht (λ_=>none) w [] [.string t] (λB ks h=>by cases h) .nil AD (.cons _ _ _ _ (.data _ _ (.Gh _)) .nil)).mono ?_);rintro e w' ⟨K',v,rfl,h⟩;refine⟨?_,h.os,h.output,λB hB=>h.LU B hB AD⟩;rw[LG h.val]
end Go.Vi
namespace Go.Proofs.YtlonlfiaclacdaaGreat.causeChecks
open Go.ChangeShapes Go.WideShapes Go.ChangeAt Go.RowKit Go.ChangeMaps
theorem HE:ownKnob Tryz.prog.godebug=none:=by kernel_rfl
theorem ANO(os:Os)(qD:os.Started)(H:Type)(enc:Bz×Bk->H):
  ReturnsInHanded {} Fg os 3 .any (Rows.causeChecksSpec.pre6 enc BZ Tryz.f3 Rows.causeChecksRow.domain false) (Rows.causeChecksSpec.post enc BZ Tryz.f3 false true false false):=by
 refine returnsInHanded_of_change (C:=Fg) HE qD AF Tryz.func3
  (ChangeSpec.witness6 (enc:=enc) (C:=Fg) false ⟨#[],#[.string ⟨#[]⟩],[]⟩ 8 AF AF AF AF) ?_
 intro W IW args ds gs MW AJv hW hcnd _;have AHb:∀(j:Nat) t v,Tryz.f3.params[j]?=some t->args[j]?=some v->Value.okWide BZ W .any IW t v:=AJv;have hW':=hW;obtain⟨p,q,hA0,hV,rfl,hfz,KO⟩:=hW;have hA:FU enc BZ W 0 (λ_=>true) true Tryz.f3.params.toList args.toList ds p:=hA0;rw[Tryz.params3]at hA AHb;obtain⟨v0,vs0,d0,ds0,p0,q0,OU,rfl,rfl,h0,r0⟩:=trodAll_cons hA;obtain⟨rfl,rfl,rfl⟩:=trodAll_nil r0;obtain rfl:args=#[v0]:=by cases args;simp_all
 obtain⟨rfl,rfl⟩:=trodVars_none hV;obtain⟨a0,rfl,rfl,rfl,w0⟩:=open_string Fp (AHb 0 9 v0 rfl rfl) h0;clear hA0 AJv;simp only[CG]at hW';have hml:maxLen<=9223372036854775807:=AL;refine(Go.Vi.zg W a0 AA).mono ?_;rintro _ W' ⟨rfl,hg⟩
 exact⟨_,rfl,Go.Vi.vy (pa:=[]) (pv:=[]) hW' (λ_ _ _=>(trodAll_cons_mk (shut_bool Fq _) trodAll_mk0)) (λsp _=>(trodAll_cons_mk (shut_string Fp w0) trodAll_mk0)) (λ_ _=>rfl) rfl
  hg (ok_one AF rfl (okWide_bool_mk Fq _))⟩
theorem AWa:Rows.causeChecksRow.holds Tryz.pinned (OpenSpec.ofChange Rows.causeChecksSpec):=
 OpenClaim.holds_of_wide 3 Tryz.f3 rfl rfl rfl rfl rfl rfl rfl ⟨rfl,rfl,rfl,rfl,rfl⟩ rfl rfl rfl rfl rfl AF Tryz.func3 AF
  (Ot AF) (by unfold Func.isWrapper;first|(rw[Ps (by decide+kernel)];kernel_rfl)|(rw[Ng (by decide+kernel)];exact⟨rfl,rfl⟩))
  (λos qD H enc _=>ANO os qD H enc)
theorem proved:Rows.CauseChecksSaid:=AWa
end Go.Proofs.YtlonlfiaclacdaaGreat.causeChecks
