/- Part of the proof of CauseOrders (own work, made small). -/
import Derived.Test.YtlonlfiaclacdaaGreatA2
set_option linter.all false
set_option maxRecDepth 100000
open Array renaming getElem?_eq_getElem->Bv,getElem?_eq_some_iff->B4,getElem?_toList->Cq,length_toList->CB,range->Es,size_append->DH,toList_extract->FN
open Bool renaming and_eq_true->Bk,false_eq_true->Ch,false_or->Dj,not_eq_true'->DO,or_eq_false_iff->Cn
open Go renaming Obj->EN,heap_alloc_new->E2,Addr->EW,BinOp->EP,CallsIn->E7,Field->FY,FuncId->CE,MapEntry->DT,Operand->Cb,Program->Cc,TypeDesc->DB,TypeId->Bm,TypeInfo->Ex,Value->Bc,asIntOf->EL,binOp->Di,cell_of_row->Db,eqGuard->DS,grownCap->Cj,grownCap_ge->Fe,heap_alloc_new->EK,heap_alloc_old->DE,run_underlying->Bb,sizeOf->En,typeInfo->Dk,zeroValue->EX
open Go.Addr renaming add_lit->Cz
open Go.Builtin renaming append_->Ck,len_->Dh,zeroCells->CK
open Go.Fence renaming wide->Cy
open Go.Instr renaming build->Er,buildSlice->DW,field->FO,fieldAt->FJ,fill->FB,index->Fj,indexAt->Dv,loadAt->DZ,makeSlice->Dp,slice->FP,sliceAt->DL,sureAddr->Cu
open Go.Op renaming eqFields->Fk,equal->Dq,equalIn->Cx,intArith->Fl,maxDepth->Et,unary->GG
open Go.Sem renaming run_bind->Bh
open Go.Value renaming slice->FU
open Int renaming toNat_natCast->Ce
open List renaming all_cons->Cl,all_eq_true->CV,append_assoc->CN,append_nil->CL,drop_append->Gg,drop_drop->D6,drop_zero->Cv,ext_getElem?->Dc,findIdx?_eq_some_iff_getElem->C0,flatten_cons->ET,getElem?_append_left->B5,getElem?_append_right->CU,getElem?_drop->Cg,getElem?_eq_getElem->BZ,getElem?_eq_none->CA,getElem?_eq_some_iff->Bn,getElem?_of_mem->FT,getElem?_take->Cr,getElem_mem->Bl,idxOf?->FV,idxOf?_eq_none_iff->D8,length_append->Bf,length_cons->CG,length_eq_zero_iff->Dd,length_take->C1,mem_cons->Bz,mem_cons_of_mem->Co,mem_cons_self->C8,mem_of_getElem?->Bt,nil_append->CX,nodup_cons->CY,prefix_append->Fh,prefix_refl->C4,replicate->C2,size_toArray->Ci,take_append_drop->CP,take_append_of_le_length->DI,take_length->DG,take_of_length_le->CJ
open Nat renaming add_assoc->Dw,add_comm->Ga,add_mul->CW,add_zero->DF,beq->Bo,beq_eq->Ff,ble->Ct,eq_of_beq_eq_true->Bu,le_refl->Bd,le_trans->CD,lt_of_lt_of_le->Cw,mul_comm->Ez,mul_le_mul_right->Cf,one_mul->Eu,zero_add->CR,zero_le->ED
open Ne renaming symm->ER
open Option renaming isSome_iff_exists->DK,map_eq_some_iff->E3
open Option.some renaming injEq->Ba
open Prod.mk renaming injEq->CM
namespace Go.Vi
section
open Go.Ab (ND Ox P6 La RO)
inductive PV where
 |UO
 |int (k:IntKind) (n:Int)
 |bool (b:Bool)
 |HK (s:ByteArray)
 |nil
 |HC (G1:List (List PV))
 |H6 (b:Nat) (G1:List (List PV))
 |LQ (b n:Nat)
 |agg (l:List PV)
 |tuple (l:List PV)
 |G5 (b o:Nat)
 |M8 (Gy:List PV) (o:Nat)
 |RC
 |map (b:Nat)
 |je
 |fn (f:CE) (Xh:List PV)
 |nfn
 |yield (L:Nat)
 |iface (t:Bm) (v:PV)
 |VE
abbrev PV.undef:PV:=.tuple []
inductive KD where
 |i (n:Int)
 |s (b:ByteArray)
def KD.is:KD->KD->Bool
 | .i a,.i b=>a==b
 | .s a,.s b=>a.toList==b.toList
 |_,_=>false
def KD.QV:KD->KD->Bool
 | .i _,.i _=>true
 | .s _,.s _=>true
 |_,_=>false
def KD.val:KD->Bc
 | .i n=> .int .i64 n
 | .s b=> .string b
abbrev ML:=List (KD×Int)
def Ko(k:KD):ML->Option Int
 |[]=>none
 |(k',v)::r=>bif k.is k' then some v else Ko k r
def Qz(k:KD)(v:Int):ML->ML
 |[]=>[(k,v)]
 |(k',v')::r=>bif k.is k' then(k,v)::r else(k',v')::Qz k v r
def iR(k:KD):ML->ML
 |[]=>[]
 |(k',v')::r=>bif k.is k' then r else(k',v')::iR k r
inductive Obj where
 |box (cells:List PV)
 |Hm (n e:Nat)
 |LM (e:Nat) (cells:List PV)
 |map (l:ML)
 |NY
def Obj.vz:Obj->Bool
 | .Hm _ _=>true
 |_=>false
def Obj.ZF:Obj->Bool
 | .NY=>true
 |_=>false
structure St where
 heap:Nat->Option Obj
 next:Nat
abbrev Fr:=Nat->PV
def Fr.set(fr:Fr)(d:Nat)(v:PV):Fr:=λt=>bif Bo t d then v else fr t
def St.set(st:St)(b:Nat)(o:Obj):St:={st with heap:=λx=>bif Bo x b then some o else st.heap x}
def St.new(st:St)(o:Obj):St:={heap:=λx=>bif Bo x st.next then some o else st.heap x,next:=st.next+1}
def PV.cells:PV->List PV
 | .agg l=>l
 |v=>[v]
def PV.data:PV->Option PV
 | .int k n=>some (.int k n)
 | .bool b=>some (.bool b)
 | .HK s=>some (.HK s)
 | .nil=>some (.HC [])
 | .HC G1=>some (.HC G1)
 | .H6 _ G1=>some (.HC G1)
 |_=>none
def KR:List PV->Option (List PV)
 |[]=>some []
 |v::r=>match v.data with
  |some x=>match KR r with
   |some l=>some (x::l)
   |none=>none
  |none=>none
def PV.pJ:PV->Option PV
 | .nil=>some .nil
 |v=>v.data
def U5:List PV->Option (List PV)
 |[]=>some []
 |v::r=>match v.pJ with
  |some x=>match U5 r with
   |some l=>some (x::l)
   |none=>none
  |none=>none
def yN(N:Bool)(l:List PV):Option (List PV):=bif N then U5 l else KR l
def PV.G1:PV->Option (List (List PV))
 | .nil=>some []
 | .HC G1=>some G1
 | .H6 _ G1=>some G1
 |_=>none
def PV.Iu:PV->Bool
 | .agg _| .tuple _| .UO=>false
 |_=>true
def PV.w9:PV->Bool
 | .UO=>false
 |_=>true
inductive KC where
 |val (v:PV)
 |load (b:Nat) (f:List PV->Option PV)
 |store (b:Nat) (f:List PV->Option (List PV))
 |box (cells:List PV) (f:Nat->PV)
 |push (b n e k:Nat) (v:PV)
 |Hm (n e:Nat) (f:Nat->PV)
 |LM (e:Nat) (cells:List PV) (f:Nat->PV)
 |ey (b e:Nat) (f:List PV->Option (List PV)) (k:Nat->PV)
 |map (l:ML) (f:Nat->PV)
 |jd (b:Nat) (f:ML->Option PV)
 |n8 (b:Nat) (f:ML->Option ML)
def KC.run:KC->St->Option (PV×St)
 | .val v,st=>some (v,st)
 | .load b f,st=>match st.heap b with
  |some (.box cs)=>match f cs with
   |some v=>some (v,st)
   |none=>none
  |some (.LM _ cs)=>match f cs with
   |some v=>some (v,st)
   |none=>none
  |_=>none
 | .store b f,st=>match st.heap b with
  |some (.box cs)=>match f cs with
   |some NL=>some (.undef,st.set b (.box NL))
   |none=>none
  |some (.LM e cs)=>match f cs with
   |some NL=>some (.undef,st.set b (.LM e NL))
   |none=>none
  |_=>none
 | .box cs f,st=>some (f st.next,st.new (.box cs))
 | .push b n e k v,st=>match st.heap b with
  |some (.Hm n' e')=>bif Bo n n'&&(Bo n 0||Bo e e')then some (v,st.set b (.Hm (n+k) e))else none
  |_=>none
 | .Hm n e f,st=>some (f st.next,st.new (.Hm n e))
 | .LM e cs f,st=>some (f st.next,st.new (.LM e cs))
 | .ey b e f k,st=>match st.heap b with
  |some (.LM e' cs)=>bif Bo e e' then(match f cs with
   |some NL=>some (k st.next,(st.set b .NY).new (.LM e NL))
   |none=>none)else none
  |_=>none
 | .map l f,st=>some (f st.next,st.new (.map l))
 | .jd b f,st=>match st.heap b with
  |some (.map l)=>match f l with
   |some v=>some (v,st)
   |none=>none
  |_=>none
 | .n8 b f,st=>match st.heap b with
  |some (.map l)=>match f l with
   |some l'=>some (.undef,st.set b (.map l'))
   |none=>none
  |_=>none
def KC.rd:KC->LN
 | .load b _=>[b]
 | .jd b _=>[b]
 |_=>[]
def KC.wr:KC->LN
 | .store b _=>[b]
 | .push b _ _ _ _=>[b]
 | .ey b _ _ _=>[b]
 | .n8 b _=>[b]
 |_=>[]
def ACr:Bc->Option PV
 | .bool b=>some (.bool b)
 | .int k n=>some (.int k n)
 | .string s=>some (.HK s)
 | .slice none 0 0=>some .nil
 | .pointer none=>some .RC
 | .map none=>some .je
 | .nilFunc=>some .nfn
 | .nilIface=>some .VE
 |_=>none
def rT:LV->Option (List PV)
 |[]=>some []
 |v::r=>match ACr v with
  |some a=>match rT r with
   |some l=>some (a::l)
   |none=>none
  |none=>none
def cst:Bc->Option PV
 | .agg cs=>match rT cs.toList with
  |some l=>some (.agg l)
  |none=>none
 | .tuple cs=>match rT cs.toList with
  |some l=>some (.tuple l)
  |none=>none
 |v=>ACr v
def M0:PV->ON
 | .int _ n=>if 0<=n then some n.toNat else none
 |_=>none
def NR(cs:List PV)(o:Nat)(xs:List PV):Option (List PV):=if o+xs.length<=cs.length then some (cs.take o++xs++cs.drop (o+xs.length))else none
section
variable(P:Program)
def AE0(md:Bool)(t:Bm):Bool:=md||(match P.info? t with
 |some i=>match i.desc with
  | .named _ _=>true
  |_=>false
 |none=>false)||(match La P t with
 |some e=>match P.underlying e with
  |some (.slice _)=>true
  |_=>false
 |none=>false)
def Xf(t:Bm):Option PV:=match P.info? t with
 |some i=>match i.zero with
  |some z=>cst z
  |none=>none
 |none=>none
def Oh(fr:Fr):Cb->Option PV
 | .tmp t=>some (fr t)
 | .const v=>cst v
 |_=>none
def Ly(fr:Fr):List Cb->Option (List PV)
 |[]=>some []
 |o::r=>match Oh fr o with
  |some a=>match Ly fr r with
   |some l=>some (a::l)
   |none=>none
  |none=>none
def uu(t:Bm)(cs:List PV)(o:Nat):Option PV:=match P6 P t with
 |some true=>match ND P t with
  |some n=>if o+n<=cs.length then some (.agg ((cs.drop o).take n))else none
  |none=>none
 |some false=>cs[o]?
 |none=>none
def m8(t:Bm):PV->Option KC
 | .G5 b o=>some (.load b λcs=>uu P t cs o)
 | .M8 Gy o=>match uu P t Gy o with
  |some v=>some (.val v)
  |none=>none
 |_=>none
def AAU(t:Bm)(x:PV):PV->Option KC
 | .G5 b o=>match ND P t with
  |some n=>bif Bo x.cells.length n&&x.cells.all PV.Iu then some (.store b λcs=>NR cs o x.cells)else none
  |none=>none
 |_=>none
def vA(JV:Nat->Option (Nat×Nat))(cells:List PV):List (Nat×PV)->Option (List PV)
 |[]=>some cells
 |(i,v)::Jl=>match JV i with
  |none=>none
  |some (off,size)=>bif Bo v.cells.length size then(match NR cells off v.cells with
   |some cs=>vA JV cs Jl
   |none=>none)else none
def zy(NH:Array FY)(i:Nat):Option (Nat×Nat):=match NH[i]? with
 |some f=>match ND P f.type with
  |some s=>some (f.offset,s)
  |none=>none
 |none=>none
def yE(t:Bm)(Iv:List (Nat×PV)):Option PV:=
 match Xf P t with
 |some z=>match P.underlying t with
  |some (.struct NH)=>bif Go.Ab.PY P NH.toList then(match vA (zy P NH) z.cells Iv with
   |some l=>some (.agg l)
   |none=>none)else none
  |_=>none
 |none=>none
def Q4(N:Bool)(size:Nat):Nat->List (Nat×PV)->Option (List (List PV))
 |_,[]=>some []
 |k,(i,v)::r=>bif Bo i k&&Bo v.cells.length size then(match yN N v.cells with
  |some Gy=>match Q4 N size (k+1) r with
   |some l=>some (Gy::l)
   |none=>none
  |none=>none)else none
def Xz(N:Bool)(t:Bm)(len:Nat)(Iv:List (Nat×PV)):Option PV:=
 match La P t with
 |some e=>match ND P e with
  |some (size+1)=>bif Ct (len*(size+1)) 16777216&&Bo Iv.length len then
    (match Xf P e with
    |some z=>bif Bo z.cells.length (size+1)then(match Q4 N (size+1) 0 Iv with
     |some G1=>some (.HC G1)
     |none=>none)else none
    |none=>none)
   else none
  |_=>none
 |none=>none
def Xx(t:Bm):Option KC:=
 match La P t with
 |some e=>match ND P e with
  |some (size+1)=>some (.LM (size+1) [] λb=> .LQ b 0)
  |_=>none
 |none=>none
def cu(t:Bm)(l c:PV):Option KC:=
 match La P t with
 |some e=>match ND P e with
  |some (size+1)=>match Ox P e with
   |some bytes=>match M0 l with
    |some l=>match M0 c with
     |some c=>bif Bo l c&&Go.Ab.JE c bytes then
       (match Xf P e with
       |some z=>bif Bo z.cells.length (size+1)then some (.LM (size+1) (C2 l z.cells).flatten λb=> .LQ b l)else none
       |none=>none)
      else none
     |none=>none
    |none=>none
   |none=>none
  |_=>none
 |none=>none
def cM(s:Bm)(f:Nat)(x:PV):Option PV:=
 match RO P s f with
 |some fd=>match ND P fd.type with
  |some (_+1)=>match x with
   | .G5 b o=>some (.G5 b (o+fd.offset))
   | .M8 Gy o=>some (.M8 Gy (o+fd.offset))
   |_=>none
  |_=>none
 |none=>none
def yb(s:Bm)(f:Nat)(x:PV):Option PV:=
 match RO P s f with
 |some fd=>match x with
  | .agg l=>uu P fd.type l fd.offset
  |_=>none
 |none=>none
def fW(size:Nat)(G1:List (List PV))(i:Nat):Option PV:=match G1[i]? with
 |some Gy=>bif Bo Gy.length size then some (.M8 Gy 0)else none
 |none=>none
def cg(t:Bm)(x i:PV):Option PV:=
 match M0 i with
 |some i=>match P.underlying t with
  |some (.slice e)=>match ND P e with
   |some size=>match x with
    | .LQ b n=>if i<n then some (.G5 b (i*size))else none
    | .HC G1=>fW size G1 i
    | .H6 _ G1=>fW size G1 i
    |_=>none
   |none=>none
  |some (.array n e)=>match ND P e with
   |some size=>match x with
    | .G5 b o=>if i<n then some (.G5 b (o+i*size))else none
    |_=>none
   |none=>none
  |_=>none
 |none=>none
def zM(t:Bm)(x i:PV):Option PV:=
 match M0 i with
 |some i=>match P.underlying t with
  |some .string=>match x with
   | .HK s=>match s[i]? with
    |some b=>some (.int .u8 b.toNat)
    |none=>none
   |_=>none
  |_=>none
 |none=>none
def Ze(o:Option Cb)(l:List PV):Option (ON×List PV):=
 match o with
 |none=>some (none,l)
 |some _=>match l with
  |v::r=>match M0 v with
   |some n=>some (some n,r)
   |none=>none
  |[]=>none
def AAN(t:Bm)(x:PV)(Mw KQ:ON):Option PV:=
 match P.underlying t with
 |some .string=>match x with
  | .HK s=>if KQ.getD s.size<=s.size/\Mw.getD 0<=KQ.getD s.size then some (.HK (s.extract (Mw.getD 0) (KQ.getD s.size)))else none
  |_=>none
 |some (.slice e)=>match ND P e with
  |some size=>match x with
   | .LQ b n=>if Mw=none/\KQ.getD n<=n then some (.LQ b (KQ.getD n))else none
   |x=>match x.G1 with
   |some G1=>if KQ.getD G1.length<=G1.length/\Mw.getD 0<=KQ.getD G1.length/\G1.all (λr=>Bo r.length size)=true then some (.HC ((G1.drop (Mw.getD 0)).take (KQ.getD G1.length-Mw.getD 0)))else none
   |none=>none
  |none=>none
 |_=>none
def AP0(t:Bm)(x:PV):Option PV:=match P.underlying t with
 |some .string=>match x with
  | .HK s=>some (.int .i64 s.size)
  |_=>none
 |some (.slice _)=>match x with
  | .LQ _ n=>some (.int .i64 n)
  |x=>match x.G1 with
  |some G1=>some (.int .i64 G1.length)
  |none=>none
 |_=>none
def qv(md:Bool)(t:Bm)(s x:PV):Option KC:=
 match La P t with
 |some e=>match ND P e with
  |some (size+1)=>match Ox P e with
   |some bytes=>match Xf P e with
    |some z=>bif Bo z.cells.length (size+1)then(match x.G1 with
     |some xs=>bif xs.all (λr=>Bo r.length (size+1))then(match s with
      | .nil=>bif Go.Ab.JE xs.length bytes then(bif AE0 P md t then(match xs with
       |[]=>some (.val .nil)
       |_::_=>some (.LM (size+1) xs.flatten λb=> .LQ b xs.length))else some (.Hm xs.length (size+1) λb=> .H6 b xs))else none
      | .LQ b n=>bif Go.Ab.JE (n+xs.length) bytes then some (.ey b (size+1) (λcs=>if n*(size+1)<=cs.length then some (cs.take (n*(size+1))++xs.flatten)else none) λb'=> .LQ b' (n+xs.length))else none
      | .H6 b G1=>bif Go.Ab.JE (G1.length+xs.length) bytes&&G1.all (λr=>Bo r.length (size+1))then some (.push b G1.length (size+1) xs.length (.H6 b (G1++xs)))else none
      |_=>none)else none
     |none=>none)else none
    |none=>none
   |none=>none
  |_=>none
 |none=>none
def AGR(op:EP)(k:IntKind)(a b:Int):Option PV:=
 match op with
 | .add=>some (.int k (k.wrap (a+b)))
 | .sub=>some (.int k (k.wrap (a-b)))
 | .mul=>some (.int k (k.wrap (a*b)))
 | .quo=>if b=0 then none else some (.int k (k.wrap (a.tdiv b)))
 | .rem=>if b=0 then none else some (.int k (a.tmod b))
 | .eql=>some (.bool (a==b))
 | .neq=>some (.bool (a !=b))
 | .lss=>some (.bool (decide (a<b)))
 | .leq=>some (.bool (decide (a<=b)))
 | .gtr=>some (.bool (decide (a>b)))
 | .geq=>some (.bool (decide (a>=b)))
 |_=>none
def AJm(d:Option DB)(x y:PV):Option Bool:=match d,x,y with
 |some (.int _),.int k a,.int k' b=>if k=k' then some (a==b)else none
 |some .bool,.bool a,.bool b=>some (a==b)
 |some .string,.HK a,.HK b=>some (a.toList==b.toList)
 |_,_,_=>none
def Vb(xs ys:List PV):List FY->Option Bool
 |[]=>some true
 |f::fs=>if f.name= "_"then none else match P6 P f.type with
  |some false=>match xs[f.offset]? with
   |some x=>match ys[f.offset]? with
    |some y=>match AJm (P.underlying f.type) x y with
     |some b=>match Vb xs ys fs with
      |some r=>some (b&&r)
      |none=>none
     |none=>none
    |none=>none
   |none=>none
  |_=>none
def AUf(x y:PV):Option Bool:=match x,y with
 | .G5 _ _,.RC=>some false
 | .M8 _ _,.RC=>some false
 | .RC,.RC=>some true
 |_,_=>none
def eqP(t:Bm)(x y:PV):Option Bool:=match P.underlying t with
 |some (.pointer _)=>AUf x y
 |some (.struct fs)=>match x,y with
  | .agg xs,.agg ys=>bif P.stoodInHeld t||P.eqGuardType P.depth t then none else Vb P xs ys fs.toList
  |_,_=>none
 |d=>AJm d x y
def AU8(op:EP)(s t:BA):Option PV:=match op with
 | .eql=>some (.bool (s.toList==t.toList))
 | .neq=>some (.bool (!(s.toList==t.toList)))
 |_=>none
def al(op:EP)(t:Bm)(x y:PV):Option PV:=
 match x,y with
 | .int k a,.int k' b=>if k=k' then AGR op k a b else none
 | .HK a,.HK b=>AU8 op a b
 |x,y=>match op with
  | .eql=>match eqP P t x y with
   |some b=>some (.bool b)
   |none=>none
  | .neq=>match eqP P t x y with
   |some b=>some (.bool !b)
   |none=>none
  |_=>none
def unP(op:UnOp)(x:PV):Option PV:=match op,x with
 | .not,.bool b=>some (.bool !b)
 | .neg,.int k n=>some (.int k (k.wrap (0-n)))
 |_,_=>none
def lX(src dst:Bm)(x:PV):Option PV:=
 match P.underlying src with
 |some _=>match P.underlying dst with
  |some (.int k)=>match x with
   | .int _ n=>some (.int k (k.wrap n))
   |_=>none
  |_=>none
 |none=>none
def Nr:PV->Option KD
 | .int .i64 n=>some (.i n)
 | .HK s=>some (.s s)
 |_=>none
def iP(t:Bm)(k:KD):Bool:=match P.underlying t with
 |some (.map kt e)=>(match P.underlying kt,k with
  |some (.int .i64),.i _=>true
  |some .string,.s _=>true
  |_,_=>false)&&(match Xf P e with
  |some (.int .i64 0)=>true
  |_=>false)
 |_=>false
def IP(t:Bm)(m k:PV)(ok:Bool):Option KC:=match Nr k with
 |some k=>bif iP P t k then(match m with
  | .map b=>some (.jd b λl=>bif l.all (λp=>k.QV p.1)then(match Ko k l with
   |some v=>some (bif ok then .tuple [.int .i64 v,.bool true]else .int .i64 v)
   |none=>some (bif ok then .tuple [.int .i64 0,.bool false]else .int .i64 0))else none)
  |_=>none)else none
 |none=>none
def IU(t:Bm)(m k x:PV):Option KC:=match Nr k with
 |some k=>bif iP P t k then(match m,x with
  | .map b,.int .i64 v=>some (.n8 b λl=>bif l.all (λp=>k.QV p.1)then some (Qz k v l)else none)
  |_,_=>none)else none
 |none=>none
def IZ(t:Bm)(m k:PV):Option KC:=match Nr k with
 |some k=>bif iP P t k then(match m with
  | .map b=>some (.n8 b λl=>bif l.all (λp=>k.QV p.1)then some (iR k l)else none)
  |_=>none)else none
 |none=>none
def AKr(x y:PV):Option PV:=match x,y with
 | .int k a,.int k' b=>if k=k' then some (.int k (if b<a then b else a))else none
 |_,_=>none
def kB(t:Bm):Option Bool:=match P.underlying t with
 |some (.interface _)=>some true
 |some _=>some false
 |none=>none
def nJ(t:Bm)(x:PV):Option PV:=match kB P t with
 |some false=>bif x.Iu then some (.iface t x)else none
 |_=>none
def q7(MA:Bm)(x:PV):Option PV:=match kB P MA with
 |some false=>match x with
  | .iface t v=>if t=MA then some v else none
  |_=>none
 |_=>none
def QQ:List (Nat×Cb)->List PV->List (Nat×PV)
 |(i,_)::r,v::l=>(i,v)::QQ r l
 |_,_=>[]
def opQ(md:Bool)(op:Op)(vs:List PV):Option KC:=
 match op with
 | .move _=>(match vs with|[x]=>some (.val x)|_=>none)
 | .assign _=>(match vs with
  |[.nil]=>some (.Hm 0 0 λb=> .H6 b [])
  |[x]=>some (.val x)
  |_=>none)
 | .pick _ _ _=>(match vs with
  |[.bool c,a,b]=>some (.val (bif c then a else b))
  |_=>none)
 | .alloc e=>(match Xf P e with
  |some z=>some (.box z.cells λb=> .G5 b 0)
  |none=>none)
 | .box _ _=>(match vs with
  |[x]=>bif x.cells.all PV.Iu then some (.box x.cells λb=> .G5 b 0)else none
  |_=>none)
 | .build t Iv=>bif vs.all PV.w9 then(match yE P t (QQ Iv.toList vs)with
  |some v=>some (.val v)
  |none=>none)else none
 | .buildSlice t len Iv=>bif AE0 P md t&&(Bo len 0&&Bo Iv.size 0)then Xx P t else(match Xz P (AE0 P md t) t len (QQ Iv.toList vs)with
  |some v=>some (.val v)
  |none=>none)
 | .makeSlice t _ _=>(match vs with|[l,c]=>cu P t l c|_=>none)
 | .makeInterface t _=>(match vs with
  |[x]=>(match nJ P t x with
   |some v=>some (.val v)
   |none=>none)
  |_=>none)
 | .typeAssert _ _ MA ok=>(match ok,vs with
  |false,[x]=>(match q7 P MA x with
   |some v=>some (.val v)
   |none=>none)
  |_,_=>none)
 | .makeFunc fn first _=>(match fn with
  | .func f=>bif Bo first.size 0 then some (.val (.fn f vs))else none
  |_=>none)
 | .makeMap _ none=>some (.map [] λb=> .map b)
 | .lookup t _ _ ok=>(match vs with|[m,k]=>IP P t m k ok|_=>none)
 | .mapUpdate t _ _ _=>(match vs with|[m,k,x]=>IU P t m k x|_=>none)
 | .load t _=>(match vs with|[a]=>m8 P t a|_=>none)
 | .store t _ _=>(match vs with|[a,x]=>AAU P t x a|_=>none)
 | .nilCheck _=>(match vs with
  |[.G5 b o]=>some (.val (.G5 b o))
  |[.M8 r o]=>some (.val (.M8 r o))
  |_=>none)
 | .binOp op t _ _ _=>(match vs with
  |[x,y]=>(match al P op t x y with
   |some v=>some (.val v)
   |none=>none)
  |_=>none)
 | .unOp op _ _=>(match vs with
  |[x]=>(match unP op x with
   |some v=>some (.val v)
   |none=>none)
  |_=>none)
 | .convert src dst _=>(match vs with
  |[x]=>(match lX P src dst x with
   |some v=>some (.val v)
   |none=>none)
  |_=>none)
 | .slice t _ lo hi none=>(match vs with
  |x::r=>(match Ze lo r with
   |some (lo',r)=>match Ze hi r with
    |some (VI,_)=>(match AAN P t x lo' VI with
     |some v=>some (.val v)
     |none=>none)
    |none=>none
   |none=>none)
  |[]=>none)
 | .fieldAddr s _ f=>(match vs with
  |[x]=>(match cM P s f x with
   |some v=>some (.val v)
   |none=>none)
  |_=>none)
 | .field s _ f=>(match vs with
  |[x]=>(match yb P s f x with
   |some v=>some (.val v)
   |none=>none)
  |_=>none)
 | .indexAddr t _ _=>(match vs with
  |[x,i]=>(match cg P t x i with
   |some v=>some (.val v)
   |none=>none)
  |_=>none)
 | .index t _ _=>(match vs with
  |[x,i]=>(match zM P t x i with
   |some v=>some (.val v)
   |none=>none)
  |_=>none)
 | .extract _ ix=>(match vs with
  |[.tuple l]=>(match l[ix]? with
   |some v=>some (.val v)
   |none=>none)
  |_=>none)
 | .call ⟨.builtin .len,_,argTypes⟩=>(match argTypes.toList,vs with
  |[t],[x]=>(match AP0 P t x with
   |some v=>some (.val v)
   |none=>none)
  |_,_=>none)
 | .call ⟨.builtin .append,_,argTypes⟩=>(match argTypes.toList,vs with
  |[t,t'],[s,x]=>(match P.underlying t' with
   |some (.slice _)=>qv P md t s x
   |_=>none)
  |_,_=>none)
 | .call ⟨.builtin .min,_,_⟩=>(match vs with
  |[x,y]=>(match AKr x y with
   |some v=>some (.val v)
   |none=>none)
  |_=>none)
 | .call ⟨.builtin .delete,_,argTypes⟩=>(match argTypes.toList,vs with
  |[t,_],[m,k]=>IZ P t m k
  |_,_=>none)
 |_=>none
end
end
section
def gW:EN->Bool
 | .cells .. =>true
 |_=>false
structure J where
 box:Nat->Option Nat
 Hm:Nat->Option (Nat×Nat×Nat×Nat)
 K:Nat->Option (List Bc)
 ia:Nat->Nat×Nat:=λ_=>(0,0)
 Lj:Nat->Option EN:=λ_=>none
abbrev KK:=Nat->Option (LV)
mutual
inductive DR (K:KK):PV->Bc->Prop
 |int (k:IntKind) (n:Int):DR K (.int k n) (.int k n)
 |bool (b:Bool):DR K (.bool b) (.bool b)
 |HK (s:ByteArray):DR K (.HK s) (.string s)
 |nil:DR K .nil (.slice Option.none 0 0)
 |none (a:Option EW) (c:Nat):(a=Option.none->c=0)->DR K (.HC []) (.slice a 0 c)
 |HC (G1:List (List PV)) (B o c sz:Nat) (ks:List Bc):K B=some ks->0<G1.length->G1.length<=c->o+G1.length*sz<=ks.length->(∀(i:Nat) (Gy:List PV),G1[i]?=some Gy->Gy.length=sz)->
  (∀(i:Nat) (Gy:List PV),G1[i]?=some Gy->Sv K Gy ((ks.drop (o+i*sz)).take sz))->DR K (.HC G1) (.slice (some ⟨B,o,none⟩) G1.length c)
inductive Sv (K:KK):List PV->List Bc->Prop
 |nil:Sv K [] []
 |cons (a:PV) (v:Bc) (l:List PV) (l':List Bc):DR K a v->Sv K l l'->Sv K (a::l) (v::l')
end
mutual
inductive VR (m:J):PV->Bc->Prop
 |UO (v:Bc):VR m .UO v
 |data (a:PV) (v:Bc):DR m.K a v->VR m a v
 |nil:VR m .nil (.slice none 0 0)
 |ai (b:Nat):VR m (.H6 b []) (.slice none 0 0)
 |H6 (b:Nat) (G1:List (List PV)) (B0 c B n e t:Nat):m.Hm b=some (B,n,e,t)->0<G1.length->G1.length<=n->(n=G1.length->B=B0/\c*e<=t)->
  DR m.K (.HC G1) (.slice (some ⟨B0,0,none⟩) G1.length c)->VR m (.H6 b G1) (.slice (some ⟨B0,0,none⟩) G1.length c)
 |LQ (b n B c:Nat):m.box b=some B->n<=c->c*(m.ia b).1<=(m.ia b).2->VR m (.LQ b n) (.slice (some ⟨B,0,none⟩) n c)
 |G5 (b o B:Nat):m.box b=some B->VR m (.G5 b o) (.pointer (some ⟨B,o,none⟩))
 |M8 (Gy:List PV) (o B Iw:Nat) (ks:List Bc):m.K B=some ks->Iw+Gy.length<=ks.length->Sv m.K Gy ((ks.drop Iw).take Gy.length)->VR m (.M8 Gy o) (.pointer (some ⟨B,Iw+o,none⟩))
 |agg (l:List PV) (l':List Bc):JT m l l'->VR m (.agg l) (.agg l'.toArray)
 |tuple (l:List PV) (l':List Bc):JT m l l'->VR m (.tuple l) (.tuple l'.toArray)
 |RC:VR m .RC (.pointer none)
 |map (b B:Nat):m.box b=some B->VR m (.map b) (.map (some B))
 |je:VR m .je (.map none)
 |fn (f:CE) (Xh:List PV) (ALz:List Bc):JT m Xh ALz->VR m (.fn f Xh) (.func (.func f) #[] ALz.toArray)
 |nfn:VR m .nfn .nilFunc
 |yield (L:Nat):VR m (.yield L) (.func (.yield L) #[] #[])
 |iface (t:Bm) (a:PV) (v:Bc):VR m a v->VR m (.iface t a) (.iface t v)
 |VE:VR m .VE .nilIface
inductive JT (m:J):List PV->List Bc->Prop
 |nil:JT m [] []
 |cons (a:PV) (v:Bc) (l:List PV) (l':List Bc):VR m a v->JT m l l'->JT m (a::l) (v::l')
end
def bB(K K':KK):Prop:=∀B ks,K B=some ks->∃XE,K' B=some XE/\ks<+:XE
def bB.refl(K:KK):bB K K:=λ_ ks h=>⟨ks,h,C4 _⟩
def bB.trans{K K' K'':KK}(h:bB K K')(h':bB K' K''):bB K K'':=λB ks e=>by
 obtain⟨k1,e1,p1⟩:=h B ks e;obtain⟨k2,e2,p2⟩:=h' B k1 e1;exact⟨k2,e2,p1.trans p2⟩
def Wm{ks XE:LV}(h:ks<+:XE){a n:Nat}(hl:a+n<=ks.length):(XE.drop a).take n=(ks.drop a).take n:=by obtain⟨r,rfl⟩:=h;rw[Gg,DI AB]
def ng{n i sz o L:Nat}(hi:i<n)(h:o+n*sz<=L):o+i*sz+sz<=L:=by have:(i+1)*sz<=n*sz:=Cf _ hi;rw[CW,Eu]at this;omega
mutual
def DR.mono {K K':KK} (h:bB K K') {a:PV} {v:Bc}:DR K a v->DR K' a v
 | .int k n=> .int k n
 | .bool b=> .bool b
 | .HK s=> .HK s
 | .nil=> .nil
 | .none a c h0=> .none a c h0
 | .HC G1 B o c sz ks hk h0 hc hl hr hd=>by
  obtain⟨XE,Ta,hp⟩:=h B ks hk;refine .HC G1 B o c sz XE Ta h0 hc (CD hl hp.length_le) hr λi Gy hi=>?_;rw[Wm hp (ng (Bn.1 hi).1 hl)];exact Sv.mono h (hd i Gy hi)
def Sv.mono {K K':KK} (h:bB K K') {l:List PV} {l':List Bc}:Sv K l l'->Sv K' l l'
 | .nil=> .nil
 | .cons a v l l' h1 h2=> .cons a v l l' (DR.mono h h1) (Sv.mono h h2)
end
structure J.le (m m':J):Prop where
 box:∀b B,m.box b=some B->m'.box b=some B
 K:bB m.K m'.K
 Hm:∀b B n e t,m.Hm b=some (B,n,e,t)->∃B' n' t',m'.Hm b=some (B',n',e,t')/\n<=n'/\(n'=n->B'=B/\t'=t)
 ia:∀b B,m.box b=some B->m'.ia b=m.ia b
def J.le.refl(m:J):m.le m:=⟨λ_ _ h=>h,bB.refl _,λb B n e t h=>⟨B,n,t,h,Bd _,λ_=>⟨rfl,rfl⟩⟩,λ_ _ _=>rfl⟩
def J.le.trans{m m' m'':J}(h:m.le m')(h':m'.le m''):m.le m'':=
 ⟨λb B e=>h'.box b B (h.box b B e),h.K.trans h'.K,λb B n e t hb=>by
  obtain⟨B1,n1,t1,e1,l1,c1⟩:=h.Hm b B n e t hb;obtain⟨B2,n2,t2,e2,l2,c2⟩:=h'.Hm b B1 n1 e t1 e1;refine⟨B2,n2,t2,e2,CD l1 l2,λhn=>?_⟩;have h1:n1=n:=AA;obtain⟨d1,d2⟩:=c1 h1;obtain⟨d3,d4⟩:=c2 AA;exact⟨d3.trans d1,d4.trans d2⟩,λb B hb=>(h'.ia b B (h.box b B hb)).trans (h.ia b B hb)⟩
mutual
def VR.mono {m m':J} (h:m.le m') {a:PV} {v:Bc}:VR m a v->VR m' a v
 | .UO v=> .UO v
 | .data a v hd=> .data a v (hd.mono h.K)
 | .nil=> .nil
 | .ai b=> .ai b
 | .H6 b G1 B0 c B n e t ho h0 hn ht hd=>by
  obtain⟨B',n',t',e',hl,hc⟩:=h.Hm b B n e t ho;refine .H6 b G1 B0 c B' n' e t' e' h0 (CD hn hl) (λhh=>?_) (hd.mono h.K);have jK:n'=n:=AA;obtain⟨c1,c2⟩:=hc jK;obtain⟨d1,d2⟩:=ht AA;rw[c1,c2];exact⟨d1,d2⟩
 | .LQ b n B c hb hc hs=> .LQ b n B c (h.box b B hb) hc (by rw[h.ia b B hb];exact hs)
 | .G5 b o B hb=> .G5 b o B (h.box b B hb)
 | .M8 Gy o B Iw ks hk hl hd=>by
  obtain⟨XE,Ta,hp⟩:=h.K B ks hk;refine .M8 Gy o B Iw XE Ta (CD hl hp.length_le) ?_;rw[Wm hp hl];exact hd.mono h.K
 | .agg l l' hl=> .agg l l' (JT.mono h hl)
 | .tuple l l' hl=> .tuple l l' (JT.mono h hl)
 | .RC=> .RC
 | .map b B hb=> .map b B (h.box b B hb)
 | .je=> .je
 | .fn f l l' hl=> .fn f l l' (JT.mono h hl)
 | .nfn=> .nfn
 | .yield L=> .yield L
 | .iface t a v hv=> .iface t a v (VR.mono h hv)
 | .VE=> .VE
def JT.mono {m m':J} (h:m.le m') {l:List PV} {l':List Bc}:JT m l l'->JT m' l l'
 | .nil=> .nil
 | .cons a v l l' h1 h2=> .cons a v l l' (VR.mono h h1) (JT.mono h h2)
end
section
variable{K:KK} {m:J}
def Sv.length{l:List PV}{l':LV}(h:Sv K l l'):l.length=l'.length:=by
 induction l generalizing l' with
 |nil=>cases h;rfl
 |cons a l ih=>cases h with|cons _ v _ l' h1 h2=>simp[ih h2]
def JT.length{l:List PV}{l':LV}(h:JT m l l'):l.length=l'.length:=by
 induction l generalizing l' with
 |nil=>cases h;rfl
 |cons a l ih=>cases h with|cons _ v _ l' h1 h2=>simp[ih h2]
def Sv.vrs{l:List PV}{l':LV}(h:Sv m.K l l'):JT m l l':=by
 induction l generalizing l' with
 |nil=>cases h;exact .nil
 |cons a l ih=>cases h with|cons _ v _ l' h1 h2=>exact .cons _ _ _ _ (.data _ _ h1) (ih h2)
def JT.append{l:List PV}{l':LV}{k:List PV}{k':LV}(h:JT m l l')(hk:JT m k k'):JT m (l++k) (l'++k'):=by
 induction l generalizing l' with
 |nil=>cases h;exact hk
 |cons a l ih=>cases h with|cons _ v _ l' h1 h2=>exact .cons _ _ _ _ h1 (ih h2)
def Sv.append{l:List PV}{l':LV}{k:List PV}{k':LV}(h:Sv K l l')(hk:Sv K k k'):Sv K (l++k) (l'++k'):=by
 induction l generalizing l' with
 |nil=>cases h;exact hk
 |cons a l ih=>cases h with|cons _ v _ l' h1 h2=>exact .cons _ _ _ _ h1 (ih h2)
def JT.take{l:List PV}{l':LV}(h:JT m l l')(n:Nat):JT m (l.take n) (l'.take n):=by
 induction l generalizing l' n with
 |nil=>cases h;simp;exact .nil
 |cons a l ih=>
  cases h with
  |cons _ v _ l' h1 h2=>
   cases n with
   |zero=>exact .nil
   |succ n=>exact .cons _ _ _ _ h1 (ih h2 n)
def JT.drop{l:List PV}{l':LV}(h:JT m l l')(n:Nat):JT m (l.drop n) (l'.drop n):=by
 induction l generalizing l' n with
 |nil=>cases h;simp;exact .nil
 |cons a l ih=>
  cases h with
  |cons _ v _ l' h1 h2=>
   cases n with
   |zero=>exact .cons _ _ _ _ h1 h2
   |succ n=>exact ih h2 n
def JT.get{l:List PV}{l':LV}(h:JT m l l'){i:Nat}{a:PV}(ha:l[i]?=some a):∃v,l'[i]?=some v/\VR m a v:=by
 induction l generalizing l' i with
 |nil=>simp at ha
 |cons x l ih=>
  cases h with
  |cons _ v _ l' h1 h2=>
   cases i with
   |zero=>simp at ha;subst ha;exact⟨v,rfl,h1⟩
   |succ i=>simp at ha;simpa using ih h2 ha
def JT.one{a:PV}{v:Bc}(h:VR m a v):JT m [a] [v]:=.cons _ _ _ _ h .nil
def VR.cells{a:PV}{v:Bc}(h:VR m a v)(hg:a≠ .UO):JT m a.cells v.cells.toList:=by
 cases h with
 |UO=>exact Zq rfl hg
 |agg l l' h=>exact h
 |data _ _ h=>cases h<;>exact .one (.data _ _ (by constructor<;>assumption))
 |nil=>exact .one .nil
 |ai=>exact .one (.ai _)
 |H6=>exact .one (.H6 _ _ _ _ _ _ _ _ ‹_› ‹_› ‹_› ‹_› ‹_›)
 |LQ=>exact .one (.LQ _ _ _ _ ‹_› ‹_› ‹_›)
 |G5=>exact .one (.G5 _ _ _ ‹_›)
 |M8=>exact .one (.M8 _ _ _ _ _ ‹_› ‹_› ‹_›)
 |tuple=>exact .one (.tuple _ _ ‹_›)
 |RC=>exact .one .RC
 |map=>exact .one (.map _ _ ‹_›)
 |je=>exact .one .je
 |fn=>exact .one (.fn _ _ _ ‹_›)
 |nfn=>exact .one .nfn
 |yield=>exact .one (.yield _)
 |iface=>exact .one (.iface _ _ _ ‹_›)
 |VE=>exact .one .VE
def VR.one{a:PV}{v:Bc}(h:VR m a v)(ha:a.Iu=true):v.oneCell'=true:=by
 cases h with
 |UO=>simp[PV.Iu]at ha
 |agg=>simp[PV.Iu]at ha
 |tuple=>simp[PV.Iu]at ha
 |data _ _ h=>cases h<;>rfl
 |_=>rfl
def Tk{l:List PV}{l':LV}(h:JT m l l')(ha:l.all PV.Iu=true):∀v∈l',v.oneCell'=true:=by
 induction l generalizing l' with
 |nil=>cases h;simp
 |cons a l ih=>
  cases h with
  |cons _ v _ l' h1 h2=>
   simp only[Cl,Bk]at ha;intro x hx;rcases Bz.1 hx with rfl|hx
   .exact h1.one ha.1
   .exact ih h2 ha.2 x hx
def DR.one{a:PV}{v:Bc}(h:DR K a v):v.oneCell'=true:=by cases h<;>rfl
def Sv.one{l:List PV}{l':LV}(h:Sv K l l'):∀v∈l',v.oneCell'=true:=by
 induction l generalizing l' with
 |nil=>cases h;simp
 |cons a l ih=>
  cases h with
  |cons _ v _ l' h1 h2=>
   intro x hx;rcases Bz.1 hx with rfl|hx
   .exact h1.one
   .exact ih h2 x hx
def VR.G1{a:PV}{G1:List (List PV)}{v:Bc}(h:VR m a v)(hr:a.G1=some G1):DR m.K (.HC G1) v:=by
 cases h with
 |nil=>simp[PV.G1]at hr;subst hr;exact .none none 0 (λ_=>rfl)
 |ai=>simp[PV.G1]at hr;subst hr;exact .none none 0 (λ_=>rfl)
 |H6 _ _ _ _ _ _ _ _ _ _ _ _ hd=>simp[PV.G1]at hr;subst hr;exact hd
 |data _ _ hd=>cases hd<;>simp[PV.G1]at hr<;>subst hr<;>first|exact .none none 0 (λ_=>rfl)|(constructor<;>assumption)
 |_=>simp[PV.G1]at hr
def VR.UJ{a x:PV}{v:Bc}(h:VR m a v)(hr:a.data=some x):DR m.K x v:=by
 cases h with
 |nil=>simp[PV.data]at hr;subst hr;exact .none none 0 (λ_=>rfl)
 |ai=>simp[PV.data]at hr;subst hr;exact .none none 0 (λ_=>rfl)
 |H6 _ _ _ _ _ _ _ _ _ _ _ _ hd=>simp[PV.data]at hr;subst hr;exact hd
 |data _ _ hd=>cases hd<;>simp[PV.data]at hr<;>subst hr<;>first|exact .none none 0 (λ_=>rfl)|(constructor<;>assumption)
 |_=>simp[PV.data]at hr
def JT.UJ{l k:List PV}{l':LV}(h:JT m l l')(hk:KR l=some k):Sv m.K k l':=by
 induction l generalizing k l' with
 |nil=>simp[KR]at hk;subst hk;cases h;exact .nil
 |cons a l ih=>
  cases h with
  |cons _ v _ l' h1 h2=>
   simp only[KR]at hk;cases hd:a.data with
   |none=>simp[hd]at hk
   |some x=>
    cases hl:KR l with
    |none=>simp[hd,hl]at hk
    |some k'=>simp[hd,hl]at hk;subst hk;exact .cons _ _ _ _ (h1.UJ hd) (ih h2 hl)
end
def fq:ML->List DT->Prop
 |[],[]=>True
 |(k,v)::l,e::es=>e.key=k.val/\e.val=.int .i64 v/\fq l es
 |_,_=>False
def J.iI(m:J)(B:Nat):Prop:=(∃b,m.box b=some B)\/∃b n e t,m.Hm b=some (B,n,e,t)
def ag(m:J)(w:World)(b:Nat):Obj->Prop
 | .box cs=>∃B vs ty,m.box b=some B/\w.heap[B]?=some (.cells vs ty (0,0))/\JT m cs vs.toList
 | .LM e cs=>∃B vs ty,m.box b=some B/\m.ia b=(e,vs.size)/\w.heap[B]?=some (.cells vs ty (0,0))/\JT m cs (vs.toList.take cs.length)
 | .map l=>∃B Jf HH,m.box b=some B/\w.heap[B]?=some (.map Jf HH)/\fq l Jf.toList
 |_=>True
def ag.Ir{m m':J}{w w':World}{b:Nat}{o:Obj}(h:ag m w b o)(le:m.le m')(hs:o.ZF=false->∀B,m.box b=some B->w'.heap[B]?=w.heap[B]?):ag m' w' b o:=by
 cases o with
 |box cs=>
  obtain⟨B,vs,ty,h1,h2,h3⟩:=h;exact⟨B,vs,ty,le.box b B h1,(hs rfl B h1).trans h2,h3.mono le⟩
 |LM e cs=>
  obtain⟨B,vs,ty,h1,h0,h2,h3⟩:=h;exact⟨B,vs,ty,le.box b B h1,(le.ia b B h1).trans h0,(hs rfl B h1).trans h2,h3.mono le⟩
 |map l=>
  obtain⟨B,es,c,h1,h2,h3⟩:=h;exact⟨B,es,c,le.box b B h1,(hs rfl B h1).trans h2,h3⟩
 |Hm _ _=>trivial
 |NY=>trivial
structure IQ (m:J) (h:Nat->Option Obj) (w:World):Prop where
 PX:∀b o,h b=some o->ag m w b o
 Lj:∀B o,m.Lj B=some o->w.heap[B]?=some o/\gW o=false/\(∀l c,o≠ .map l c)
 Hm:∀b n e,h b=some (.Hm n e)->(n=0/\m.Hm b=none)\/(0<n/\∃B t,m.Hm b=some (B,n,e,t)/\∃ks,m.K B=some ks/\ks.length=n*e/\∃vs ty,w.heap[B]?=some (.cells vs ty (0,0))/\vs.size=t)
 an:∀B ks,m.K B=some ks->∃vs ty,w.heap[B]?=some (.cells vs ty (0,0))/\ks<+:vs.toList
 Se:∀b B,m.box b=some B->∃o,h b=some o/\o.vz=false
 TR:∀b x,m.Hm b=some x->∃n e,h b=some (.Hm n e)
 M3:∀b b' B,m.box b=some B->m.box b'=some B->h b≠some .NY->h b'≠some .NY->b=b'
 Nz:∀b b' B n e t n' e' t',m.Hm b=some (B,n,e,t)->m.Hm b'=some (B,n',e',t')->b=b'
 bK:∀b B,m.box b=some B->h b≠some .NY->m.K B=none
 blt:∀b B,m.box b=some B->B<w.heap.size
structure Jt (m:J) (w:World) (m':J) (w':World):Prop where
 le:m.le m'
 size:w.heap.size<=w'.heap.size
 kW:∀b B,m'.box b=some B->(∃b,m.box b=some B)\/w.heap.size<=B
 dA:∀b B n e t,m'.Hm b=some (B,n,e,t)->(∃b n e t,m.Hm b=some (B,n,e,t))\/w.heap.size<=B
 iM:∀B ks,m'.K B=some ks->(∃b n e t,m.Hm b=some (B,n,e,t))\/m.K B=some ks\/w.heap.size<=B
 Kv:∀B,B<w.heap.size->¬m.iI B->w'.heap[B]?=w.heap[B]?
 os:w'.os=w.os
 output:w'.output=w.output
 M4:∀a:EW,a.block<w.heap.size->w'.frozen? a=w.frozen? a
 Lj:m'.Lj=m.Lj
def Jt.refl(m:J)(w:World):Jt m w m w:=⟨J.le.refl m,Bd _,λb _ h=> .inl ⟨b,h⟩,λb B n e t h=> .inl ⟨b,n,e,t,h⟩,λ_ _ h=> .inr (.inl h),λ_ _ _=>rfl,rfl,rfl,λ_ _=>rfl,rfl⟩
def Jt.iI{m m':J}{w w':World}(h:Jt m w m' w'){B:Nat}(hb:m'.iI B):m.iI B\/w.heap.size<=B:=by
 rcases hb with⟨b,hb⟩|⟨b,n,e,t,hb⟩
 .exact(h.kW b B hb).imp (λh=> .inl h) id
 .exact(h.dA b B n e t hb).imp (λh=> .inr h) id
def Jt.trans{m m' m'':J}{w w' w'':World}(h:Jt m w m' w')(h':Jt m' w' m'' w''):Jt m w m'' w'':=by
 refine⟨h.le.trans h'.le,CD h.size h'.size,λb B hb=>?_,λb B n e t hb=>?_,λB ks hk=>?_,λB hB hn=>?_,h'.os.trans h.os,h'.output.trans h.output,λa ha=>(h'.M4 a (Cw ha h.size)).trans (h.M4 a ha),h'.Lj.trans h.Lj⟩
 .rcases h'.kW b B hb with⟨b1,h1⟩|h1
  .exact h.kW b1 B h1
  .exact Akc
 .rcases h'.dA b B n e t hb with⟨b1,n1,e1,t1,h1⟩|h1
  .exact h.dA _ _ _ _ _ h1
  .exact Akc
 .rcases h'.iM B ks hk with⟨b1,n1,e1,t1,h1⟩|h1|h1
  .rcases h.dA _ _ _ _ _ h1 with h2|h2
   .exact .inl h2
   .exact .inr (.inr h2)
  .exact h.iM B ks h1
  .exact .inr (.inr (CD h.size h1))
 .rw[h'.Kv B (Cw hB h.size) ?_,h.Kv B hB hn];intro hi;rcases h.iI hi with h1|h1
  .exact hn h1
  .omega
def Jt.drew(m:J)(w:World):Jt m w m {w with drawn:=w.drawn+1}:=⟨J.le.refl m,Bd _,λb _ h=> .inl ⟨b,h⟩,λb B n e t h=> .inl ⟨b,n,e,t,h⟩,λ_ _ h=> .inr (.inl h),λ_ _ _=>rfl,rfl,rfl,λ_ _=>rfl,rfl⟩
def IQ.congr{m:J}{h h':Nat->Option Obj}{w:World}(hr:IQ m h w)(e:∀b,h' b=h b):IQ m h' w:=by have:h'=h:=funext e;rw[this];exact hr
def IQ.drew{m:J}{h:Nat->Option Obj}{w:World}(hr:IQ m h w):IQ m h {w with drawn:=w.drawn+1}:=⟨hr.PX,hr.Lj,hr.Hm,hr.an,hr.Se,hr.TR,hr.M3,hr.Nz,hr.bK,hr.blt⟩
section
variable{m:J} {h:Nat->Option Obj} {w:World}
def IQ.ZJ(hr:IQ m h w){b B:Nat}(hb:m.box b=some B):B<w.heap.size:=hr.blt b B hb
def IQ.box(hr:IQ m h w)(b:Nat)(cs:List PV)(hb:h b=some (.box cs)):∃B vs ty,m.box b=some B/\w.heap[B]?=some (.cells vs ty (0,0))/\JT m cs vs.toList:=hr.PX b _ hb
def IQ.LM(hr:IQ m h w)(b e:Nat)(cs:List PV)(hb:h b=some (.LM e cs)):∃B vs ty,m.box b=some B/\m.ia b=(e,vs.size)/\w.heap[B]?=some (.cells vs ty (0,0))/\JT m cs (vs.toList.take cs.length):=hr.PX b _ hb
def IQ.map(hr:IQ m h w)(b:Nat)(l:ML)(hb:h b=some (.map l)):∃B Jf HH,m.box b=some B/\w.heap[B]?=some (.map Jf HH)/\fq l Jf.toList:=hr.PX b _ hb
def Na{o:Obj}(h:o.ZF=false):some o≠some Obj.NY:=by intro e;cases e;cases h
def IQ.zY(hr:IQ m h w){B:Nat}{ks:LV}(hb:m.K B=some ks):B<w.heap.size:=by obtain⟨vs,ty,h2,_⟩:=hr.an B ks hb;exact(B4.1 h2).1
def IQ.XG(hr:IQ m h w){b B n e t:Nat}(hb:m.Hm b=some (B,n,e,t)):B<w.heap.size:=by
 obtain⟨n',e',ho⟩:=hr.TR b _ hb;rcases hr.Hm b n' e' ho with⟨_,h1⟩|⟨_,B',t',h1,ks,h2,_⟩
 .rw[hb]at h1;cases h1
 .rw[hb]at h1;cases h1;exact hr.zY h2
def IQ.AGj(hr:IQ m h w){B:Nat}(hb:m.iI B):B<w.heap.size:=by
 rcases hb with⟨b,hb⟩|⟨b,n,e,t,hb⟩
 .exact hr.ZJ hb
 .exact hr.XG hb
def IQ.T2(hr:IQ m h w){b:Nat}(hb:h b=none):m.box b=none:=by
 cases hm:m.box b with
 |none=>rfl
 |some B=>obtain⟨cs,hc,_⟩:=hr.Se b B hm;rw[hb]at hc;cases hc
def IQ.mA(hr:IQ m h w){b:Nat}(hb:h b=none):m.Hm b=none:=by
 cases hm:m.Hm b with
 |none=>rfl
 |some B=>obtain⟨n,e,hc⟩:=hr.TR b B hm;rw[hb]at hc;cases hc
def IQ.aC(hr:IQ m h w)(o:EN)(TL:∀a,(w.alloc o).frozen? a=w.frozen? a):Jt m w m (w.alloc o)/\IQ m h (w.alloc o):=by
 have NM:∀B,B<w.heap.size->(w.alloc o).heap[B]?=w.heap[B]?:=λB hB=>Go.heap_alloc_old w o B hB;refine⟨⟨J.le.refl m,AD,λb _ h=> .inl ⟨b,h⟩,λb B n e t h=> .inl ⟨b,n,e,t,h⟩,λ_ _ h=> .inr (.inl h),λB hB _=>NM B hB,rfl,rfl,λa _=>TL a,rfl⟩,⟨?_,?_,?_,?_,hr.Se,hr.TR,hr.M3,hr.Nz,hr.bK,λb B hb=>by have:=hr.blt b B hb;simp;omega⟩⟩
 .intro b o hb;exact(hr.PX b o hb).Ir (J.le.refl m) λ_ B hB=>NM B (hr.blt b B hB)
 .intro B o ho;obtain⟨h1,h2⟩:=hr.Lj B o ho;exact⟨(NM B (B4.1 h1).1).trans h1,h2⟩
 .intro b n e hb;rcases hr.Hm b n e hb with h1|⟨h0,B,t,h1,ks,h2,h3,vs,ty,h4,h5⟩
  .exact AiL
  .exact .inr ⟨h0,B,t,h1,ks,h2,h3,vs,ty,by rw[NM B (hr.XG h1)];exact h4,h5⟩
 .intro B ks hk;obtain⟨vs,ty,h2,h3⟩:=hr.an B ks hk;exact⟨vs,ty,by rw[NM B (hr.zY hk)];exact h2,h3⟩
def IQ.AYY(hr:IQ m h w)(vs:AV0)(ty:Bm)(ks:LV)(hp:ks<+:vs.toList):
  ∃m',Jt m w m' (w.alloc (.cells vs ty))/\IQ m' h (w.alloc (.cells vs ty))/\m'.K w.heap.size=some ks/\m'.box=m.box/\m'.Hm=m.Hm:=by
 have Sl:m.K w.heap.size=none:=by
  cases hk:m.K w.heap.size with
  |none=>rfl
  |some ks=>have:=hr.zY hk;omega
 obtain⟨e1,r1⟩:=hr.aC (.cells vs ty) (Go.Ab.KY w _ Adr);let m':J:={m with K:=λB=>if B=w.heap.size then some ks else m.K B}
 have hK:∀B k,m.K B=some k->m'.K B=some k:=λB k hk=>by
  show(if _ then _ else _)=_;rw[Ng (by have:=hr.zY hk;omega)];exact hk
 have hKK:bB m.K m'.K:=λB k hk=>⟨k,hK B k hk,C4 _⟩
 have hle:m.le m':=⟨λ_ _ h=>h,hKK,λb B n e t h=>⟨B,n,t,h,Bd _,λ_=>⟨rfl,rfl⟩⟩,λ_ _ _=>rfl⟩
 refine⟨m',⟨hle,e1.size,e1.kW,e1.dA,λB k hk=>?_,e1.Kv,e1.os,e1.output,e1.M4,e1.Lj⟩,⟨λb o hb=>(r1.PX b o hb).Ir hle λ_ _ _=>rfl,r1.Lj,λb n e hb=>?_,λB k hk=>?_,r1.Se,r1.TR,r1.M3,r1.Nz,λb B hb hd=>?_,r1.blt⟩,?_,rfl,rfl⟩
 .have Ta:(if B=w.heap.size then some ks else m.K B)=some k:=hk;by_cases c:B=w.heap.size
  .exact AkX
  .rw[Ng c]at Ta;exact .inr (.inl Ta)
 .rcases r1.Hm b n e hb with h1|⟨h0,B,t,h1,XE,h2,h3⟩
  .exact AiL
  .exact .inr ⟨h0,B,t,h1,XE,hK B XE h2,h3⟩
 .have Ta:(if B=w.heap.size then some ks else m.K B)=some k:=hk;by_cases c:B=w.heap.size
  .rw[Ps c]at Ta;cases Ta;subst c;exact⟨vs,ty,E2 w _,hp⟩
  .rw[Ng c]at Ta;exact r1.an B k Ta
 .show(if _ then _ else _)=_;rw[Ng (by have:=hr.ZJ hb;omega)];exact hr.bK b B hb hd
 .exact Ahj
def IQ.newObj(hr:IQ m h w){b:Nat}(hb:h b=none)(go:EN)(TL:∀a,(w.alloc go).frozen? a=w.frozen? a)(ob:Obj)(RT:ob.vz=false)(e t:Nat)
  (hob:∀m':J,m.le m'->m'.box b=some w.heap.size->m'.ia b=(e,t)->(w.alloc go).heap[w.heap.size]?=some go->ag m' (w.alloc go) b ob):
  ∃m',Jt m w m' (w.alloc go)/\IQ m' (λx=>bif Bo x b then some ob else h x) (w.alloc go)/\m'.box b=some w.heap.size/\m'.ia b=(e,t):=by
 obtain⟨e1,r1⟩:=hr.aC go TL;let m':J:={m with box:=λx=>if x=b then some w.heap.size else m.box x,ia:=λx=>if x=b then(e,t)else m.ia x}
 have ao:∀x B,m.box x=some B->m'.box x=some B:=λx B hx=>by
  exact AkJ
 have hle:m.le m':=⟨ao,bB.refl _,λb B n e t h=>⟨B,n,t,h,Bd _,λ_=>⟨rfl,rfl⟩⟩,λx B hx=>by
  show(if _ then _ else _)=_;rw[Ng AU]⟩
 have Mz:∀x B,m'.box x=some B->(x=b/\B=w.heap.size)\/(x≠b/\m.box x=some B):=by
  intro x B hx;have US:(if x=b then some w.heap.size else m.box x)=some B:=hx;exact AgF
 have MR:m'.box b=some w.heap.size:=by show(if _ then _ else _)=_;rw[Ps rfl]
 have MK:m'.ia b=(e,t):=by show(if _ then _ else _)=_;rw[Ps rfl]
 have hh:∀x,(bif Bo x b then some ob else h x)=if x=b then some ob else h x:=λx=>by
  exact Aij
 refine⟨m',⟨hle,e1.size,λx B hx=>?_,e1.dA,e1.iM,e1.Kv,e1.os,e1.output,e1.M4,e1.Lj⟩,IQ.congr (h:=λx=>if x=b then some ob else h x) ⟨λx o hx=>?_,r1.Lj,λx n e hx=>?_,λB k hk=>r1.an B k hk,λx B hx=>?_,λx y hx=>?_,λx x' B hx US d1 d2=>?_,hr.Nz,λx B hx hd=>?_,λx B hx=>?_⟩ hh,MR,MK⟩
 .rcases Mz x B hx with⟨_,h1⟩|⟨_,h1⟩
  .exact AiM
  .exact .inl ⟨x,h1⟩
 .by_cases c:x=b
  .rw[Ps c]at hx;cases hx;subst c;exact hob m' hle MR MK (E2 w _)
  .rw[Ng c]at hx;exact(r1.PX x o hx).Ir hle λ_ _ _=>rfl
 .by_cases c:x=b
  .exact Ajk
  .rw[Ng c]at hx;exact r1.Hm x n e hx
 .rcases Mz x B hx with⟨c,_⟩|⟨c,h1⟩
  .exact⟨ob,by simp only[Ps c],RT⟩
  .obtain⟨ds,hd⟩:=hr.Se x B h1;exact⟨ds,by simp only[Ng c];exact hd⟩
 .exact Ahp
 .rcases Mz x B hx with⟨c,e⟩|⟨c,h1⟩<;>rcases Mz x' B US with⟨c',e'⟩|⟨c',h2⟩
  .rw[c,c']
  .have:=hr.ZJ h2;omega
  .have:=hr.ZJ h1;omega
  .rw[Ng c]at d1;rw[Ng c']at d2;exact hr.M3 x x' B h1 h2 d1 d2
 .rcases Mz x B hx with⟨c,e⟩|⟨c,h1⟩
  .show m.K B=none;cases hk:m.K B with
   |none=>rfl
   |some ks=>have:=hr.zY hk;omega
  .rw[Ng c]at hd;exact hr.bK x B h1 hd
 .rcases Mz x B hx with⟨c,e⟩|⟨c,h1⟩
  .rw[e];simp
  .exact r1.blt x B h1
def IQ.AP6(hr:IQ m h w){b:Nat}(hb:h b=none){cs:List PV}(vs:AV0)(ty:Bm)(hc:JT m cs vs.toList):
  ∃m',Jt m w m' (w.alloc (.cells vs ty))/\IQ m' (λx=>bif Bo x b then some (.box cs)else h x) (w.alloc (.cells vs ty))/\m'.box b=some w.heap.size:=by
 obtain⟨m',h1,h2,h3,_⟩:=hr.newObj hb (.cells vs ty) (Go.Ab.KY w _ Adr) (.box cs) rfl 0 0 λm' hle MR _ hw=>⟨w.heap.size,vs,ty,MR,hw,hc.mono hle⟩
 exact⟨m',h1,h2,h3⟩
def IQ.tB(hr:IQ m h w){b:Nat}(hb:h b=none){e:Nat}{cs:List PV}(vs:AV0)(ty:Bm)(hc:JT m cs (vs.toList.take cs.length)):
  ∃m',Jt m w m' (w.alloc (.cells vs ty))/\IQ m' (λx=>bif Bo x b then some (.LM e cs)else h x) (w.alloc (.cells vs ty))/\m'.box b=some w.heap.size/\m'.ia b=(e,vs.size):=
 hr.newObj hb (.cells vs ty) (Go.Ab.KY w _ Adr) (.LM e cs) rfl e vs.size λm' hle MR MK hw=>⟨w.heap.size,vs,ty,MR,MK,hw,hc.mono hle⟩
def IQ.AP7(hr:IQ m h w){b:Nat}(hb:h b=none){l:ML}(Jf:Array DT)(HH:Nat)(hc:fq l Jf.toList):
  ∃m',Jt m w m' (w.alloc (.map Jf HH))/\IQ m' (λx=>bif Bo x b then some (.map l)else h x) (w.alloc (.map Jf HH))/\m'.box b=some w.heap.size:=by
 obtain⟨m',h1,h2,h3,_⟩:=hr.newObj hb (.map Jf HH) (Go.Ab.KY w _ (λc t fr e=>by cases e)) (.map l) rfl 0 0 λm' hle MR _ hw=>⟨w.heap.size,Jf,HH,MR,hw,hc⟩
 exact⟨m',h1,h2,h3⟩
end
end
section
section
variable{m:J} {h:Nat->Option Obj} {w:World}
def K7{α:Type}(x b:Nat)(p q:α):(bif Bo x b then p else q)=if x=b then p else q:=Aij
def IQ.tC(hr:IQ m h w){b:Nat}(hb:h b=none)(e:Nat):IQ m (λx=>bif Bo x b then some (.Hm 0 e)else h x) w:=by
 have MT:∀x B,m.box x=some B->x≠b:=by rintro x B hx rfl;rw[hr.T2 hb]at hx;cases hx
 refine IQ.congr (h:=λx=>if x=b then some (.Hm 0 e)else h x) ⟨λx o hx=>?_,hr.Lj,λx n e' hx=>?_,hr.an,λx B hx=>?_,λx y hx=>?_,λx x' B hx US d d'=>?_,hr.Nz,λx B hx d=>?_,hr.blt⟩ λx=>K7 ..
 .exact Aku
 .by_cases c:x=b
  .rw[Ps c]at hx;cases hx;subst c;exact .inl ⟨rfl,hr.mA hb⟩
  .rw[Ng c]at hx;exact hr.Hm x n e' hx
 .exact Ago
 .obtain⟨n,e',hc⟩:=hr.TR x y hx;refine⟨n,e',?_⟩;rw[Ng (by rintro rfl;rw[hb]at hc;cases hc)];exact hc
 .exact Agf
 .exact AkV
def IQ.ey(hr:IQ m h w){b n e0:Nat}(hb:h b=some (.Hm n e0)){w':World}{B' n' e t':Nat}{XE:LV}(he:n=0\/e0=e)(hn:n<n')
  (hB:w.heap.size<=B'\/∃ks,m.Hm b=some (B',n,e,t')/\m.K B'=some ks/\ks<+:XE){vs:AV0}{ty:Bm}(Qy:w'.heap[B']?=some (.cells vs ty (0,0)))(ht:vs.size=t')(hp:XE<+:vs.toList)(hl:XE.length=n'*e)
  (Km:∀B,B≠B'->B<w.heap.size->w'.heap[B]?=w.heap[B]?)(N1:w.heap.size<=w'.heap.size)(xX:w'.os=w.os)(fF:w'.output=w.output)(TL:∀a,w'.frozen? a=w.frozen? a):
  ∃m',Jt m w m' w'/\IQ m' (λx=>bif Bo x b then some (.Hm n' e)else h x) w'/\m'.Hm b=some (B',n',e,t')/\m'.K B'=some XE/\m'.box=m.box:=by
 let m':J:={m with Hm:=λx=>if x=b then some (B',n',e,t')else m.Hm x,K:=λB=>if B=B' then some XE else m.K B}
 have hK:bB m.K m'.K:=by
  intro B k hk;show∃ks'',(if B=B' then some XE else m.K B)=some ks''/\_;by_cases c:B=B'
  .rw[Ps c];refine⟨XE,rfl,?_⟩;rcases hB with hB|⟨ks,h1,h2,h3⟩
   .have:=hr.zY hk;omega
   .rw[c,h2]at hk;cases hk;exact h3
  .rw[Ng c];exact⟨k,hk,C4 _⟩
 have ATO:∀x,m.Hm b=some x->x.2.1=n/\x.2.2.1=e:=by
  intro x hx;rcases hr.Hm b n e0 hb with⟨_,h1⟩|⟨h0,B,t,h1,_⟩
  .rw[hx]at h1;cases h1
  .rw[hx]at h1;cases h1;exact⟨rfl,he.resolve_left AA⟩
 have hle:m.le m':=by
  refine⟨λ_ _ h=>h,hK,λx B k e1 t hx=>?_,λ_ _ _=>rfl⟩;by_cases c:x=b
  .subst c;obtain⟨h1,h2⟩:=ATO _ hx;simp only at h1 h2;subst h1 h2;exact⟨B',n',t',by show(if _ then _ else _)=_;rw[Ps rfl],AA,λh=>by omega⟩
  .exact⟨B,k,t,by show(if _ then _ else _)=_;rw[Ng c];exact hx,Bd _,λ_=>⟨rfl,rfl⟩⟩
 have ADA:∀B,B<w.heap.size->B=B'->∃t,m.Hm b=some (B,n,e,t):=by
  rintro B H5 rfl;rcases hB with hB|⟨ks,h1,_⟩
  .omega
  .exact⟨t',h1⟩
 have ao:∀x B,m.box x=some B->h x≠some .NY->B≠B':=by
  rintro x B hx hd rfl;obtain⟨t,h1⟩:=ADA B (hr.ZJ hx) rfl;rcases hr.Hm b n e0 hb with⟨_,h2⟩|⟨_,B2,t2,h2,ks,h3,_⟩
  .rw[h1]at h2;cases h2
  .rw[h1]at h2;cases h2;rw[hr.bK x _ hx hd]at h3;cases h3
 have MT:∀x B,m.box x=some B->x≠b:=by
  exact AiP
 have AO3:∀B o,m.Lj B=some o->B≠B':=by
  rintro B o ho rfl;obtain⟨h1,h2,_⟩:=hr.Lj B o ho;obtain⟨t,h3⟩:=ADA B (B4.1 h1).1 rfl;rcases hr.Hm b n e0 hb with⟨_,h4⟩|⟨_,B2,t2,h4,ks,h5,_,vs,ty,h6,_⟩
  .rw[h3]at h4;cases h4
  .rw[h3]at h4;cases h4;rw[h1]at h6;cases h6;cases h2
 have APW:∀x B k e1 t,x≠b->m.Hm x=some (B,k,e1,t)->B≠B':=by
  rintro x B k e1 t hxb hx rfl;obtain⟨t2,h1⟩:=ADA B (hr.XG hx) rfl;exact hxb (hr.Nz x b B k e1 t n e t2 hx h1)
 have sY:∀x y,m'.Hm x=some y->(x=b/\y=(B',n',e,t'))\/(x≠b/\m.Hm x=some y):=by
  intro x y hx;have US:(if x=b then some (B',n',e,t')else m.Hm x)=some y:=hx;exact AgF
 refine⟨m',⟨hle,N1,λx B hx=> .inl ⟨x,hx⟩,λx B k e1 t hx=>?_,λB k hk=>?_,λB H5 hn=>?_,xX,fF,λa _=>TL a,rfl⟩,IQ.congr (h:=λx=>if x=b then some (.Hm n' e)else h x) ⟨λx o hx=>?_,λB o ho=>?_,λx k e1 hx=>?_,λB k hk=>?_,λx B hx=>?_,λx y hx=>?_,λx x' B hx US d d'=>?_,λx x' B k e1 t k' e1' t1' hx US=>?_,λx B hx hd=>?_,λx B hx=>Cw (hr.blt x B hx) N1⟩ λx=>K7 ..,?_,?_,rfl⟩
 .rcases sY x _ hx with⟨_,h1⟩|⟨_,h1⟩
  .cases h1;rcases hB with hB|⟨ks,h2,_⟩
   .exact .inr hB
   .exact .inl ⟨b,_,_,_,h2⟩
  .exact .inl ⟨x,_,_,_,h1⟩
 .have Ta:(if B=B' then some XE else m.K B)=some k:=hk;by_cases c:B=B'
  .rcases hB with hB|⟨ks,h2,_⟩
   .exact AkX
   .exact .inl ⟨b,_,_,_,by rw[c];exact h2⟩
  .rw[Ng c]at Ta;exact .inr (.inl Ta)
 .refine Km B (λc=>hn (.inr ?_)) H5;obtain⟨t,h1⟩:=ADA B H5 c;exact⟨b,_,_,_,h1⟩
 .by_cases c:x=b
  .exact Ahi
  .rw[Ng c]at hx;exact(hr.PX x o hx).Ir hle λhd B hB=>Km B (ao x B hB (by rw[hx];exact Na hd)) (hr.ZJ hB)
 .obtain⟨h1,h2⟩:=hr.Lj B o ho;exact⟨(Km B (AO3 B o ho) (B4.1 h1).1).trans h1,h2⟩
 .by_cases c:x=b
  .rw[Ps c]at hx;cases hx;exact .inr ⟨AA,B',t',by show(if _ then _ else _)=_;rw[Ps c],XE,by show(if _ then _ else _)=_;rw[Ps rfl],hl,vs,ty,Qy,ht⟩
  .rw[Ng c]at hx;rcases hr.Hm x k e1 hx with⟨h1,h2⟩|⟨h0,B,t,h1,ks,h2,h3,qc,ik,h4,h5⟩
   .exact Ai8
   .have MT:=APW x B k e1 t c h1;exact .inr ⟨h0,B,t,by show(if _ then _ else _)=_;rw[Ng c];exact h1,ks,by show(if _ then _ else _)=_;rw[Ng MT];exact h2,h3,qc,ik,by rw[Km B MT (hr.XG h1)];exact h4,h5⟩
 .have Ta:(if B=B' then some XE else m.K B)=some k:=hk;by_cases c:B=B'
  .rw[Ps c]at Ta;cases Ta;subst c;exact⟨vs,ty,Qy,hp⟩
  .rw[Ng c]at Ta;obtain⟨qc,ik,h2,h3⟩:=hr.an B k Ta;exact⟨qc,ik,by rw[Km B c (hr.zY Ta)];exact h2,h3⟩
 .exact Ago
 .rcases sY x y hx with⟨c,_⟩|⟨c,h1⟩
  .exact⟨n',e,by rw[Ps c]⟩
  .exact AjF
 .exact Agf
 .rcases sY x _ hx with⟨c,h1⟩|⟨c,h1⟩<;>rcases sY x' _ US with⟨c',h2⟩|⟨c',h2⟩
  .rw[c,c']
  .cases h1;exact Zq rfl (APW x' _ _ _ _ c' h2)
  .cases h2;exact Zq rfl (APW x _ _ _ _ c h1)
  .exact hr.Nz x x' B _ _ _ _ _ _ h1 h2
 .show(if _ then _ else _)=_;rw[Ng (MT x B hx)]at hd;rw[Ng (ao x B hx hd)];exact hr.bK x B hx hd
 .exact Ahj
 .exact Ahj
def IQ.tj(hr:IQ m h w){b:Nat}{o0:Obj}(hb:h b=some o0)(pd:o0.ZF=false){B:Nat}(hB:m.box b=some B)(T6:∃o,w.heap[B]?=some o/\(gW o=true\/∃l c,o=.map l c)){w':World}{ob:Obj}(RT:ob.vz=false)
  (hob:ag m w' b ob)(Km:∀k,k≠B->w'.heap[k]?=w.heap[k]?)(N1:w'.heap.size=w.heap.size)(xX:w'.os=w.os)(fF:w'.output=w.output)(TL:∀a,w'.frozen? a=w.frozen? a):
  Jt m w m w'/\IQ m (λx=>bif Bo x b then some ob else h x) w':=by
 have Xq:h b≠some .NY:=by rw[hb];exact Na pd
 have hK:∀B' ks,m.K B'=some ks->B'≠B:=by
  rintro B' ks hk rfl;rw[hr.bK b _ hB Xq]at hk;cases hk
 have hO:∀x B' n e t,m.Hm x=some (B',n,e,t)->B'≠B:=by
  intro x B' n e t hx;obtain⟨n',e',ho⟩:=hr.TR x _ hx;rcases hr.Hm x n' e' ho with⟨_,h1⟩|⟨_,B2,t2,h1,ks,h2,_⟩
  .rw[hx]at h1;cases h1
  .rw[hx]at h1;cases h1;exact hK _ ks h2
 have hE:∀B' o,m.Lj B'=some o->B'≠B:=by
  rintro B' o ho rfl;obtain⟨h1,h2,h3⟩:=hr.Lj B' o ho;obtain⟨o',h4,h5⟩:=T6;rw[h1]at h4;cases h4;rcases h5 with h5|⟨l,c,h5⟩
  .rw[h2]at h5;cases h5
  .exact h3 l c h5
 refine⟨⟨J.le.refl m,by rw[N1];exact Bd _,λb _ h=> .inl ⟨b,h⟩,λb B n e t h=> .inl ⟨b,n,e,t,h⟩,λ_ _ h=> .inr (.inl h),λB' _ hn=>Km B' (λc=>hn (.inl ⟨b,by rw[c];exact hB⟩)),xX,fF,λa _=>TL a,rfl⟩,
  IQ.congr (h:=λx=>if x=b then some ob else h x) ⟨λx o hx=>?_,λB' o ho=>?_,λx n e hx=>?_,λB' ks hk=>?_,λx B' hx=>?_,λx y hx=>?_,λx x' B hx US d d'=>?_,hr.Nz,λx B' hx d=>?_,λx B hx=>by rw[N1];exact hr.blt x B hx⟩ λx=>K7 ..⟩
 .by_cases c:x=b
  .rw[Ps c]at hx;cases hx;subst c;exact hob
  .rw[Ng c]at hx;exact(hr.PX x o hx).Ir (J.le.refl m) λhd B' h1=>Km B' (λe=>c (hr.M3 x b B' h1 (by rw[e];exact hB) (by rw[hx];exact Na hd) Xq))
 .obtain⟨h1,h2⟩:=hr.Lj B' o ho;exact⟨(Km B' (hE B' o ho)).trans h1,h2⟩
 .by_cases c:x=b
  .exact Ajk
  .rw[Ng c]at hx;rcases hr.Hm x n e hx with h1|⟨h0,B',t,h1,ks,h2,h3,qc,ik,h4,h5⟩
   .exact AiL
   .exact .inr ⟨h0,B',t,h1,ks,h2,h3,qc,ik,by rw[Km B' (hO x B' n e t h1)];exact h4,h5⟩
 .obtain⟨qc,ik,h2,h3⟩:=hr.an B' ks hk;exact⟨qc,ik,by rw[Km B' (hK B' ks hk)];exact h2,h3⟩
 .by_cases c:x=b
  .exact⟨ob,by rw[Ps c],RT⟩
  .exact AjM
 .obtain⟨n,e,hd⟩:=hr.TR x y hx;refine⟨n,e,?_⟩
  rw[Ng (by
   rintro rfl;obtain⟨o,h1,h2⟩:=hr.Se x B hB;rw[hd]at h1;cases h1;cases h2)];exact hd
 .have key:∀x B,m.box x=some B->(if x=b then some ob else h x)≠some .NY->h x≠some .NY:=λx B hx d=>by
   by_cases c:x=b
   .rw[c];exact Xq
   .rwa [Ng c]at d
  exact hr.M3 x x' B hx US (key x B hx d) (key x' B US d')
 .by_cases c:x=b
  .subst c;exact hr.bK x B' hx Xq
  .rw[Ng c]at d;exact hr.bK x B' hx d
def IQ.ALg(hr:IQ m h w){b:Nat}{cs0:List PV}(hb:h b=some (.box cs0)){B:Nat}(hB:m.box b=some B){w':World}{cs:List PV}{vs:AV0}{ty:Bm}
  (Qy:w'.heap[B]?=some (.cells vs ty (0,0)))(hc:JT m cs vs.toList)(Km:∀k,k≠B->w'.heap[k]?=w.heap[k]?)(N1:w'.heap.size=w.heap.size)(xX:w'.os=w.os)(fF:w'.output=w.output)(TL:∀a,w'.frozen? a=w.frozen? a):
  Jt m w m w'/\IQ m (λx=>bif Bo x b then some (.box cs)else h x) w':=by
 obtain⟨B0,vs0,ty0,h1,h2,_⟩:=hr.box b cs0 hb;rw[hB]at h1;cases h1;exact hr.tj hb rfl hB ⟨_,h2,.inl rfl⟩ rfl ⟨B,vs,ty,hB,Qy,hc⟩ Km N1 xX fF TL
def IQ.ACL(hr:IQ m h w){b e:Nat}{cs0:List PV}(hb:h b=some (.LM e cs0)){B:Nat}(hB:m.box b=some B){w':World}{cs:List PV}{vs:AV0}{ty:Bm}(hs:m.ia b=(e,vs.size))
  (Qy:w'.heap[B]?=some (.cells vs ty (0,0)))(hc:JT m cs (vs.toList.take cs.length))(Km:∀k,k≠B->w'.heap[k]?=w.heap[k]?)(N1:w'.heap.size=w.heap.size)(xX:w'.os=w.os)(fF:w'.output=w.output)(TL:∀a,w'.frozen? a=w.frozen? a):
  Jt m w m w'/\IQ m (λx=>bif Bo x b then some (.LM e cs)else h x) w':=by
 obtain⟨B0,vs0,ty0,h1,_,h2,_⟩:=hr.LM b e cs0 hb;rw[hB]at h1;cases h1;exact hr.tj hb rfl hB ⟨_,h2,.inl rfl⟩ rfl ⟨B,vs,ty,hB,hs,Qy,hc⟩ Km N1 xX fF TL
def IQ.ACN(hr:IQ m h w){b:Nat}{l0:ML}(hb:h b=some (.map l0)){B:Nat}(hB:m.box b=some B){w':World}{l:ML}{Jf:Array DT}{HH:Nat}
  (Qy:w'.heap[B]?=some (.map Jf HH))(hc:fq l Jf.toList)(Km:∀k,k≠B->w'.heap[k]?=w.heap[k]?)(N1:w'.heap.size=w.heap.size)(xX:w'.os=w.os)(fF:w'.output=w.output)(TL:∀a,w'.frozen? a=w.frozen? a):
  Jt m w m w'/\IQ m (λx=>bif Bo x b then some (.map l)else h x) w':=by
 obtain⟨B0,es,c,h1,h2,_⟩:=hr.map b l0 hb;rw[hB]at h1;cases h1;exact hr.tj hb rfl hB ⟨_,h2,.inr ⟨_,_,rfl⟩⟩ rfl ⟨B,Jf,HH,hB,Qy,hc⟩ Km N1 xX fF TL
def IQ.AUY(hr:IQ m h w){b:Nat}{o:Obj}(hb:h b=some o)(ho:o.vz=false):IQ m (λx=>bif Bo x b then some .NY else h x) w:=by
 have key:∀x,(if x=b then some Obj.NY else h x)≠some .NY->x≠b/\h x≠some .NY:=λx d=>by
  by_cases c:x=b
  .rw[Ps c]at d;exact Zq rfl d
  .rw[Ng c]at d;exact⟨c,d⟩
 refine IQ.congr (h:=λx=>if x=b then some .NY else h x) ⟨λx o' hx=>?_,hr.Lj,λx n e hx=>?_,hr.an,λx B' hx=>?_,λx y hx=>?_,λx x' B hx US d d'=>hr.M3 x x' B hx US (key x d).2 (key x' d').2,hr.Nz,λx B' hx d=>hr.bK x B' hx (key x d).2,hr.blt⟩ λx=>K7 ..
 .by_cases c:x=b
  .exact Ahi
  .rw[Ng c]at hx;exact hr.PX x o' hx
 .by_cases c:x=b
  .rw[Ps c]at hx;cases hx
  .rw[Ng c]at hx;exact hr.Hm x n e hx
 .by_cases c:x=b
  .exact⟨.NY,by rw[Ps c],rfl⟩
  .exact AjM
 .obtain⟨n,e,hd⟩:=hr.TR x y hx;refine⟨n,e,?_⟩;rw[Ng (by rintro rfl;rw[hb]at hd;cases hd;cases ho)];exact hd
def IQ.lay(hr:IQ m h w){b:Nat}(hb:h b=none){B e t:Nat}{ob:Obj}(RT:ob.vz=false)(H5:B<w.heap.size)(Qx:∀x,m.box x=some B->h x=some .NY)(hK:m.K B=none)
  (hob:∀m':J,m.le m'->m'.box b=some B->m'.ia b=(e,t)->ag m' w b ob):
  ∃m',m.le m'/\IQ m' (λx=>bif Bo x b then some ob else h x) w/\m'.box b=some B/\m'.ia b=(e,t)/\m'.K=m.K/\m'.Hm=m.Hm/\m'.Lj=m.Lj/\∀x B',m'.box x=some B'->m.box x=some B'\/B'=B:=by
 let m':J:={m with box:=λx=>if x=b then some B else m.box x,ia:=λx=>if x=b then(e,t)else m.ia x}
 have ao:∀x B,m.box x=some B->m'.box x=some B:=λx B hx=>by
  exact AkJ
 have hle:m.le m':=⟨ao,bB.refl _,λb B n e t h=>⟨B,n,t,h,Bd _,λ_=>⟨rfl,rfl⟩⟩,λx B hx=>by
  show(if _ then _ else _)=_;rw[Ng AU]⟩
 have Mz:∀x B',m'.box x=some B'->(x=b/\B'=B)\/(x≠b/\m.box x=some B'):=by
  intro x B' hx;have US:(if x=b then some B else m.box x)=some B':=hx;exact AgF
 have MR:m'.box b=some B:=by show(if _ then _ else _)=_;rw[Ps rfl]
 have MK:m'.ia b=(e,t):=by show(if _ then _ else _)=_;rw[Ps rfl]
 refine⟨m',hle,IQ.congr (h:=λx=>if x=b then some ob else h x) ⟨λx o hx=>?_,hr.Lj,λx n e hx=>?_,hr.an,λx B' hx=>?_,λx y hx=>?_,λx x' B' hx US d1 d2=>?_,hr.Nz,λx B' hx hd=>?_,λx B' hx=>?_⟩ λx=>K7 ..,MR,MK,rfl,rfl,rfl,λx B' hx=>?_⟩
 .by_cases c:x=b
  .rw[Ps c]at hx;cases hx;subst c;exact hob m' hle MR MK
  .exact Ajm
 .by_cases c:x=b
  .exact Ajk
  .rw[Ng c]at hx;exact hr.Hm x n e hx
 .rcases Mz x B' hx with⟨c,_⟩|⟨c,h1⟩
  .exact⟨ob,by simp only[Ps c],RT⟩
  .obtain⟨ds,hd⟩:=hr.Se x B' h1;exact⟨ds,by simp only[Ng c];exact hd⟩
 .exact Ahp
 .rcases Mz x B' hx with⟨c,e⟩|⟨c,h1⟩<;>rcases Mz x' B' US with⟨c',e'⟩|⟨c',h2⟩
  .rw[c,c']
  .rw[Ng c']at d2;rw[e]at h2;exact Zq (Qx x' h2) d2
  .rw[Ng c]at d1;rw[e']at h1;exact Zq (Qx x h1) d1
  .rw[Ng c]at d1;rw[Ng c']at d2;exact hr.M3 x x' B' h1 h2 d1 d2
 .rcases Mz x B' hx with⟨c,e⟩|⟨c,h1⟩
  .rw[e];exact hK
  .rw[Ng c]at hd;exact hr.bK x B' h1 hd
 .rcases Mz x B' hx with⟨c,e⟩|⟨c,h1⟩
  .rw[e];exact H5
  .exact hr.blt x B' h1
 .rcases Mz x B' hx with⟨_,h1⟩|⟨_,h1⟩
  .exact .inr h1
  .exact AiL
def IQ.tM(hr:IQ m h w){b e0:Nat}(hb:h b=some (.Hm 0 e0))(e:Nat):IQ m (λx=>bif Bo x b then some (.Hm 0 e)else h x) w:=by
 have h0:m.Hm b=none:=by
  rcases hr.Hm b 0 e0 hb with⟨_,h1⟩|⟨h0,_⟩
  .exact h1
  .omega
 have MT:∀x B,m.box x=some B->x≠b:=by
  exact AiP
 refine IQ.congr (h:=λx=>if x=b then some (.Hm 0 e)else h x) ⟨λx o hx=>?_,hr.Lj,λx n e' hx=>?_,hr.an,λx B hx=>?_,λx y hx=>?_,λx x' B hx US d d'=>?_,hr.Nz,λx B hx d=>?_,hr.blt⟩ λx=>K7 ..
 .exact Aku
 .by_cases c:x=b
  .rw[Ps c]at hx;cases hx;subst c;exact .inl ⟨rfl,h0⟩
  .rw[Ng c]at hx;exact hr.Hm x n e' hx
 .exact Ago
 .obtain⟨n,e',hc⟩:=hr.TR x y hx;refine⟨n,e',?_⟩;rw[Ng (by rintro rfl;rw[h0]at hx;cases hx)];exact hc
 .exact Agf
 .exact AkV
end
end
section
open Go.Ab (ND Ox P6 La RO PG L5 H0 JF Md KE Vc NJ KP L8 OX size_extract)
section
variable{P:Program} {m:J} {h:Nat->Option Obj} {w:World}
def eh(hr:IQ m h w){B j:Nat}{ks:LV}{v:Bc}(hk:m.K B=some ks)(hv:ks[j]?=some v):w.cell? ⟨B,j,none⟩=some v:=by obtain⟨vs,ty,h1,r,h2⟩:=hr.an B ks hk;rw[Db w B j vs ty (0,0) h1,<- Cq,<- h2,B5 (Bn.1 hv).1];exact hv
def uq{v:Bc}{a:PV}(h:ACr v=some a):VR m a v:=by
 unfold ACr at h;split at h<;>first|(cases h;done)|skip
 all_goals(simp at h;subst h)
 .exact .data _ _ (.bool _)
 .exact AkR
 .exact .data _ _ (.HK _)
 .exact .nil
 .exact .RC
 .exact .je
 .exact .nfn
 .exact .VE
def lY:∀{l:LV} {k:List PV},rT l=some k->JT m k l
 |[],k,h=>by simp[rT]at h;subst h;exact .nil
 |v::r,k,h=>by
  simp only[rT]at h;cases h1:ACr v with
  |none=>simp[h1]at h
  |some a=>
   cases h2:rT r with
   |none=>simp[h1,h2]at h
   |some l=>simp[h1,h2]at h;subst h;exact .cons _ _ _ _ (uq h1) (lY h2)
def rS{v:Bc}{a:PV}(h:cst v=some a):VR m a v:=by
 unfold cst at h;split at h
 .rename_i cs;cases h2:rT cs.toList with
  |none=>simp[h2]at h
  |some l=>simp[h2]at h;subst h;exact .agg _ cs.toList (lY h2)
 .rename_i cs;cases h2:rT cs.toList with
  |none=>simp[h2]at h
  |some l=>simp[h2]at h;subst h;exact .tuple _ cs.toList (lY h2)
 .exact uq h
def ur{v:Bc}:cst v≠some .UO:=by
 intro h;unfold cst at h;split at h
 .split at h<;>simp at h
 .split at h<;>simp at h
 .unfold ACr at h;split at h<;>simp at h
def oB{t:Bm}{z:PV}(h:Xf P t=some z):∃i v,P.info? t=some i/\i.zero=some v/\cst v=some z:=by
 unfold Xf at h;cases hi:P.info? t with
 |none=>simp[hi]at h
 |some i=>
  cases hz:i.zero with
  |none=>simp[hi,hz]at h
  |some v=>simp[hi,hz]at h;exact⟨i,v,rfl,hz,h⟩
def Pk{t:Bm}{z:PV}(h:Xf P t=some z)(w:World):∃v,(EX t).run P w=.ok v w/\(∀m,VR m z v)/\z≠ .UO:=by obtain⟨i,v,hi,hz,hc⟩:=oB h;exact⟨v,by simp[EX,Dk,hi,hz],λm=>rS hc,λe=>by rw[e]at hc;exact ur hc⟩
def UC{a:PV}{n:Nat}(h:M0 a=some n){v:Bc}(hv:VR m a v):∃k,v=.int k (n:Int):=by
 unfold M0 at h;split at h
 .rename_i k i;split at h
  .simp at h;subst h;cases hv with
   |data _ _ hd=>cases hd;exact⟨k,by rw[Int.toNat_of_nonneg ‹_›]⟩
  .cases h
 .cases h
def rU{t:Bm}{cs:List PV}{o:Nat}{x:PV}(hx:uu P t cs o=some x){vs:LV}(hc:JT m cs vs){B Iw:Nat}
  (Ja:∀j v,vs[j]?=some v->w.cell? ⟨B,Iw+j,none⟩=some v):∃v',(DZ t (.pointer (some ⟨B,Iw+o,none⟩))).run P w=.ok v' w/\VR m x v':=by
 unfold uu at hx;split at hx
 .rename_i PM;split at hx
  .rename_i n hs;split at hx
   .rename_i hle;simp at hx;subst hx;have hl:=hc.length;have II:((vs.drop o).take n).length=n:=by simp;omega
    refine⟨.agg ((vs.drop o).take n).toArray,?_,.agg _ _ ((hc.drop o).take n)⟩
    have:=run_loadCells_list (P:=P) w ⟨B,Iw+o,none⟩ ((vs.drop o).take n) (λj v hv=>by
     rw[Cz,Dw];apply Ja;rw[Cr]at hv;split at hv
     .rw[Cg]at hv;exact hv
     .cases hv)
    rw[II]at this;simp[DZ,Cu,loadVar,KE PM,H0 hs,this]
   .cases hx
  .cases hx
 .rename_i PM;obtain⟨v,hv,ZE⟩:=hc.get hx;exact⟨v,by simp[DZ,Cu,loadVar,KE PM,Ja o v hv],ZE⟩
 .cases hx
def fR{t:Bm}{l:List PV}{cs:AV0}{off:Nat}{y:PV}(h:uu P t l off=some y)(hl:JT m l cs.toList)(w:World):
  ∃v,(part t cs off).run P w=.ok v w/\VR m y v:=by
 unfold uu at h;split at h
 .rename_i PM;split at h
  .rename_i n hs;split at h
   .exact Afc
   .cases h
  .cases h
 .exact Ag3
 .cases h
def gi{t:Bm}{x y:PV}{f:Nat}(h:yb P t f x=some y){v:Bc}(hx:VR m x v)(w:World):
  ∃v',(FO t v f).run P w=.ok v' w/\VR m y v':=by
 unfold yb at h;split at h
 .rename_i fd hfd;obtain⟨fs,hu,hf⟩:=Md hfd;split at h
  .rename_i l;cases hx with
   |data _ _ hd=>cases hd
   |agg _ l' hl=>
    exact Ahw
  .cases h
 .cases h
def U6{t:Bm}{x y:PV}{f:Nat}(h:cM P t f x=some y){v:Bc}(hx:VR m x v)(w:World):
  ∃v',(FJ t v f).run P w=.ok v' w/\VR m y v':=by
 unfold cM at h;split at h
 .rename_i fd hfd;obtain⟨fs,hu,hf⟩:=Md hfd;split at h
  .rename_i n hs;split at h
   .rename_i b o;simp at h;subst h;cases hx with
    |data _ _ hd=>cases hd
    |G5 _ _ B hm=>
     refine⟨.pointer (some ⟨B,o+fd.offset,none⟩),?_,.G5 _ _ _ hm⟩;simp[FJ,Bb hu,hf,Cu,fieldPlace,H0 hs,Cz]
   .rename_i Gy o;simp at h;subst h;cases hx with
    |data _ _ hd=>cases hd
    |M8 _ _ B Iw ks hk hl hd=>
     refine⟨.pointer (some ⟨B,Iw+(o+fd.offset),none⟩),?_,.M8 _ _ _ _ _ hk hl hd⟩;simp[FJ,Bb hu,hf,Cu,fieldPlace,H0 hs,Cz,Dw]
   .cases h
  .cases h
 .cases h
def AD4{G1:List (List PV)}{i size:Nat}{y:PV}(h:fW size G1 i=some y){v:Bc}(hd:DR m.K (.HC G1) v):
  ∃B o c,v=.slice (some ⟨B,o,none⟩) G1.length c/\i<G1.length/\VR m y (.pointer (some ⟨B,o+i*size,none⟩)):=by
 unfold fW at h;split at h
 .rename_i Gy HV;cases hb:Bo Gy.length size with
  |false=>simp[hb]at h
  |true=>
   simp[hb]at h;subst h;have N1:=Bu hb;have hi:=(Bn.1 HV).1;cases hd with
   |none=>simp at hi
   |HC _ B o c sz ks hk h0 hc hl hr hd=>
    have h1:=hr i Gy HV;have h2:=hd i Gy HV;have AX7:sz=size:=AA;subst AX7;refine⟨B,o,c,rfl,hi,?_⟩;have:=VR.M8 (m:=m) Gy 0 B (o+i*sz) ks hk (by rw[h1];exact ng hi hl) (by rw[h1];exact h2);exact Afx
 .cases h
def VB{t:Bm}{x i y:PV}(h:cg P t x i=some y){v u:Bc}(hx:VR m x v)(hi:VR m i u)(w:World):
  ∃v',(Dv t v u).run P w=.ok v' w/\VR m y v':=by
 unfold cg at h;split at h
 .rename_i n hn;obtain⟨k,rfl⟩:=UC hn hi;split at h
  .rename_i e hu;split at h
   .rename_i size hs
    have key:∀G1,x.G1=some G1->fW size G1 n=some y->∃v',(Dv t v (.int k n)).run P w=.ok v' w/\VR m y v':=by
     intro G1 HV Pp;obtain⟨B,o,c,rfl,H5,ZE⟩:=AD4 Pp (hx.G1 HV);refine⟨_,?_,ZE⟩;simp[Dv,EL,Bb hu,H0 hs,Cz,H5]
    split at h
    .rename_i b len;split at h
     .rename_i H5;simp at h;subst h;cases hx with
      |data _ _ hd=>cases hd
      |LQ _ _ B c hm hc=>
       refine⟨.pointer (some ⟨B,n*size,none⟩),?_,.G5 _ _ _ hm⟩;simp[Dv,EL,Bb hu,H0 hs,Cz,H5]
     .cases h
    .exact key _ rfl h
    .exact key _ rfl h
    .cases h
   .cases h
  .rename_i len e hu;split at h
   .rename_i size hs;split at h
    .rename_i b o;split at h
     .rename_i H5;simp at h;subst h;cases hx with
      |data _ _ hd=>cases hd
      |G5 _ _ B hm=>
       refine⟨.pointer (some ⟨B,o+n*size,none⟩),?_,.G5 _ _ _ hm⟩;simp[Dv,EL,Bb hu,Cu,H0 hs,Cz,H5]
     .cases h
    .cases h
   .cases h
  .cases h
 .cases h
def iJ{t:Bm}{x i y:PV}(h:zM P t x i=some y){v u:Bc}(hx:VR m x v)(hi:VR m i u)(w:World):
  ∃v',(Fj t v u).run P w=.ok v' w/\VR m y v':=by
 unfold zM at h;split at h
 .rename_i n hn;obtain⟨k,rfl⟩:=UC hn hi;split at h
  .rename_i hu;split at h
   .rename_i s;split at h
    .rename_i b hb;simp at h;subst h;cases hx with
     |data _ _ hd=>
      cases hd;exact⟨.int .u8 b.toNat,by simp[Fj,EL,Bb hu,hb],.data _ _ (.int _ _)⟩
    .cases h
   .cases h
  .cases h
 .cases h
def MN(o:ON)(v:Option Bc):Prop:=Go.Ab.MN o v
def AHb{K:KK}{G1:List (List PV)}{B o c:Nat}{lo n:Nat}(h:DR K (.HC G1) (.slice (some ⟨B,o,none⟩) G1.length c))(hn:lo+n<=G1.length)(Xm:0<n):
  ∃sz,(∀Gy,Gy∈G1->Gy.length=sz)/\∀c',n<=c'->DR K (.HC ((G1.drop lo).take n)) (.slice (some ⟨B,o+lo*sz,none⟩) n c'):=by
 have MT:G1≠[]:=by rintro rfl;simp at hn;omega
 cases h with
 |none=>exact Zq rfl MT
 |HC _ _ _ _ sz ks hk h0 hc hl hr hd=>
  refine⟨sz,λGy hm=>?_,λc' hc'=>?_⟩
  .obtain⟨i,hi⟩:=FT hm;exact hr i Gy hi
  .have II:((G1.drop lo).take n).length=n:=by simp;omega
   have jZ:∀i Gy,((G1.drop lo).take n)[i]?=some Gy->G1[lo+i]?=some Gy:=by
    intro i Gy hi;rw[Cr]at hi;split at hi
    .rw[Cg]at hi;exact hi
    .cases hi
   have hle:o+lo*sz+n*sz<=ks.length:=by
    have:(lo+n)*sz<=G1.length*sz:=Cf _ hn;rw[CW]at this;omega
   have:=DR.HC (K:=K) ((G1.drop lo).take n) B (o+lo*sz) c' sz ks hk AA AA (by rw[II];exact hle) (λi Gy hi=>hr _ Gy (jZ i Gy hi)) (λi Gy hi=>by
    rw[show o+lo*sz+i*sz=o+(lo+i)*sz by rw[CW];omega];exact hd _ Gy (jZ i Gy hi))
   rw[II]at this;exact this
def ic{t:Bm}{x y:PV}{Mw KQ:ON}(h:AAN P t x Mw KQ=some y){v:Bc}{lo hi:Option Bc}(hx:VR m x v)
  (h1:Go.Ab.MN Mw lo)(h2:Go.Ab.MN KQ hi)(w:World):
  ∃v',(DL t v lo hi none).run P w=.ok v' w/\VR m y v':=by
 unfold AAN at h;split at h
 .rename_i hu;split at h
  .rename_i s;split at h
   .rename_i hb;obtain⟨MR,MK⟩:=hb;simp at h;subst h;cases hx with
    |data _ _ hd=>
     cases hd;have hB:=OX (P:=P) (TO:=false) (len:=s.size) (cap:=s.size) h1 h2 (max:=none) (mx:=none) trivial AD (.inl (by simpa using MR)) MK (.inl rfl) w;refine⟨.string (s.extract (Mw.getD 0) (KQ.getD s.size)),?_,.data _ _ (.HK _)⟩;simp only[DL,Bh,Bb hu,Result.andThen_ok,FP];simp;rw[hB];rfl
   .cases h
  .cases h
 .rename_i e hu;split at h
  .rename_i size hs;split at h
   .rename_i b n;split at h
    .rename_i hb;obtain⟨rfl,MR⟩:=hb;simp only[Ba]at h;subst h;cases hx with
     |data _ _ hd=>cases hd
     |LQ _ _ B c hB hc N1=>
      have hB1:=OX (P:=P) (TO:=true) (len:=n) (cap:=c) h1 h2 (max:=none) (mx:=none) trivial AD (.inl AB) AD (.inl rfl) w;refine⟨_,?_,.LQ b _ B c hB AA N1⟩;simp only[DL,Bh,Bb hu,Result.andThen_ok,FP,hB1,H0 hs,Sem.run_pure,Option.getD_none];simp[Cz]
    .cases h
   split at h
   .rename_i G1 Nq;split at h
    .rename_i hb;obtain⟨MR,MK,Xp⟩:=hb;simp at h;subst h;have hd:=hx.G1 Nq;have AUC:∀Gy∈G1,Gy.length=size:=λGy hm=>Bu (CV.1 Xp Gy hm)
     have fin:∀(a:Option EW) (c:Nat),v=.slice a G1.length c->G1.length<=c->(DL t v lo hi none).run P w=
       .ok (.slice (if c=Mw.getD 0 then a else a.map λa=>a.add (Mw.getD 0*size)) (KQ.getD G1.length-Mw.getD 0) (c-Mw.getD 0)) w:=by
      rintro a c rfl hc;have hB:=OX (P:=P) (TO:=true) (len:=G1.length) (cap:=c) h1 h2 (max:=none) (mx:=none) trivial AD (.inl AB) MK (.inl rfl) w;simp only[DL,Bh,Bb hu,Result.andThen_ok,FP,hB,H0 hs,Sem.run_pure,Option.getD_none]
     by_cases Xm:0<KQ.getD G1.length-Mw.getD 0
     .have Xq:=hd;cases hd with
      |none=>simp only[List.length_nil]at MR Xm;omega
      |HC _ B o c sz ks hk h0 hc hl hr oH=>
       obtain⟨sz',AX6,AC8⟩:=AHb Xq (lo:=Mw.getD 0) (n:=KQ.getD G1.length-Mw.getD 0) AA Xm
       have N1:sz'=size:=by
        obtain⟨Gy,hm⟩:∃Gy,Gy∈G1:=⟨G1[0]'h0,AD⟩
        rw[<- AX6 Gy hm,AUC Gy hm]
       subst N1;refine⟨_,fin _ c rfl hc,?_⟩;rw[Ng AA];simp only[Option.map_some,Cz];exact .data _ _ (AC8 _ AA)
     .have h0:KQ.getD G1.length-Mw.getD 0=0:=AA;rw[h0];simp only[List.take_zero];cases hd with
      |none a c ha=>
       refine⟨_,fin a c rfl (ED _),?_⟩;simp only[List.length_nil]at*;rw[h0];refine .data _ _ (.none _ _ λhn=>?_);split at hn
       .rename_i RF;omega
       .cases a with
        |none=>rw[ha rfl];simp
        |some a=>simp at hn
      |HC _ B o c sz ks hk h0' hc hl hr oH=>
       refine⟨_,fin _ c rfl hc,?_⟩;rw[h0];refine .data _ _ (.none _ _ λhn=>?_);split at hn<;>simp at hn
    .cases h
   .cases h
  .cases h
 .cases h
end
end
section
open Go.Ab (ND Ox P6 La RO PG L5 H0 JF Md KE Vc NJ KP Rx)
section
variable{P:Program} {m:J} {h:Nat->Option Obj} {w:World}
def XV(m:J):List (Nat×PV)->List (Nat×Bc)->Prop
 |[],[]=>True
 |(i,a)::r,(j,v)::r'=>i=j/\VR m a v/\XV m r r'
 |_,_=>False
def dM{cs k xs:List PV}{vs ys:LV}{o:Nat}(h:NR cs o xs=some k)(hc:JT m cs vs)(hx:JT m xs ys):
  o+ys.length<=vs.length/\JT m k (vs.take o++ys++vs.drop (o+ys.length)):=by
 unfold NR at h;split at h
 .rename_i hle;simp at h;subst h;rw[hx.length,hc.length]at hle;refine⟨hle,?_⟩;rw[hx.length,<- CN];exact((hc.take o).append hx).append (hc.drop _)
 .cases h
def T1{JV dF:Nat->Option (Nat×Nat)}(hp:∀i p,dF i=some p->JV i=some p):∀{Iv:List (Nat×PV)} {Lt:List (Nat×Bc)} {l k:List PV} {cs:AV0},
  XV m Iv Lt->(∀p∈Iv,p.2≠ .UO)->JT m l cs.toList->vA dF l Iv=some k->∃NL,FB JV cs Lt=some NL/\JT m k NL.toList
 |[],[],l,k,cs,_,_,hl,h=>by simp[vA]at h;subst h;exact⟨cs,rfl,hl⟩
 |(i,a)::r,(j,v)::r',l,k,cs,hpr,hg,hl,h=>by
  obtain⟨rfl,hav,KT⟩:=hpr;simp only[vA]at h;cases au:dF i with
  |none=>simp[au]at h
  |some p=>
   obtain⟨off,size⟩:=p;simp only[au]at h;cases hc:Bo a.cells.length size with
   |false=>simp[hc]at h
   |true=>
    simp only[hc,cond_true]at h;have hc:=Bu hc;split at h
    .rename_i cs2 vk;have hac:=hav.cells (hg _ C8);obtain⟨g1,g2⟩:=dM vk hl hac;have jH:=Vc v.cells.toList cs off 0 (by simp at g1⊢;omega);simp only[DF]at jH
     have hrel:JT m cs2 ((v.cells.zipIdx.foldl (λcs (x:Bc×Nat)=>cs.setIfInBounds (off+x.2) x.1) cs)).toList:=by
      rw[<- Array.foldl_toList,Rx,jH];exact g2
     obtain⟨NL,g3,g4⟩:=T1 hp KT (λp hp=>hg p (Co _ hp)) hrel h;refine⟨NL,?_,g4⟩;simp only[FB,hp _ _ au];rw[Ng]
     .exact g3
     .have:=hac.length;simp at this g1⊢;omega
    .cases h
 |[],_::_,_,_,_,h,_,_,_=>h.elim
 |(_,_)::_,[],_,_,_,h,_,_,_=>h.elim
def gF{t:Bm}{Iv:List (Nat×PV)}{Lt:Array (Nat×Bc)}(hp:XV m Iv Lt.toList)(hg:∀p∈Iv,p.2≠ .UO){a:PV}(h:yE P t Iv=some a)(w:World):
  ∃v,(Er t Lt).run P w=.ok v w/\VR m a v:=by
 unfold yE at h;cases hz:Xf P t with
 |none=>simp[hz]at h
 |some z=>
  obtain⟨zv,da,vn,hzg⟩:=Pk hz w;simp only[hz]at h;split at h
  .rename_i NH hu;cases Jg:Go.Ab.PY P NH.toList with
   |false=>simp[Jg]at h
   |true=>
    simp only[Jg,cond_true]at h;split at h
    .rename_i l hl;simp at h;subst h
     have sf:∃XO:Array (Nat×Nat),(NH.mapM (m:=Sem) λf=>do pure (f.offset,<- En f.type)).run P w=.ok XO w/\∀i p,zy P NH i=some p->XO[i]?=some p:=by
      have yy:∀(fs:List FY),Go.Ab.PY P fs=true->∃ps:List (Nat×Nat),(fs.mapM (m:=Sem) λf=>do pure (f.offset,<- En f.type)).run P w=.ok ps w/\
        ∀(i:Nat) (f:FY) (s:Nat),fs[i]?=some f->ND P f.type=some s->ps[i]?=some (f.offset,s):=by
       intro fs
       induction fs with
       |nil=>intro _;exact⟨[],AD,λi f s h=>by simp at h⟩
       |cons f fs ih=>
        intro Jg;simp only[Go.Ab.PY,Cl,Bk]at Jg;obtain⟨ps,h1,h2⟩:=ih (by simpa[Go.Ab.PY]using Jg.2);exact AfV
      obtain⟨ps,h1,h2⟩:=yy NH.toList Jg;refine⟨ps.toArray,?_,?_⟩
      .exact Aid
      .intro i p y5;unfold zy at y5;exact AgY
     obtain⟨XO,APY,vg⟩:=sf;obtain⟨NL,g1,g2⟩:=T1 (JV:=(XO[·]?)) vg hp hg ((vn m).cells hzg) hl;exact Ako
    .cases h
  .cases h
def yO{a:PV}{Gy:List PV}(h:KR a.cells=some Gy):a≠ .UO:=by rintro rfl;simp[PV.cells,KR,PV.data]at h
def ux:∀{a:PV} {Gy:List PV},U5 a.cells=some Gy->a≠ .UO:=by rintro a Gy h rfl;simp[PV.cells,U5,PV.pJ,PV.data]at h
def uw{N:Bool}{a:PV}{Gy:List PV}(h:yN N a.cells=some Gy):a≠ .UO:=by
 cases N
 .exact yO h
 .exact ux h
def VR.th{a x:PV}{v:Bc}(h:VR m a v)(hr:a.pJ=some x):DR m.K x v:=by
 unfold PV.pJ at hr;split at hr
 .simp only[Ba]at hr;subst hr;cases h with
  |data _ _ hd=>exact hd
  |nil=>exact .nil
 .exact h.UJ hr
def JT.th{l k:List PV}{l':LV}(h:JT m l l')(hk:U5 l=some k):Sv m.K k l':=by
 induction l generalizing k l' with
 |nil=>simp[U5]at hk;subst hk;cases h;exact .nil
 |cons a l ih=>
  cases h with
  |cons _ v _ l' h1 h2=>
   simp only[U5]at hk;cases hd:a.pJ with
   |none=>simp[hd]at hk
   |some x=>
    cases hl:U5 l with
    |none=>simp[hd,hl]at hk
    |some k'=>simp[hd,hl]at hk;subst hk;exact .cons _ _ _ _ (h1.th hd) (ih h2 hl)
def JT.ALc{N:Bool}{l k:List PV}{l':LV}(h:JT m l l')(hk:yN N l=some k):Sv m.K k l':=by
 cases N
 .exact h.UJ hk
 .exact h.th hk
def pO{N:Bool}{size:Nat}:∀{Iv:List (Nat×PV)} {Lt:List (Nat×Bc)} {k:Nat} {G1:List (List PV)} {cs:AV0},
  XV m Iv Lt->Q4 N size k Iv=some G1->(k+Iv.length)*size<=cs.size->
  ∃NL:AV0,FB (λi=>some (i*size,size)) cs Lt=some NL/\NL.size=cs.size/\(∀j,j<k*size->NL[j]?=cs[j]?)/\(∀j,(k+Iv.length)*size<=j->NL[j]?=cs[j]?)/\G1.length=Iv.length/\
   ∀i Gy,G1[i]?=some Gy->Gy.length=size/\Sv m.K Gy ((NL.toList.drop ((k+i)*size)).take size)
 |[],[],k,G1,cs,_,h,_=>by
  simp[Q4]at h;subst h;exact⟨cs,rfl,rfl,λ_ _=>rfl,λ_ _=>rfl,rfl,λi Gy hi=>by simp at hi⟩
 |(i,a)::r,(j,v)::r',k,G1,cs,hpr,h,N1=>by
  obtain⟨rfl,hav,KT⟩:=hpr;simp only[Q4]at h;cases hc:Bo i k&&Bo a.cells.length size with
  |false=>simp[hc]at h
  |true=>
   simp only[hc,cond_true]at h;obtain⟨fB,Ro⟩:=Go.Ab.and_true hc;have bO:=Bu fB;have hl:=Bu Ro;subst bO;split at h
   .rename_i Gy HV;split at h
    .rename_i l jI;simp at h;subst h;have hac:=hav.cells (uw HV);have hd:=hac.ALc HV;have II:=hac.length;simp only[CB]at II;have oc:(i+(r.length+1))*size=i*size+size+r.length*size:=by rw[CW,CW,Eu];omega
     simp only[CG]at N1;rw[oc]at N1;have hle:i*size+v.cells.toList.length<=cs.toList.length:=by simp;omega
     have jH:=Vc v.cells.toList cs (i*size) 0 AB;simp only[DF]at jH;let Ou:=(v.cells.zipIdx.foldl (λcs (x:Bc×Nat)=>cs.setIfInBounds (i*size+x.2) x.1) cs)
     have ATM:Ou.toList=cs.toList.take (i*size)++v.cells.toList++cs.toList.drop (i*size+v.cells.toList.length):=by
      show(v.cells.zipIdx.foldl _ cs).toList=_;rw[<- Array.foldl_toList,Rx,jH]
     have L9:Ou.size=cs.size:=by
      have:=KP cs.toList (i*size) v.cells.toList hle;rw[<- ATM]at this;exact Afx
     have TM:∀j,Ou[j]?=if i*size<=j/\j<i*size+v.cells.toList.length then v.cells.toList[j-i*size]? else cs[j]?:=by
      intro j;rw[<- Cq,ATM,NJ _ _ _ hle];simp
     obtain⟨NL,g1,g2,g3,g4,g5,g6⟩:=pO (N:=N) (size:=size) (k:=i+1) (cs:=Ou) KT jI (by rw[L9,Dw,Ga 1,oc];exact N1);have Yx:(i+1)*size=i*size+size:=by rw[CW,Eu]
     refine⟨NL,?_,g2.trans L9,λj hj=>?_,λj hj=>?_,by simp[g5],λp AYo hp=>?_⟩
     .simp only[FB];rw[Ng]
      .exact g1
      .simp;omega
     .rw[g3 j AA,TM,Ng AA]
     .simp only[CG]at hj;rw[oc]at hj;rw[g4 j (by rw[Dw,Ga 1,oc];exact hj),TM,Ng AB]
     .cases p with
      |zero=>
       simp at hp;subst hp;refine⟨by rw[hd.length];simp;omega,?_⟩
       have:(NL.toList.drop ((i+0)*size)).take size=v.cells.toList:=by
        apply Dc;intro j;rw[DF,Cr];by_cases hj:j<size
        .rw[Ps hj,Cg,Cq,g3 _ AA,TM,Ps AB];congr 1;omega
        .rw[Ng hj,CA AB]
       rw[this];exact hd
      |succ p=>
       simp at hp;have:=g6 p AYo hp;rw[show i+(p+1)=i+1+p by omega];exact this
    .cases h
   .cases h
 |[],_::_,_,_,_,h,_,_=>h.elim
 |(_,_)::_,[],_,_,_,h,_,_=>h.elim
def Ts(hr:IQ m h w){t:Bm}{len:Nat}{Iv:List (Nat×PV)}{Lt:Array (Nat×Bc)}(hp:XV m Iv Lt.toList){N:Bool}{a:PV}(ha:Xz P N t len Iv=some a):
  ∃v w' m',(DW t len Lt).run P w=.ok v w'/\Jt m w m' w'/\IQ m' h w'/\VR m' a v:=by
 unfold Xz at ha;split at ha
 .rename_i e he;split at ha
  .rename_i size hs;cases hb:Ct (len*(size+1)) 16777216&&Bo Iv.length len with
   |false=>simp[hb]at ha
   |true=>
    simp only[hb,cond_true]at ha;obtain⟨MR,MK⟩:=Go.Ab.and_true hb;have MR:=Go.Ab.LO MR;have MK:=Bu MK;split at ha
    .rename_i z hz;cases hl:Bo z.cells.length (size+1)with
     |false=>simp[hl]at ha
     |true=>
      simp only[hl,cond_true]at ha;split at ha
      .rename_i G1 Nq;simp at ha;subst ha;obtain⟨zv,da,vn,hzg⟩:=Pk hz w
       have hzl:zv.cells.size=size+1:=by
        have:=((vn m).cells hzg).length;rw[Bu hl]at this;exact AjU
       let Z:AV0:=if len*(size+1)=0 then(Es (len*(size+1))).map (λi=>(#[]:AV0)[i%0]!)else(Es (len*(size+1))).map (λi=>zv.cells[i%zv.cells.size]!)
       have hZs:Z.size=len*(size+1):=by
        show(if _ then _ else _:AV0).size=_;split<;>simp
       obtain⟨NL,g1,g2,g3,g4,g5,g6⟩:=pO (N:=N) (size:=size+1) (k:=0) (cs:=Z) hp Nq (by rw[hZs,MK,CR];exact Bd _);have Jw:NL.size=G1.length*(size+1):=by rw[g2,hZs,g5,MK]
       obtain⟨m',k1,k2,k3,k4,k5⟩:=hr.AYY NL e NL.toList (C4 _);have II:G1.length=len:=AA;refine⟨.slice (some ⟨w.heap.size,0,none⟩) len len,_,m',?_,k1,k2,?_⟩
       .have Py:¬(len*(size+1)>2^24):=AA;by_cases h0:len*(size+1)=0
        .have hZ0:Z=(Es (len*(size+1))).map (λi=>(#[]:AV0)[i%0]!):=by
          show(if _ then _ else _:AV0)=_;rw[Ps h0]
         rw[hZ0]at g1;simp only[DW,Bh,Bb (JF he),Result.andThen_ok,H0 hs,Ng Py,Ps h0,Sem.run_pure,pure_bind];simp only[Ci,List.length_nil,g1,Go.Ab.Ll];exact Ajl
        .have hZ0:Z=(Es (len*(size+1))).map (λi=>zv.cells[i%zv.cells.size]!):=by
          show(if _ then _ else _:AV0)=_;rw[Ng h0]
         rw[hZ0]at g1;simp only[DW,Bh,Bb (JF he),Result.andThen_ok,H0 hs,Ng Py,Ng h0,da,Sem.run_pure,pure_bind];simp only[g1];exact Ajl
       .by_cases h0:len=0
        .have:G1=[]:=List.eq_nil_of_length_eq_zero AA;subst this;rw[h0];exact .data _ _ (.none _ _ λhn=>by cases hn)
        .have:=DR.HC (K:=m'.K) G1 w.heap.size 0 len (size+1) NL.toList k3 AA AA (by simp[Jw]) (λi Gy hi=>(g6 i Gy hi).1) (λi Gy hi=>by
          have:=((g6 i Gy hi).2).mono k1.le.K;simpa using this)
         rw[II]at this;exact .data _ _ this
      .cases ha
    .cases ha
  .cases ha
 .cases ha
def nD{α:Type}(f:Nat->α):(Es 0).map f=#[]:=by apply Array.ext<;>simp
def jY(hr:IQ m h w){t:Bm}{Lt:Array (Nat×Bc)}(hp:Lt=#[]){st IK:St}(KH:st.heap=h){q:KC}(hq:Xx P t=some q){y:PV}(H4:q.run st=some (y,IK))(hf:∀b,st.next<=b->b<IK.next->st.heap b=none):
  ∃v w' m',(DW t 0 Lt).run P w=.ok v w'/\Jt m w m' w'/\IQ m' IK.heap w'/\VR m' y v:=by
 subst hp;unfold Xx at hq;split at hq
 .rename_i e he;split at hq
  .rename_i size hs;simp only[Ba]at hq;subst hq;simp only[KC.run,Ba,CM]at H4;obtain⟨rfl,rfl⟩:=H4;have Qx:h st.next=none:=by rw[<- KH];exact hf _ (Bd _) (by simp[St.new])
   obtain⟨m',k1,k2,k3,k4⟩:=hr.tB (e:=size+1) (cs:=[]) Qx #[] e (by simp;exact .nil);refine⟨.slice (some ⟨w.heap.size,0,none⟩) 0 0,_,m',?_,k1,k2.congr λx=>by simp only[St.new,KH],.LQ _ _ _ _ k3 (Bd _) (by rw[Nat.zero_mul];exact ED _)⟩;simp only[DW,Bh,Bb (JF he),Result.andThen_ok,H0 hs,Nat.zero_mul,Sem.run_pure,pure_bind];simp[FB,Go.Ab.Ll,nD]
  .cases hq
 .cases hq
def bY{z:List PV}{zc:LV}(hz:JT m z zc):∀n,JT m (C2 n z).flatten (C2 n zc).flatten
 |0=> .nil
 |n+1=>by
  simp only[List.replicate_succ,ET];exact hz.append (bY hz n)
def vE(zc:LV)(Xm:0<zc.length):∀(n i:Nat),i<n*zc.length->(C2 n zc).flatten[i]?=zc[i%zc.length]?
 |0,i,hi=>by simp at hi
 |n+1,i,hi=>by
  simp only[List.replicate_succ,ET];by_cases h:i<zc.length
  .rw[B5 h,Nat.mod_eq_of_lt h]
  .rw[CU AA,vE zc Xm n (i-zc.length) (by rw[CW,Eu]at hi;omega)];congr 1;exact(Nat.mod_eq_sub_mod AA).symm
def VD(hr:IQ m h w){t:Bm}{l c:PV}{st IK:St}(KH:st.heap=h){q:KC}(hq:cu P t l c=some q){y:PV}(H4:q.run st=some (y,IK))(hf:∀b,st.next<=b->b<IK.next->st.heap b=none){u v:Bc}(hl:VR m l u)(hc:VR m c v):
  ∃r w' m',(Dp t u v).run P w=.ok r w'/\Jt m w m' w'/\IQ m' IK.heap w'/\VR m' y r:=by
 unfold cu at hq;split at hq
 .rename_i e he;split at hq
  .rename_i size hs;split at hq
   .rename_i bytes hby;split at hq
    .rename_i ln hln;split at hq
     .rename_i cn hcn;cases hb:Bo ln cn&&Go.Ab.JE cn bytes with
      |false=>simp[hb]at hq
      |true=>
       simp only[hb,cond_true]at hq;obtain⟨MR,MK⟩:=Go.Ab.and_true hb;obtain⟨Xp,pV⟩:=Go.Ab.and_true MK;have c1:=Bu MR;subst c1;have c3:=Go.Ab.LO Xp;have c4:=Go.Ab.LO pV;split at hq
       .rename_i z hz;cases hzl:Bo z.cells.length (size+1)with
        |false=>simp[hzl]at hq
        |true=>
         simp only[hzl,cond_true,Ba]at hq;subst hq;simp only[KC.run,Ba,CM]at H4;obtain⟨rfl,rfl⟩:=H4;have Qx:h st.next=none:=by rw[<- KH];exact hf _ (Bd _) (by simp[St.new])
         obtain⟨zv,da,vn,hzg⟩:=Pk hz w;have hzc:=(vn m).cells hzg
         have ABZ:zv.cells.size=size+1:=by
          have:=hzc.length;rw[Bu hzl]at this;exact AjU
         obtain⟨kl,rfl⟩:=UC hln hl;obtain⟨kc,rfl⟩:=UC hcn hc;obtain⟨inf,ma,rfl⟩:=Go.Ab.L5 hby
         have zJ:∀n:Nat,n<=140737488355328->IntKind.i64.wrap (n:Int)=(n:Int):=by
          exact Afi
         have e1:=zJ ln AA
         have htl:¬((inf.bytes:Int)*(ln:Int)>2^48):=by
          have:inf.bytes*ln<=140737488355328:=by rw[Ez];exact c3
          have:((inf.bytes*ln:Nat):Int)<=140737488355328:=AA;rw[Int.natCast_mul]at this;omega
         have vR:(decide ((ln:Int)<0)||decide ((inf.bytes:Int)*(ln:Int)>2^48))=false:=by
          rw[decide_eq_false (by omega:¬((ln:Int)<0)),decide_eq_false htl];rfl
         obtain⟨vs,Mi,AYC,hvl⟩:∃vs:AV0,(Dp t (.int kl ln) (.int kc ln)).run P w=.ok (.slice (some ⟨w.heap.size,0,none⟩) ln ln) (w.alloc (.cells vs e))/\vs.size=ln*(size+1)/\vs.toList=(C2 ln zv.cells.toList).flatten:=by
          by_cases h0:ln*(size+1)=0
          .have hl0:ln=0:=by
            rcases Nat.mul_eq_zero.1 h0 with h|h
            .exact h
            .omega
           subst hl0;refine⟨#[],?_,AD,AD⟩
           simp only[Dp,Bh,Bb (JF he),Result.andThen_ok,asInt,EL,Sem.run_pure,Dk,run_program,ma,e1,vR,Dj,
            Ce,pure_bind]
           rw[Ng AD];simp only[Bh,run_askRoom,Result.andThen_ok,H0 hs,Ps h0,Go.Ab.Ll,Sem.run_pure];simp[nD]
          .refine⟨(Es (ln*(size+1))).map λi=>zv.cells[i%zv.cells.size]!,?_,AD,?_⟩
           .simp only[Dp,Bh,Bb (JF he),Result.andThen_ok,asInt,EL,Sem.run_pure,Dk,run_program,ma,e1,vR,Dj,
             Ce,pure_bind]
            rw[Ng AD];simp only[Bh,run_askRoom,Result.andThen_ok,H0 hs,Ng h0,da,Go.Ab.Ll,Sem.run_pure]
           .apply Dc;intro i;by_cases hi:i<ln*(size+1)
            .rw[vE _ AB ln i (by simp[ABZ];exact hi)];have hm:i%(size+1)<zv.cells.size:=by rw[ABZ];exact Nat.mod_lt _ AA
             simp[hi,ABZ,getElem!_def,Bv hm]
            .rw[CA AB,CA (by simp[ABZ];omega)]
         have aw:=bY hzc ln
         obtain⟨m',k1,k2,k3,k4⟩:=hr.tB (e:=size+1) (cs:=(C2 ln z.cells).flatten) Qx vs e (by
          rw[aw.length,<- hvl,DG,hvl];exact aw)
         refine⟨_,_,m',Mi,k1,k2.congr λx=>by simp only[St.new,KH],.LQ _ _ _ _ k3 (Bd _) ?_⟩;rw[k4,AYC];exact Bd _
       .cases hq
     .cases hq
    .cases hq
   .cases hq
  .cases hq
 .cases hq
end
end
section
open Go.Ab (ND Ox P6 La RO PG L5 H0 JF Md KE NJ KP L8 gE)
section
variable{P:Program} {m:J} {h:Nat->Option Obj} {w:World}
def AGS{op:EP}{k:IntKind}{a b:Int}{x:PV}(h:AGR op k a b=some x)(t:Bm)(w:World):
  ∃v,(Di op t (.int k a) (.int k b)).run P w=.ok v w/\VR m x v:=by
 cases op
 case shl=>cases h
 case shr=>cases h
 all_goals
  rw[gE _ AD AD];simp only[AGR]at h
  first
   |(cases h;done)
   |(simp only[Ba]at h;subst h;first|exact⟨_,rfl,.data _ _ (.int _ _)⟩|exact⟨_,rfl,.data _ _ (.bool _)⟩)
   |(
    split at h
    .cases h
    .rename_i hb;simp only[Ba]at h;subst h;exact⟨_,by simp[Op.intDiv,hb],.data _ _ (.int _ _)⟩)
def u6{t:Bm}{x y:PV}{r:Bool}(h:AJm (P.underlying t) x y=some r){u v:Bc}(hx:VR m x u)(hy:VR m y v)(d:Nat)(w:World):
  (Cx (d+1) t u v).run P w=.ok r w/\((∃a b,u=.int a b)\/(∃a,u=.bool a)\/∃s,u=.string s)/\((∃a b,v=.int a b)\/(∃a,v=.bool a)\/∃s,v=.string s)/\((∃a b,x=.bool a/\y=.bool b/\u=.bool a/\v=.bool b)\/(∃k a k' b,x=.int k a/\y=.int k' b)\/∃a b,x=.HK a/\y=.HK b):=by
 unfold AJm at h;split at h
 .rename_i k0 k a k' b hu;cases hx with|data _ _ hx=>cases hy with|data _ _ hy=>
  cases hx;cases hy;split at h
  .rename_i hk;subst hk;simp at h;subst h;exact⟨by simp[Cx,Bb hu],.inl ⟨_,_,rfl⟩,.inl ⟨_,_,rfl⟩,.inr (.inl ⟨_,_,_,_,rfl,rfl⟩)⟩
  .cases h
 .rename_i a b hu;cases hx with|data _ _ hx=>cases hy with|data _ _ hy=>
  cases hx;cases hy;simp at h;subst h;exact⟨by simp[Cx,Bb hu],.inr (.inl ⟨_,rfl⟩),.inr (.inl ⟨_,rfl⟩),.inl ⟨_,_,rfl,rfl,rfl,rfl⟩⟩
 .rename_i a b hu;cases hx with|data _ _ hx=>cases hy with|data _ _ hy=>
  cases hx;cases hy;simp only[Ba]at h;subst h;exact⟨run_equalIn_string w d t a b hu,.inr (.inr ⟨_,rfl⟩),.inr (.inr ⟨_,rfl⟩),.inr (.inr ⟨_,_,rfl,rfl⟩)⟩
 .cases h
def Qs{xs ys:List PV}{us vs:AV0}(hx:JT m xs us.toList)(hy:JT m ys vs.toList)(d:Nat)(w:World):
  ∀{fs:List FY} {r:Bool},Vb P xs ys fs=some r->(Fk (d+1) us vs fs).run P w=.ok r w
 |[],r,h=>by simp[Vb]at h;subst h;rfl
 |f::fs,r,h=>by
  simp only[Vb]at h;by_cases hn:f.name= "_"
  .rw[Ps hn]at h;cases h
  .rw[Ng hn]at h;split at h
   .rename_i PM;split at h
    .rename_i x hxf;split at h
     .rename_i y hyf;obtain⟨u,hu,hur⟩:=hx.get hxf;obtain⟨v,hv,ZE⟩:=hy.get hyf;have p1:(part f.type us f.offset).run P w=.ok u w:=by simp[part,KE PM];rw[show us[f.offset]?=some u by simpa using hu];rfl
      have p2:(part f.type vs f.offset).run P w=.ok v w:=by simp[part,KE PM];rw[show vs[f.offset]?=some v by simpa using hv];rfl
      split at h
      .rename_i b he;have h1:=(u6 he hur ZE d w).1;split at h
       .rename_i r' XB;simp at h;subst h;have h2:=Qs hx hy d w XB;simp only[Fk,Bh,p1,p2,Result.andThen_ok,h1,ne_eq,hn,not_false_eq_true,if_true];cases b
        .simp
        .simpa using h2
       .cases h
      .cases h
     .cases h
    .cases h
   .cases h
def nh{t e:Bm}(hu:P.underlying t=some (.pointer e)){a:EW}(d:Nat)(w:World):(Cx (d+1) t (.pointer (some a)) (.pointer none)).run P w=.ok false w:=by simp[Cx,Bb hu]
def AAF{t e:Bm}(hu:P.underlying t=some (.pointer e))(d:Nat)(w:World):(Cx (d+1) t (.pointer none) (.pointer none)).run P w=.ok true w:=by simp[Cx,Bb hu]
def AA3{t:Bm}{x y:PV}{r:Bool}(h:eqP P t x y=some r)(n1:∀k a k' b,x=.int k a->y=.int k' b->False)(n2:∀a b,x=.HK a->y=.HK b->False){u v:Bc}(hx:VR m x u)(hy:VR m y v)(w:World):
  (Dq t u v).run P w=.ok r w/\(∀op a b,(DS op t a b u v).run P w=.ok () w)/\Go.Ab.Pt u v:=by
 unfold eqP at h;split at h
 .rename_i e hu;unfold AUf at h;split at h
  .simp only[Ba]at h;subst h;cases hx with
   |data _ _ hd=>cases hd
   |G5=>cases hy with
    |data _ _ hd=>cases hd
    |RC=>exact⟨by simp only[Dq,Et];exact nh hu 9999 w,λop a b=>by cases op<;>simp[DS],.G5 _ _⟩
  .simp only[Ba]at h;subst h;cases hx with
   |data _ _ hd=>cases hd
   |M8=>cases hy with
    |data _ _ hd=>cases hd
    |RC=>exact⟨by simp only[Dq,Et];exact nh hu 9999 w,λop a b=>by cases op<;>simp[DS],.G5 _ _⟩
  .simp only[Ba]at h;subst h;cases hx with
   |data _ _ hd=>cases hd
   |RC=>cases hy with
    |data _ _ hd=>cases hd
    |RC=>exact⟨by simp only[Dq,Et];exact AAF hu 9999 w,λop a b=>by cases op<;>simp[DS],.G5 _ _⟩
  .cases h
 .rename_i fs hu;split at h
  .rename_i xs ys;cases hc:P.stoodInHeld t||P.eqGuardType P.depth t with
   |true=>simp[hc]at h
   |false=>
    simp only[hc,cond_false]at h;obtain⟨c1,c2⟩:=Cn.1 hc;cases hx with
    |data _ _ hd=>cases hd
    |agg _ us hxs=>
     cases hy with
     |data _ _ hd=>cases hd
     |agg _ vs hys=>
      have hfs:P.fieldsOf t=fs:=by simp[Program.fieldsOf,hu]
      refine⟨?_,λop a b=>run_eqGuard_agg w op t a b _ _ c2,.agg _ _⟩;exact AgV
  .cases h
 .obtain⟨h1,h2,h3,h4⟩:=u6 h hx hy 9999 w;rcases h4 with⟨a,b,rfl,rfl,rfl,rfl⟩|⟨k,a,k',b,rfl,rfl⟩|⟨a,b,rfl,rfl⟩
  .exact⟨by simp only[Dq,Et];exact h1,λop _ _=>by cases op<;>simp[DS],.bool _ _⟩
  .exact(n1 _ _ _ _ rfl rfl).elim
  .exact(n2 _ _ rfl rfl).elim
def q9{op:EP}{t:Bm}{x y z:PV}(h:al P op t x y=some z){u v:Bc}(hx:VR m x u)(hy:VR m y v)(a b:Cb)(w:World):
  ∃r,(do DS op t a b u v;Di op t u v:Sem Bc).run P w=.ok r w/\VR m z r:=by
 unfold al at h;split at h
 .rename_i k n k' n';cases hx with|data _ _ hx=>cases hy with|data _ _ hy=>
  cases hx;cases hy;have hg:(DS op t a b (.int k n) (.int k' n')).run P w=.ok () w:=by cases op<;>simp[DS]
  split at h
  .rename_i hk;subst hk;obtain⟨r,h1,h2⟩:=AGS (P:=P) (m:=m) h t w;exact AgD
  .cases h
 .rename_i s s';cases hx with|data _ _ hx=>cases hy with|data _ _ hy=>
  cases hx;cases hy;have hg:(DS op t a b (.string s) (.string s')).run P w=.ok () w:=by cases op<;>simp[DS]
  unfold AU8 at h;split at h
  .simp only[Ba]at h;subst h;exact⟨.bool (s.toList==s'.toList),by simp only[Bh,hg,Result.andThen_ok];simp[Di,Op.stringOp],.data _ _ (.bool _)⟩
  .simp only[Ba]at h;subst h;exact⟨.bool !(s.toList==s'.toList),by simp only[Bh,hg,Result.andThen_ok];simp[Di,Op.stringOp],.data _ _ (.bool _)⟩
  .cases h
 .rename_i x' y' n1 n2;split at h
  .split at h
   .rename_i r hr;simp at h;subst h;obtain⟨e1,e2,e3⟩:=AA3 hr (λk a k' b h1 h2=>n1 _ _ _ _ h1 h2) (λa b h1 h2=>n2 _ _ h1 h2) hx hy w;exact⟨.bool r,by simp only[Bh,e2,Result.andThen_ok,((e3.run (P:=P) (w:=w) t).2 r e1).1],.data _ _ (.bool _)⟩
   .cases h
  .split at h
   .rename_i r hr;simp at h;subst h;obtain⟨e1,e2,e3⟩:=AA3 hr (λk a k' b h1 h2=>n1 _ _ _ _ h1 h2) (λa b h1 h2=>n2 _ _ h1 h2) hx hy w;exact⟨.bool !r,by simp only[Bh,e2,Result.andThen_ok,((e3.run (P:=P) (w:=w) t).2 r e1).2],.data _ _ (.bool _)⟩
   .cases h
  .cases h
def AAZ{op:UnOp}{x y:PV}(h:unP op x=some y){u:Bc}(hx:VR m x u)(w:World):∃v,(GG op u).run P w=.ok v w/\VR m y v:=by
 unfold unP at h;split at h
 .simp at h;subst h;cases hx with|data _ _ hx=>
  cases hx;exact⟨_,by simp[GG],.data _ _ (.bool _)⟩
 .simp at h;subst h;cases hx with|data _ _ hx=>
  cases hx;exact⟨_,by simp[GG,Fl],.data _ _ (.int _ _)⟩
 .cases h
def Yj{src dst:Bm}{x y:PV}(h:lX P src dst x=some y){u:Bc}(hx:VR m x u)(w:World):∃v,(convert src dst u).run P w=.ok v w/\VR m y v:=by
 unfold lX at h;split at h
 .rename_i d hd;split at h
  .rename_i k hu;split at h
   .rename_i k' n;simp at h;subst h;cases hx with|data _ _ hx=>
    cases hx;exact⟨.int k _,by simp only[convert,Bh,Bb hd,Bb hu,Result.andThen_ok];cases d<;>rfl,.data _ _ (.int _ _)⟩
   .cases h
  .cases h
 .cases h
def sq{t:Bm}{x y:PV}(h:AP0 P t x=some y){u:Bc}(hx:VR m x u){KO:Array Bm}(Pp:KO[0]?=some t)(ty:Bm)(w:World):
  ∃v,(Dh KO ty #[u]).run P w=.ok v w/\VR m y v:=by
 unfold AP0 at h;split at h
 .rename_i hu;split at h
  .simp at h;subst h;cases hx with|data _ _ hx=>
   cases hx;exact AjV
  .cases h
 .rename_i e hu;split at h
  .rename_i b n;simp only[Ba]at h;subst h;cases hx with
   |data _ _ hd=>cases hd
   |LQ=>exact⟨_,by simp[Dh,Pp,Bb hu,goInt],.data _ _ (.int _ _)⟩
  split at h
  .rename_i G1 Nq;simp at h;subst h;have hd:=hx.G1 Nq
   have:∃a c,u=.slice a G1.length c:=by
    cases hd with
    |none a c _=>exact⟨a,c,rfl⟩
    |HC _ B o c=>exact⟨_,c,rfl⟩
   obtain⟨a,c,rfl⟩:=this;exact AjV
  .cases h
 .cases h
structure Rows (K:KK) (e:Nat) (G1:List (List PV)) (ks:List Bc):Prop where
 len:ks.length=G1.length*e
 Gy:∀(i:Nat) (Gy:List PV),G1[i]?=some Gy->Gy.length=e
 rel:∀(i:Nat) (Gy:List PV),G1[i]?=some Gy->Sv K Gy ((ks.drop (i*e)).take e)
def Rows.mono{K K':KK}{e:Nat}{G1:List (List PV)}{ks:LV}(h:Rows K e G1 ks)(hk:bB K K'):Rows K' e G1 ks:=⟨h.len,h.Gy,λi Gy hi=>(h.rel i Gy hi).mono hk⟩
def Rows.append{K:KK}{e:Nat}{G1 AB9:List (List PV)}{ks XE:LV}(h:Rows K e G1 ks)(h':Rows K e AB9 XE):Rows K e (G1++AB9) (ks++XE):=by
 have jZ:∀i Gy,(G1++AB9)[i]?=some Gy->G1[i]?=some Gy\/(G1.length<=i/\AB9[i-G1.length]?=some Gy):=by
  intro i Gy hi;by_cases c:i<G1.length
  .rw[B5 c]at hi;exact .inl hi
  .rw[CU AA]at hi;exact .inr ⟨AA,hi⟩
 refine⟨by rw[Bf,Bf,h.len,h'.len,CW],λi Gy hi=>?_,λi Gy hi=>?_⟩
 .rcases jZ i Gy hi with h1|⟨_,h1⟩
  .exact h.Gy i Gy h1
  .exact h'.Gy _ Gy h1
 .rcases jZ i Gy hi with h1|⟨hle,h1⟩
  .have O4:=(Bn.1 h1).1;have hle:=ng (sz:=e) (o:=0) (L:=ks.length) O4 (by rw[h.len];omega);rw[Wm (Fh ks XE) AA];exact h.rel i Gy h1
  .have:((ks++XE).drop (i*e)).take e=(XE.drop ((i-G1.length)*e)).take e:=by
    rw[Gg,List.drop_eq_nil_of_le (by rw[h.len];exact Cf _ hle),CX,h.len,Nat.sub_mul]
   rw[this];exact h'.rel _ Gy h1
def tV{K:KK}{e:Nat}{G1:List (List PV)}{B o c:Nat}(Jg:∀Gy∈G1,Gy.length=e)(h0:0<G1.length)(h:DR K (.HC G1) (.slice (some ⟨B,o,none⟩) G1.length c)):
  ∃ks,K B=some ks/\o+G1.length*e<=ks.length/\G1.length<=c/\Rows K e G1 ((ks.drop o).take (G1.length*e)):=by
 cases h with
 |none=>simp at h0
 |HC _ _ _ _ sz ks hk h1 hc hl hr hd=>
  have N1:sz=e:=by
   obtain⟨Gy,hm⟩:∃Gy,G1[0]?=some Gy:=⟨G1[0]'h0,by rw[BZ]⟩
   rw[<- hr 0 Gy hm,Jg Gy (Bt hm)]
  subst N1;refine⟨ks,hk,hl,hc,by simp;omega,hr,λi Gy hi=>?_⟩;have hle:=ng (sz:=sz) (o:=0) (L:=G1.length*sz) (Bn.1 hi).1 AA
  have:(((ks.drop o).take (G1.length*sz)).drop (i*sz)).take sz=(ks.drop (o+i*sz)).take sz:=by
   rw[List.drop_take,List.take_take,D6,Nat.min_eq_left AA]
  rw[this];exact hd i Gy hi
def Rows.dr{K:KK}{e:Nat}{G1:List (List PV)}{ks:LV}(h:Rows K e G1 ks)(h0:0<G1.length){B c:Nat}{kb:LV}(hk:K B=some kb)(hp:ks<+:kb)(hc:G1.length<=c):DR K (.HC G1) (.slice (some ⟨B,0,none⟩) G1.length c):=
 .HC G1 B 0 c e kb hk h0 hc (by have:=hp.length_le;rw[h.len]at this;omega) h.Gy λi Gy hi=>by
  have hle:=ng (sz:=e) (o:=0) (L:=ks.length) (Bn.1 hi).1 (by rw[h.len];omega);rw[CR,Wm hp AA];exact h.rel i Gy hi
def Rows.one{K:KK}{e:Nat}{G1:List (List PV)}{ks:LV}(h:Rows K e G1 ks)(he:0<e):∀v∈ks,v.oneCell'=true:=by
 intro v hv;obtain⟨j,hj⟩:=FT hv;have H5:=(Bn.1 hj).1;rw[h.len]at H5;have hi:j/e<G1.length:=Nat.div_lt_of_lt_mul (by rw[Ez];exact H5);have hr:=h.rel (j/e) (G1[j/e]'hi) (by rw[BZ]);refine hr.one v ?_;have hm:j%e<e:=Nat.mod_lt _ he;have Wz:j/e*e+j%e=j:=by rw[Ez];exact Nat.div_add_mod j e
 refine Bt (i:=j%e) ?_;rw[Cr,Ps hm,Cg,Wz];exact hj
end
end
section
open Go.Ab (ND Ox P6 La RO PG L5 H0 JF Md KE NJ KP L8 Fw)
section
variable{P:Program} {m:J} {h:Nat->Option Obj} {w:World}
def St.Hz(st:St)(b:Nat)(o:Obj):(st.set b o).next=st.next:=rfl
def ABz(hr:IQ m h w){b:Nat}{G1:List (List PV)}{e e0:Nat}(hb:h b=some (.Hm G1.length e0))(he:G1.length=0\/e0=e)(Jg:∀Gy∈G1,Gy.length=e){v:Bc}(hv:VR m (.H6 b G1) v):
  (G1=[]/\v=.slice none 0 0)\/(0<G1.length/\∃B c t ks vs ty,v=.slice (some ⟨B,0,none⟩) G1.length c/\G1.length<=c/\c*e<=t/\m.Hm b=some (B,G1.length,e,t)/\m.K B=some ks/\Rows m.K e G1 ks/\
   w.heap[B]?=some (.cells vs ty (0,0))/\vs.size=t/\ks<+:vs.toList):=by
 cases hv with
 |data _ _ hd=>cases hd
 |ai=>exact .inl ⟨rfl,rfl⟩
 |H6 _ _ B0 c B n e1 t ho h0 hn ht hd=>
  rcases hr.Hm b _ _ hb with⟨h1,_⟩|⟨_,B',t',h2,ks,h3,h4,vs,ty,h5,h6⟩
  .omega
  .rw[ho]at h2;cases h2;obtain⟨rfl,hct⟩:=ht rfl;have hee:e0=e:=he.resolve_left AA;subst hee;obtain⟨XE,g1,g2,g3,g4⟩:=tV Jg h0 hd;rw[h3]at g1;cases g1;have hks:(ks.drop 0).take (G1.length*e0)=ks:=by rw[Cv,CJ (by rw[h4];exact Bd _)]
   rw[hks]at g4;obtain⟨qc,ik,f1,f2⟩:=hr.an B ks h3;rw[h5]at f1;cases f1;exact .inr ⟨h0,B,c,t,ks,vs,ty,rfl,g3,hct,ho,h3,g4,h5,h6,f2⟩
def aa{z:AV0}{n:Nat}:(CK z n).size=n*z.size:=by simp[CK]
def wZ(hr:IQ m h w){t t' d e:Bm}{i:Ex}{z:Bc}(ht:P.underlying t=some (.slice e))(UR:P.underlying t'=some (.slice d))(hi:P.info? e=some i)(hz:i.zero=some z)(vo:z.cells.size=i.size)(Xm:0<i.size)
  {b:Nat}{G1 xs:List (List PV)}{e0:Nat}(hb:h b=some (.Hm G1.length e0))(he:G1.length=0\/e0=i.size)(Jg:∀Gy∈G1,Gy.length=i.size)(Xa:∀Gy∈xs,Gy.length=i.size)
  (Nm:(G1.length+xs.length)*i.bytes<=140737488355328)(OK:G1.length+xs.length<=140737488355328){v v2:Bc}(hv:VR m (.H6 b G1) v)(hx:DR m.K (.HC xs) v2)(ty:Bm):
  ∃r w' m',(Ck #[t,t'] ty #[v,v2]).run P w=.ok r w'/\Jt m w m' w'/\IQ m' (λx=>bif Bo x b then some (.Hm (G1.length+xs.length) i.size)else h x) w'/\VR m' (.H6 b (G1++xs)) r:=by
 have AGF:=ABz hr hb he Jg hv;cases hx with
 |none a c ha=>
  have hv2:FU a 0 c=.slice none 0 0\/∃a' c',FU a 0 c=.slice (some a') 0 c':=by
   cases a with
   |none=>rw[ha rfl];exact .inl rfl
   |some a=>exact .inr ⟨_,_,rfl⟩
  simp only[List.length_nil,DF,CL];rcases AGF with⟨rfl,rfl⟩|⟨h0,B,c',tt,ks,vs,ik,rfl,hc,hct,ho,hk,hR,hw,hs,hp⟩
  .refine⟨_,w,m,Go.Ab.PB t t' ty e i d ht UR hi _ none 0 0 rfl (Bd _) _ hv2 w,Jt.refl m w,?_,.ai b⟩;exact hr.tM hb i.size
  .refine⟨_,w,m,Go.Ab.PB t t' ty e i d ht UR hi _ _ _ _ rfl hc _ hv2 w,Jt.refl m w,hr.congr λx=>?_,hv⟩;rw[K7];by_cases c:x=b
   .rw[Ps c,c,hb,he.resolve_left AA]
   .rw[Ng c]
 |HC _ B2 o2 c2 sz2 ks2 Jr h02 Ro jI hr2 hd2=>
  have Uv:DR m.K (.HC xs) (.slice (some ⟨B2,o2,none⟩) xs.length c2):=.HC xs B2 o2 c2 sz2 ks2 Jr h02 Ro jI hr2 hd2;obtain⟨kx,q1,q2,q3,q4⟩:=tV Xa h02 Uv;rw[Jr]at q1;cases q1;obtain⟨JX,jJ⟩:∃JX,JX=(ks2.drop o2).take (xs.length*i.size):=⟨_,rfl⟩
  rw[<- jJ]at q4;have Pz:JX.length=xs.length*i.size:=q4.len
  have Y0:∀j u,JX[j]?=some u->w.cell? ((⟨B2,o2,none⟩:EW).add j)=some u:=by
   intro j u hj;rw[Cz];rw[jJ,Cr]at hj;exact AjX
  have iF:=q4.one Xm;have hkK:∀{m':J},Jt m w m' w->True:=λ_=>trivial;rcases AGF with⟨rfl,rfl⟩|⟨h0,B,c',tt,ks,vs,ik,rfl,hc,hct,ho,hk,hR,hw,hs,hp⟩
  .simp only[List.length_nil,CR,CX]at Nm OK hb⊢;have H4:=Go.Ab.ZW (w:=w) t t' ty e d i z ht UR hi hz ⟨B2,o2,none⟩ xs.length c2 JX Pz Y0 h02 AA AA;have hge:=Fe w xs.length 0 e;obtain⟨W,hW⟩:∃W,W=w.drew.alloc (.cells (JX.toArray++CK z.cells (Cj w xs.length 0 e-xs.length)) e):=⟨_,rfl⟩
   have Ja:W.heap[w.heap.size]?=some (.cells (JX.toArray++CK z.cells (Cj w xs.length 0 e-xs.length)) e (0,0)):=by rw[hW];exact EK w.drew _
   have N1:(JX.toArray++CK z.cells (Cj w xs.length 0 e-xs.length)).size=Cj w xs.length 0 e*i.size:=by
    rw[DH,aa,vo,Ci,Pz,<- CW];congr 1;omega
   obtain⟨m',k1,k2,k3,k4,k5⟩:=hr.ey hb (w':=W) (B':=w.heap.size) (n':=xs.length) (e:=i.size) (t':=Cj w xs.length 0 e*i.size) (XE:=JX) (.inl rfl) h02 (.inl (Bd _)) Ja N1 AD Pz
    (λB _ hB=>by rw[hW];exact DE w.drew _ B hB) (by rw[hW];simp) AdG AdG Adx
   refine⟨_,W,m',by rw[hW];exact H4,k1,k2,?_⟩;exact .H6 b xs w.heap.size _ w.heap.size xs.length i.size _ k3 h02 (Bd _) (λ_=>⟨rfl,Bd _⟩) ((q4.mono k1.le.K).dr h02 k4 (C4 _) hge)
  .have hvk:ks=vs.toList.take (G1.length*i.size):=by
    obtain⟨r,hr⟩:=hp;rw[<- hr,<- hR.len,List.take_left]
   have hRR:=hR.append q4;have hn':0<(G1++xs).length:=by simp;omega
   by_cases Vj:G1.length+xs.length<=c'
   .have oc:(G1.length+xs.length)*i.size<=c'*i.size:=Cf _ Vj;rw[CW]at oc
    have od:G1.length*i.size+JX.length<=vs.toList.length:=by
     have h1:=CD oc hct;rw[<- hs]at h1;rw[Pz,CB];exact h1
    have KH:=run_storeCells_at (P:=P) B (G1.length*i.size) ik JX 0 vs w hw AdI iF;simp only[DF]at KH;obtain⟨x1,x2,x3,x4⟩:=L8 w B vs (vs.toList.take (G1.length*i.size)++JX++vs.toList.drop (G1.length*i.size+JX.length)).toArray ik hw;have H4:=Go.Ab.TU t t' ty e d i ht UR hi B 0 G1.length c' ⟨B2,o2,none⟩ xs.length c2 JX Pz Y0 Vj Acy
    obtain⟨m',k1,k2,k3,k4,k5⟩:=hr.ey hb (w':=w.setRow B (vs.toList.take (G1.length*i.size)++JX++vs.toList.drop (G1.length*i.size+JX.length)).toArray) (B':=B) (n':=G1.length+xs.length) (e:=i.size) (t':=tt) (XE:=ks++JX)
     (.inr (he.resolve_left AA)) AA (.inr ⟨ks,ho,hk,Fh _ _⟩) x1 (by rw[<- hs,Ci,KP _ _ _ od,CB]) (by rw[hvk];exact Fh _ _) (by rw[Bf,hR.len,Pz,CW])
     (λk hk _=>x2 k hk) (by rw[x3];exact Bd _) rfl rfl x4
    refine⟨_,_,m',H4,k1,k2,?_⟩;have:=VR.H6 (m:=m') b (G1++xs) B c' B (G1.length+xs.length) i.size tt k3 hn' AD (λ_=>⟨rfl,hct⟩) ((hRR.mono k1.le.K).dr hn' k4 (C4 _) (by simp;exact Vj));rw[Bf]at this;exact this
   .have y4:c'<G1.length+xs.length:=AA;have Mu:=growslice_fits (need:=G1.length+xs.length) (old:=c') (bytes:=i.bytes) y4 Nm
    have mf:∀j u,ks[j]?=some u->w.cell? ((⟨B,0,none⟩:EW).add j)=some u:=by
     intro j u hj;rw[Cz,CR];exact eh hr hk hj
    have H4:=Go.Ab.TT (w:=w) t t' ty e d i z ht UR hi hz ⟨B,0,none⟩ G1.length c' ks hR.len mf ⟨B2,o2,none⟩ xs.length c2 JX Pz Y0 y4 AA Mu;have hge:=Fe w (G1.length+xs.length) c' e;obtain⟨W,hW⟩:∃W,W=w.drew.alloc (.cells (ks.toArray++JX.toArray++CK z.cells (Cj w (G1.length+xs.length) c' e-(G1.length+xs.length))) e):=⟨_,rfl⟩
    have Ja:W.heap[w.heap.size]?=some (.cells (ks.toArray++JX.toArray++CK z.cells (Cj w (G1.length+xs.length) c' e-(G1.length+xs.length))) e (0,0)):=by rw[hW];exact EK w.drew _
    have N1:(ks.toArray++JX.toArray++CK z.cells (Cj w (G1.length+xs.length) c' e-(G1.length+xs.length))).size=Cj w (G1.length+xs.length) c' e*i.size:=by
     rw[DH,DH,aa,vo,Ci,Ci,hR.len,Pz,<- CW,<- CW];congr 1;omega
    obtain⟨m',k1,k2,k3,k4,k5⟩:=hr.ey hb (w':=W) (B':=w.heap.size) (n':=G1.length+xs.length) (e:=i.size) (t':=Cj w (G1.length+xs.length) c' e*i.size) (XE:=ks++JX)
     (.inr (he.resolve_left AA)) AA (.inl (Bd _)) Ja N1 AD (by rw[Bf,hR.len,Pz,CW])
     (λB _ hB=>by rw[hW];exact DE w.drew _ B hB) (by rw[hW];simp) AdG AdG Adx
    refine⟨_,W,m',by rw[hW];exact H4,k1,k2,?_⟩;have:=VR.H6 (m:=m') b (G1++xs) w.heap.size (Cj w (G1.length+xs.length) c' e) w.heap.size (G1.length+xs.length) i.size _ k3 hn' AD (λ_=>⟨rfl,Bd _⟩) ((hRR.mono k1.le.K).dr hn' k4 (C4 _) (by simp;exact hge));rw[Bf]at this;exact this
def Rows.oU{K:KK}{e:Nat}:∀{G1:List (List PV)} {ks:LV},Rows K e G1 ks->Sv K G1.flatten ks
 |[],ks,h=>by
  have:=h.len;simp at this;subst this;exact .nil
 |r::rs,ks,h=>by
  have II:=h.len;rw[CG,CW,Eu]at II;have h0:=h.rel 0 r rfl;simp only[Nat.zero_mul,Cv]at h0
  have hr:Rows K e rs (ks.drop e):=⟨by rw[List.length_drop];omega,λi Gy hi=>h.Gy (i+1) Gy AcZ,λi Gy hi=>by
   have:=h.rel (i+1) Gy AcZ;rw[D6,show e+i*e=(i+1)*e by rw[CW,Eu,Ga]];exact this⟩
  rw[ET,<- CP e ks];exact h0.append hr.oU
def ABn(hr:IQ m h w){xs:List (List PV)}{sz:Nat}(Xa:∀Gy∈xs,Gy.length=sz)(Xm:0<sz){v2:Bc}(hx:DR m.K (.HC xs) v2)(h0:0<xs.length):
  ∃B2 o2 c2 JX,v2=.slice (some ⟨B2,o2,none⟩) xs.length c2/\Rows m.K sz xs JX/\(∀j u,JX[j]?=some u->w.cell? ((⟨B2,o2,none⟩:EW).add j)=some u)/\(∀u∈JX,u.oneCell'=true):=by
 cases hx with
 |none a c ha=>simp at h0
 |HC _ B2 o2 c2 sz2 ks2 Jr h02 Ro jI hr2 hd2=>
  have Uv:DR m.K (.HC xs) (.slice (some ⟨B2,o2,none⟩) xs.length c2):=.HC xs B2 o2 c2 sz2 ks2 Jr h02 Ro jI hr2 hd2;obtain⟨kx,q1,q2,q3,q4⟩:=tV Xa h02 Uv;rw[Jr]at q1;cases q1;refine⟨B2,o2,c2,_,rfl,q4,λj u hj=>?_,q4.one Xm⟩;rw[Cz];rw[Cr]at hj;exact AjX
def xq(hr:IQ m h w){t t' d e:Bm}{i:Ex}{z:Bc}(ht:P.underlying t=some (.slice e))(UR:P.underlying t'=some (.slice d))(hi:P.info? e=some i)(hz:i.zero=some z)(vo:z.cells.size=i.size)(Xm:0<i.size)
  {b:Nat}{xs:List (List PV)}(hb:h b=none)(Xa:∀Gy∈xs,Gy.length=i.size)(h0:0<xs.length)(Nm:xs.length*i.bytes<=140737488355328)(OK:xs.length<=140737488355328){v2:Bc}(hx:DR m.K (.HC xs) v2)(ty:Bm):
  ∃r w' m',(Ck #[t,t'] ty #[.slice none 0 0,v2]).run P w=.ok r w'/\Jt m w m' w'/\IQ m' (λx=>bif Bo x b then some (.LM i.size xs.flatten)else h x) w'/\VR m' (.LQ b xs.length) r:=by
 obtain⟨B2,o2,c2,JX,rfl,q4,Y0,iF⟩:=ABn hr Xa Xm hx h0;have Pz:JX.length=xs.length*i.size:=q4.len;have H4:=Go.Ab.ZW (w:=w) t t' ty e d i z ht UR hi hz ⟨B2,o2,none⟩ xs.length c2 JX Pz Y0 h0 AA AA;have hge:=Fe w xs.length 0 e
 have N1:(JX.toArray++CK z.cells (Cj w xs.length 0 e-xs.length)).size=Cj w xs.length 0 e*i.size:=by
  rw[DH,aa,vo,Ci,Pz,<- CW];congr 1;omega
 have WA:=q4.oU
 obtain⟨m',k1,k2,k3,k4⟩:=(IQ.drew hr).tB (e:=i.size) (cs:=xs.flatten) hb (JX.toArray++CK z.cells (Cj w xs.length 0 e-xs.length)) e (by
  have:(JX.toArray++CK z.cells (Cj w xs.length 0 e-xs.length)).toList.take xs.flatten.length=JX:=by
   rw[WA.length];simp
  rw[this];exact Sv.vrs WA)
 exact Ah0
def uL(hr:IQ m h w){t t' d e:Bm}{i:Ex}{z:Bc}(ht:P.underlying t=some (.slice e))(UR:P.underlying t'=some (.slice d))(hi:P.info? e=some i)(hz:i.zero=some z)(vo:z.cells.size=i.size)(Xm:0<i.size)
  {b b' n:Nat}{cs:List PV}{xs:List (List PV)}(hb:h b=some (.LM i.size cs))(Py:h b'=none)(hn:n*i.size<=cs.length)(Xa:∀Gy∈xs,Gy.length=i.size)
  (Nm:(n+xs.length)*i.bytes<=140737488355328)(OK:n+xs.length<=140737488355328){v v2:Bc}(hv:VR m (.LQ b n) v)(hx:DR m.K (.HC xs) v2)(ty:Bm):
  ∃r w' m',(Ck #[t,t'] ty #[v,v2]).run P w=.ok r w'/\Jt m w m' w'/\
   IQ m' (λx=>bif Bo x b' then some (.LM i.size (cs.take (n*i.size)++xs.flatten))else bif Bo x b then some .NY else h x) w'/\VR m' (.LQ b' (n+xs.length)) r:=by
 cases hv with
 |data _ _ hd=>cases hd
 |LQ _ _ B c hB hc Jw=>
  obtain⟨B0,vs,ik,g1,g2,g3,g4⟩:=hr.LM b i.size cs hb;rw[hB]at g1;cases g1;rw[g2]at Jw
  have RF:cs.length<=vs.toList.length:=by
   have:=g4.length;rw[C1]at this;omega
  have iD:b'≠b:=by rintro rfl;rw[hb]at Py;cases Py
  have NM:JT m (cs.take (n*i.size)) (vs.toList.take (n*i.size)):=by
   have:=g4.take (n*i.size);rw[List.take_take,Nat.min_eq_left hn]at this;exact this
  have ph:(vs.toList.take (n*i.size)).length=n*i.size:=by rw[C1];omega
  have mf:∀j u,(vs.toList.take (n*i.size))[j]?=some u->w.cell? ((⟨B,0,none⟩:EW).add j)=some u:=by
   intro j u hj;rw[Cz,CR,Db w B j vs ik (0,0) g3,<- Cq];rw[Cr]at hj;split at hj
   .exact hj
   .cases hj
  have AM4:∀{w':World} (Km:∀k,k≠B->w'.heap[k]?=w.heap[k]?) (N1:w'.heap.size=w.heap.size) (xX:w'.os=w.os) (fF:w'.output=w.output) (TL:∀a,w'.frozen? a=w.frozen? a) {qc:AV0} (Mi:qc.size=vs.size) (Qy:w'.heap[B]?=some (.cells qc ik (0,0)))
    (hc':JT m (cs.take (n*i.size)++xs.flatten) (qc.toList.take (cs.take (n*i.size)++xs.flatten).length)) (hle:n+xs.length<=c),
    ∃m',Jt m w m' w'/\IQ m' (λx=>bif Bo x b' then some (.LM i.size (cs.take (n*i.size)++xs.flatten))else bif Bo x b then some .NY else h x) w'/\VR m' (.LQ b' (n+xs.length)) (.slice (some ⟨B,0,none⟩) (n+xs.length) c):=by
   intro w' Km N1 xX fF TL qc Mi Qy hc' hle;obtain⟨e1,r1⟩:=hr.ACL hb hB (cs:=cs.take (n*i.size)++xs.flatten) (by rw[Mi];exact g2) Qy hc' Km N1 xX fF TL;have r2:=r1.AUY (b:=b) (o:=.LM i.size (cs.take (n*i.size)++xs.flatten)) (by simp[K7]) rfl
   obtain⟨m',l1,l2,l3,l4,l5,l6,l7,l8⟩:=r2.lay (b:=b') (B:=B) (e:=i.size) (t:=vs.size) (ob:=.LM i.size (cs.take (n*i.size)++xs.flatten)) Acn rfl (by rw[N1];exact hr.blt b B hB)
    (λx hx=>by
     simp only[K7];by_cases cc:x=b
     .rw[Ps cc]
     .rw[Ng cc];by_cases hd:h x=some .NY
      .rw[Ng cc];exact hd
      .exact Zq (hr.M3 x b B hx hB hd Ace) cc)
    (hr.bK b B hB Ace)
    (λm' hle MR MK=>⟨B,qc,ik,MR,by rw[MK,Mi],Qy,hc'.mono hle⟩)
   refine⟨m',⟨e1.le.trans l1,e1.size,λx B' hx=>?_,λx B' n' e' t'' hx=>?_,λB' ks hk=>?_,e1.Kv,e1.os,e1.output,e1.M4,l7⟩,l2.congr λx=>?_,.LQ _ _ _ _ l3 hle (by rw[l4];exact Jw)⟩
   .rcases l8 x B' hx with h1|rfl
    .exact .inl ⟨x,h1⟩
    .exact .inl ⟨b,hB⟩
   .rw[l6]at hx;exact .inl ⟨x,_,_,_,hx⟩
   .rw[l5]at hk;exact .inr (.inl hk)
   .simp only[K7];by_cases cc:x=b
    .simp only[Ps cc]
    .simp only[Ng cc]
  rcases Nat.eq_zero_or_pos xs.length with h0|h0
  .have hxs:xs=[]:=Dd.1 h0;subst hxs
   obtain⟨a,ca,rfl,ha⟩:∃a ca,v2=.slice a 0 ca/\(a=none->ca=0):=by
    cases hx with
    |none a ca ha=>exact⟨a,ca,rfl,ha⟩
    |HC _ _ _ _ _ _ _ hh=>simp at hh
   have hv2:FU a 0 ca=.slice none 0 0\/∃a' c',FU a 0 ca=.slice (some a') 0 c':=by
    cases a with
    |none=>rw[ha rfl];exact .inl rfl
    |some a=>exact .inr ⟨_,_,rfl⟩
   obtain⟨m',k1,k2,k3⟩:=AM4 (w':=w) (λ_ _=>rfl) rfl rfl rfl (λ_=>rfl) (qc:=vs) rfl g3 (by
    simp only[List.flatten_nil,CL];rw[NM.length,ph];exact NM) (by simpa using hc)
   exact⟨_,w,m',Go.Ab.PB t t' ty e i d ht UR hi _ _ _ _ rfl hc _ hv2 w,k1,k2,k3⟩
  obtain⟨B2,o2,c2,JX,rfl,q4,Y0,iF⟩:=ABn hr Xa Xm hx h0;have Pz:JX.length=xs.length*i.size:=q4.len;have WA:=q4.oU;have ATa:xs.flatten.length=xs.length*i.size:=by rw[WA.length,Pz]
  have htl:(cs.take (n*i.size)++xs.flatten).length=n*i.size+xs.length*i.size:=by rw[Bf,NM.length,ph,ATa]
  by_cases Vj:n+xs.length<=c
  .have oc:(n+xs.length)*i.size<=c*i.size:=Cf _ Vj;rw[CW]at oc
   have od:n*i.size+JX.length<=vs.toList.length:=by
    have h5:c*i.size<=vs.size:=Jw;rw[Pz,CB];exact CD oc h5
   have KH:=run_storeCells_at (P:=P) B (n*i.size) ik JX 0 vs w g3 AdI iF;simp only[DF]at KH;obtain⟨x1,x2,x3,x4⟩:=L8 w B vs (vs.toList.take (n*i.size)++JX++vs.toList.drop (n*i.size+JX.length)).toArray ik g3;have H4:=Go.Ab.TU t t' ty e d i ht UR hi B 0 n c ⟨B2,o2,none⟩ xs.length c2 JX Pz Y0 Vj Acy
   obtain⟨m',k1,k2,k3⟩:=AM4 (w':=w.setRow B (vs.toList.take (n*i.size)++JX++vs.toList.drop (n*i.size+JX.length)).toArray) (λk hk=>x2 k hk) x3 rfl rfl x4
    (qc:=(vs.toList.take (n*i.size)++JX++vs.toList.drop (n*i.size+JX.length)).toArray) (by rw[Ci,KP _ _ _ od,CB]) x1 (by
     rw[htl,CN,<- CN,<- Pz,List.take_left' (by rw[Bf,ph])];exact NM.append (Sv.vrs WA)) Vj
   exact⟨_,_,m',H4,k1,k2,k3⟩
  .have y4:c<n+xs.length:=AA;have Mu:=growslice_fits (need:=n+xs.length) (old:=c) (bytes:=i.bytes) y4 Nm;have H4:=Go.Ab.TT (w:=w) t t' ty e d i z ht UR hi hz ⟨B,0,none⟩ n c (vs.toList.take (n*i.size)) ph mf ⟨B2,o2,none⟩ xs.length c2 JX Pz Y0 y4 AA Mu;have hge:=Fe w (n+xs.length) c e
   have N1:((vs.toList.take (n*i.size)).toArray++JX.toArray++CK z.cells (Cj w (n+xs.length) c e-(n+xs.length))).size=Cj w (n+xs.length) c e*i.size:=by
    rw[DH,DH,aa,vo,Ci,Ci,ph,Pz,<- CW,<- CW];congr 1;omega
   obtain⟨m',k1,k2,k3,k4⟩:=(IQ.drew (hr.AUY hb rfl)).tB (b:=b') (e:=i.size) (cs:=cs.take (n*i.size)++xs.flatten) Acn ((vs.toList.take (n*i.size)).toArray++JX.toArray++CK z.cells (Cj w (n+xs.length) c e-(n+xs.length))) e (by
    have:((vs.toList.take (n*i.size)).toArray++JX.toArray++CK z.cells (Cj w (n+xs.length) c e-(n+xs.length))).toList.take (cs.take (n*i.size)++xs.flatten).length=vs.toList.take (n*i.size)++JX:=by
     rw[htl,<- Pz];simp only[Array.toList_append];rw[List.take_left' (by rw[Bf,ph])]
    rw[this];exact NM.append (Sv.vrs WA))
   exact Ah0
end
end
section
open Go.Ab (Fw and_true)
section
variable{P:Program} {m:J} {h:Nat->Option Obj} {w:World}
def AEq(K:KK)(w:World):Prop:=∀B ks,K B=some ks->∃vs ty,w.heap[B]?=some (.cells vs ty (0,0))/\ks<+:vs.toList
inductive Qa (K:KK) (w:World):List Nat->List (List PV)->Prop
 |nil:Qa K w [] []
 |cons (B:Nat) (cs:List PV) (Bs:List Nat) (Xi:List (List PV)) (vs:Array Bc) (ty:Bm):K B=none->w.heap[B]?=some (.cells vs ty (0,0))->Sv K cs vs.toList->Qa K w Bs Xi->Qa K w (B::Bs) (cs::Xi)
inductive AR (K:KK) (Bs:List Nat):PV->Bc->Prop
 |data (a:PV) (v:Bc):DR K a v->AR K Bs a v
 |agg (l:List PV) (l':List Bc):Sv K l l'->AR K Bs (.agg l) (.agg l'.toArray)
 |G5 (i B:Nat):Bs[i]?=some B->AR K Bs (.G5 i 0) (.pointer (some ⟨B,0,none⟩))
inductive ARs (K:KK) (Bs:List Nat):List PV->List Bc->Prop
 |nil:ARs K Bs [] []
 |cons (a:PV) (v:Bc) (l:List PV) (l':List Bc):AR K Bs a v->ARs K Bs l l'->ARs K Bs (a::l) (v::l')
inductive R1 (K:KK):PV->Bc->Prop
 |data (a:PV) (v:Bc):DR K a v->R1 K a v
 |agg (l:List PV) (l':List Bc):Sv K l l'->R1 K (.agg l) (.agg l'.toArray)
inductive R1s (K:KK):List PV->List Bc->Prop
 |nil:R1s K [] []
 |cons (a:PV) (v:Bc) (l:List PV) (l':List Bc):R1 K a v->R1s K l l'->R1s K (a::l) (v::l')
inductive RR (K:KK) (w:World) (Iw:Nat):PV->Bc->Prop
 |one (a:PV) (v:Bc):R1 K a v->RR K w Iw a v
 |tuple (l:List PV) (l':List Bc):R1s K l l'->RR K w Iw (.tuple l) (.tuple l'.toArray)
 |tM (e:Nat):RR K w Iw (.H6 e []) (.slice none 0 0)
 |Hm (G1:List (List PV)) (B e c:Nat) (ks:List Bc) (vs:Array Bc) (ty:Bm):Iw<=B->K B=some ks->Rows K e G1 ks->0<G1.length->G1.length<=c->w.heap[B]?=some (.cells vs ty (0,0))->c*e<=vs.size->
  RR K w Iw (.H6 e G1) (.slice (some ⟨B,0,none⟩) G1.length c)
structure xZ (K:KK) (w:World) (Bs:List Nat) (r:PV) (Hs:List (List PV)) (K':KK) (v:Bc) (w':World):Prop where
 le:bB K K'
 an:AEq K' w'
 old:∀B ks,K' B=some ks->B<w.heap.size->K B=some ks
 IC:Qa K' w' Bs Hs
 size:w.heap.size<=w'.heap.size
 Kv:∀B,B<w.heap.size->B∉Bs->w'.heap[B]?=w.heap[B]?
 os:w'.os=w.os
 output:w'.output=w.output
 M4:∀a:EW,a.block<w.heap.size->w'.frozen? a=w.frozen? a
 val:RR K' w' w.heap.size r v
def PC(P:Cc)(f:CE)(args:List PV)(IC:List (List PV))(r:PV)(Hs:List (List PV)):Prop:=
 ∀(K:KK) (w:World) (Bs:LN) (HW:LV),AEq K w->Qa K w Bs IC->Bs.Nodup->ARs K Bs args HW->
  E7 Cy 0 P f HW.toArray w λe w'=>∃K' v,e=.returned v/\xZ K w Bs r Hs K' v w'
def PV.qx:PV->Option PV
 | .agg l=>match KR l with
  |some k=>some (.agg k)
  |none=>none
 |v=>v.data
def Js:List PV->Nat->Option (List PV×LN)
 |[],_=>some ([],[])
 | .G5 b o::r,k=>bif Bo o 0 then(match Js r (k+1)with
   |some (as,bs)=>some (.G5 k 0::as,b::bs)
   |none=>none)else none
 |v::r,k=>match v.qx with
  |some x=>match Js r k with
   |some (as,bs)=>some (x::as,bs)
   |none=>none
  |none=>none
def HZ(st:St):LN->Option (List (List PV))
 |[]=>some []
 |b::r=>match st.heap b with
  |some (.box cs)=>match KR cs with
   |some k=>match HZ st r with
    |some l=>some (k::l)
    |none=>none
   |none=>none
  |_=>none
def IF(st:St):LN->List (List PV)->St
 |b::bs,cs::Xi=>IF (st.set b (.box cs)) bs Xi
 |_,_=>st
def JV(r:PV)(st:St):PV×St:=match r with
 | .H6 e G1=>(.H6 st.next G1,st.new (.Hm G1.length e))
 |v=>(v,st)
def Mq:LN->Bool
 |[]=>true
 |b::r=> !r.contains b&&Mq r
structure kK (P:Cc) (f:CE) (vs:List PV) (st:St) (v:PV) (IK:St) (bs:List Nat):Prop where
 mk::
 ex:∃args IC r Hs,Js vs 0=some (args,bs)/\Mq bs=true/\HZ st bs=some IC/\Hs.length=bs.length/\PC P f args IC r Hs/\(v,IK)=JV r (IF st bs Hs)
def T0:∀{l:LN},Mq l=true->l.Nodup
 |[],_=>List.nodup_nil
 |b::r,h=>by
  simp only[Mq,Bk,DO,List.contains_eq_mem,decide_eq_false_iff_not]at h;exact CY.2 ⟨h.1,T0 h.2⟩
def AEx{a x:PV}{v:Bc}(hv:VR m a v)(h:a.qx=some x)(Bs:LN):AR m.K Bs x v:=by unfold PV.qx at h;exact Af2
def ew(hr:IQ m h w){st:St}(KH:st.heap=h):∀{bs:LN} {IC:List (List PV)},HZ st bs=some IC->
  ∃Bs:LN,Qa m.K w Bs IC/\Bs.length=bs.length/\∀(i b:Nat),bs[i]?=some b->∃B:Nat,Bs[i]?=some B/\m.box b=some B
 |[],IC,h=>by simp[HZ]at h;subst h;exact⟨[],.nil,rfl,λi b hb=>by simp at hb⟩
 |b::bs,IC,hg=>by
  simp only[HZ]at hg;split at hg
  .rename_i cs hb;split at hg
   .rename_i k hk;split at hg
    .rename_i l hl;simp at hg;subst hg;obtain⟨Bs,h1,h2,h3⟩:=ew hr KH hl;rw[KH]at hb;obtain⟨B,vs,ty,g1,g2,g3⟩:=hr.box b cs hb;refine⟨B::Bs,.cons B k Bs l vs ty (hr.bK b B g1 Ace) g2 (g3.UJ hk) h1,by simp[h2],λi b' Py=>?_⟩;cases i with
     |zero=>simp at Py;subst Py;exact⟨B,rfl,g1⟩
     |succ i=>simp at Py;simpa using h3 i b' Py
    .cases hg
   .cases hg
  .cases hg
def dP{bs0 Bs:LN}(hB:∀(i b:Nat),bs0[i]?=some b->∃B:Nat,Bs[i]?=some B/\m.box b=some B):∀{vs:List PV} {k:Nat} {args:List PV} {bs:LN} {HW:LV},Js vs k=some (args,bs)->JT m vs HW->
  (∀i b,bs[i]?=some b->bs0[k+i]?=some b)->ARs m.K Bs args HW
 |[],k,args,bs,HW,h,hv,_=>by
  simp[Js]at h;obtain⟨rfl,rfl⟩:=h;cases hv;exact .nil
 |v::r,k,args,bs,HW,h,hv,hbs=>by
  cases hv with
  |cons _ u _ l' h1 h2=>
   have gen:∀x,v.qx=some x->(match Js r k with
     |some (as,bs)=>some (x::as,bs)
     |none=>none)=some (args,bs)->ARs m.K Bs args (u::l'):=by
    intro x hx h;split at h
    .rename_i as bs' Mf;simp at h;obtain⟨rfl,rfl⟩:=h;exact .cons _ _ _ _ (AEx h1 hx Bs) (dP hB Mf h2 hbs)
    .cases h
   cases v with
   |G5 b o=>
    simp only[Js]at h;cases ho:Bo o 0 with
    |false=>simp[ho]at h
    |true=>
     simp only[ho,cond_true]at h;have ho:=Bu ho;subst ho;split at h
     .rename_i as bs' Mf;simp at h;obtain⟨rfl,rfl⟩:=h;have hk:=hbs 0 b rfl;rw[DF]at hk;obtain⟨B,g1,g2⟩:=hB k b hk;cases h1 with
      |data _ _ hd=>cases hd
      |G5 _ _ B' hm=>
       rw[g2]at hm;cases hm
       exact .cons _ _ _ _ (.G5 k B g1) (dP hB Mf h2 λi b' Py=>by
        have:=hbs (i+1) b' (by simpa using Py);rw[show k+1+i=k+(i+1) by omega];exact this)
     .cases h
   |_=>
    simp only[Js]at h;split at h
    .rename_i x hx;exact gen x hx h
    .cases h
def Qa.get{K:KK}:∀{Bs:LN} {Xi:List (List PV)} {i B:Nat} {cs:List PV},Qa K w Bs Xi->Bs[i]?=some B->Xi[i]?=some cs->K B=none/\∃vs ty,w.heap[B]?=some (.cells vs ty (0,0))/\Sv K cs vs.toList
 |_,_,i,B,cs,.nil,h1,_=>by simp at h1
 |_,_,i,B,cs,.cons B' NL Bs Xi vs ty hK hw hd hr,h1,h2=>by
  cases i with
  |zero=>simp at h1 h2;subst h1 h2;exact⟨hK,vs,ty,hw,hd⟩
  |succ i=>simp at h1 h2;exact hr.get h1 h2
def Qa.length{K:KK}:∀{Bs:LN} {Xi:List (List PV)},Qa K w Bs Xi->Bs.length=Xi.length
 |_,_,.nil=>rfl
 |_,_,.cons _ _ _ _ _ _ _ _ _ hr=>by simp[hr.length]
def LC:∀{bs:LN} {Xi:List (List PV)} {st:St},bs.Nodup->Xi.length=bs.length->∀b,(IF st bs Xi).heap b=(match bs.idxOf? b with
  |some i=>(Xi[i]?).map Obj.box
  |none=>st.heap b)
 |[],Xi,st,_,_,b=>by simp[IF]
 |b0::bs,[],st,_,hl,b=>by simp at hl
 |b0::bs,cs::Xi,st,hn,hl,b=>by
  obtain⟨Yz,fE⟩:=CY.1 hn;simp only[IF];rw[LC fE AZ];simp only[List.idxOf?_cons,St.set];by_cases c:b=b0
  .subst c
   have:bs.idxOf? b=none:=by
    rw[D8];exact Yz
   rw[this];simp
  .have c':(b0==b)=false:=by simpa using ER c
   rw[c'];simp only[Ch,if_false];cases hi:bs.idxOf? b with
   |none=>simp[K7,c]
   |some i=>simp
def Mg:∀{bs:LN} {Xi:List (List PV)} {st:St},(IF st bs Xi).next=st.next
 |[],_,_=>rfl
 |_::_,[],_=>rfl
 |_::bs,_::Xi,st=>by simp only[IF];rw[Mg];rfl
def Rn{st:St}:∀{bs:LN} {l:List (List PV)},HZ st bs=some l->∀b,b∈bs->∃cs,st.heap b=some (.box cs)
 |[],_,_,b,hb=>by simp at hb
 |b0::bs,l,h,b,hb=>by
  simp only[HZ]at h;split at h
  .rename_i cs Jw;split at h
   .split at h
    .rename_i l' hl;rcases Bz.1 hb with rfl|hb
     .exact⟨cs,Jw⟩
     .exact Rn hl b hb
    .cases h
   .cases h
  .cases h
def IQ.AWD(hr:IQ m h w){bs Bs:LN}{Hs:List (List PV)}{K':KK}{v:Bc}{w':World}{r:PV}(hc:xZ m.K w Bs r Hs K' v w')(hB:∀(i b:Nat),bs[i]?=some b->∃B:Nat,Bs[i]?=some B/\m.box b=some B)(hl:Bs.length=bs.length)(pd:∀b,b∈bs->∃cs,h b=some (.box cs))
  {st IK:St}(KH:st.heap=h)(AX4:IK=IF st bs Hs)(L6:bs.Nodup)(RF:Hs.length=bs.length):Jt m w {m with K:=K'} w'/\IQ {m with K:=K'} IK.heap w':=by
 subst KH AX4;have hle:m.le {m with K:=K'}:=⟨λ_ _ h=>h,hc.le,λb B n e t h=>⟨B,n,t,h,Bd _,λ_=>⟨rfl,rfl⟩⟩,λ_ _ _=>rfl⟩
 have APQ:∀b,b∈bs->st.heap b≠some .NY:=λb hb=>by
  obtain⟨cs,h1⟩:=pd b hb;rw[h1];exact Na rfl
 have hBs:∀B,B∈Bs->∃b,b∈bs/\m.box b=some B:=by
  intro B hB';obtain⟨i,hi⟩:=FT hB';have H5:=(Bn.1 hi).1;obtain⟨b,hb⟩:∃b,bs[i]?=some b:=⟨bs[i]' AA,by rw[BZ]⟩
  obtain⟨B',h1,h2⟩:=hB i b hb;rw[hi]at h1;cases h1;exact⟨b,Bt hb,h2⟩
 have hKo:∀b B n e t,m.Hm b=some (B,n,e,t)->B∉Bs:=by
  intro b B n e t ho Kk;obtain⟨b',hbm,Py⟩:=hBs B Kk;obtain⟨n',e',hh⟩:=hr.TR b _ ho;rcases hr.Hm b n' e' hh with⟨_,h1⟩|⟨_,B2,t2,h1,ks,h2,_⟩
  .rw[ho]at h1;cases h1
  .rw[ho]at h1;cases h1;rw[hr.bK b' _ Py (APQ b' hbm)]at h2;cases h2
 have Vh:∀b B,m.box b=some B->st.heap b≠some .NY->K' B=none:=by
  intro b B hb hd;cases hk:K' B with
  |none=>rfl
  |some ks=>
   have:=hc.old B ks hk (hr.ZJ hb);rw[hr.bK b B hb hd]at this;cases this
 have pW:∀b,(IF st bs Hs).heap b≠some .NY->st.heap b≠some .NY:=λb hd hh=>by
  rw[LC L6 RF]at hd;cases hi:bs.idxOf? b with
  |none=>rw[hi]at hd;exact hd hh
  |some i=>
   have tv:b∈bs:=by
    have:=C0.1 Abi;obtain⟨H5,heq,_⟩:=this;have:bs[i]=b:=by simpa using heq
    rw[<- this];exact Bl _
   exact APQ b tv hh
 have AO3:∀B o,m.Lj B=some o->B∉Bs:=by
  intro B o ho Kk;obtain⟨b',hbm,Py⟩:=hBs B Kk;obtain⟨cs,Jw⟩:=pd b' hbm;obtain⟨B2,vs,ty,h1,h2,_⟩:=hr.box b' cs Jw;rw[Py]at h1;cases h1;obtain⟨h3,h4,_⟩:=hr.Lj B o ho;rw[h2]at h3;cases h3;cases h4
 refine⟨⟨hle,hc.size,λb _ h=> .inl ⟨b,h⟩,λb B n e t h=> .inl ⟨b,n,e,t,h⟩,λB ks hk=>?_,λB H5 hn=>?_,hc.os,hc.output,hc.M4,rfl⟩,⟨λb o hb=>?_,λB o ho=>?_,λb n e hb=>?_,hc.an,λb B hb=>?_,λb x hb=>?_,λb b' B h1 h2 d d'=>hr.M3 b b' B h1 h2 (pW b d) (pW b' d'),hr.Nz,λb B hb d=>Vh b B hb (pW b d),λb B hb=>Cw (hr.blt b B hb) hc.size⟩⟩
 .by_cases c:B<w.heap.size
  .exact .inr (.inl (hc.old B ks hk c))
  .exact AkX
 .refine hc.Kv B H5 λKk=>hn ?_;obtain⟨b,_,hb⟩:=hBs B Kk;exact .inl ⟨b,hb⟩
 .rw[LC L6 RF]at hb;cases hi:bs.idxOf? b with
  |none=>
   rw[hi]at hb;refine(hr.PX b o hb).Ir hle λhd B h1=>hc.Kv B (hr.ZJ h1) λKk=>?_;obtain⟨b',hm',Py⟩:=hBs B Kk;have MK:st.heap b=some o:=hb;have:=hr.M3 b b' B h1 Py (by rw[MK];exact Na hd) (APQ b' hm');subst this;rw[D8]at hi;exact hi hm'
  |some i=>
   rw[hi]at hb;simp only[E3]at hb;obtain⟨NL,h1,rfl⟩:=hb
   have tv:bs[i]?=some b:=by
    exact AgK
   obtain⟨B,g1,g2⟩:=hB i b tv;obtain⟨_,vs,ty,k1,k2⟩:=hc.IC.get g1 h1;exact⟨B,vs,ty,g2,k1,Sv.vrs (m:={m with K:=K'}) k2⟩
 .obtain⟨h1,h2⟩:=hr.Lj B o ho;exact⟨(hc.Kv B (B4.1 h1).1 (AO3 B o ho)).trans h1,h2⟩
 .have Py:st.heap b=some (.Hm n e):=by
   rw[LC L6 RF]at hb;cases hi:bs.idxOf? b with
   |none=>rw[hi]at hb;exact hb
   |some i=>rw[hi]at hb;simp at hb
  rcases hr.Hm b n e Py with h1|⟨h0,B,t,h1,ks,h2,h3,vs,ty,h4,h5⟩
  .exact AiL
  .obtain⟨XE,g1,g2⟩:=hc.le B ks h2;have:=hc.old B XE g1 (hr.XG h1);rw[h2]at this;cases this;exact .inr ⟨h0,B,t,h1,ks,g1,h3,vs,ty,by rw[hc.Kv B (hr.XG h1) (hKo b B n e t h1)];exact h4,h5⟩
 .obtain⟨cs,Jw⟩:=hr.Se b B hb;rw[LC L6 RF];cases hi:bs.idxOf? b with
  |none=>exact⟨cs,Jw⟩
  |some i=>
   have H5:i<bs.length:=by
    have:=C0.1 Abi;exact this.1
   exact⟨.box (Hs[i]' AA),by simp[BZ (show i<Hs.length by omega)],rfl⟩
 .obtain⟨n,e,Jw⟩:=hr.TR b x hb;refine⟨n,e,?_⟩;rw[LC L6 RF];cases hi:bs.idxOf? b with
  |none=>exact Jw
  |some i=>
   have tv:bs[i]?=some b:=by
    exact AgK
   obtain⟨B,g1,g2⟩:=hB i b tv;obtain⟨o,SG,RT⟩:=hr.Se b B g2;rw[Jw]at SG;cases SG;cases RT
def IQ.ARb(hr:IQ m h w){b:Nat}(hb:h b=none){B n e t:Nat}{ks:LV}{vs:AV0}{ty:Bm}(hk:m.K B=some ks)(hn:0<n)(hl:ks.length=n*e)(hw:w.heap[B]?=some (.cells vs ty (0,0)))(ht:vs.size=t)(hi:¬m.iI B):
  m.le {m with Hm:=λx=>if x=b then some (B,n,e,t)else m.Hm x}/\IQ {m with Hm:=λx=>if x=b then some (B,n,e,t)else m.Hm x} (λx=>bif Bo x b then some (.Hm n e)else h x) w/\
   (∀x B' n' e' t',(if x=b then some (B,n,e,t)else m.Hm x)=some (B',n',e',t')->m.Hm x=some (B',n',e',t')\/B'=B):=by
 have hle:m.le {m with Hm:=λx=>if x=b then some (B,n,e,t)else m.Hm x}:=⟨λ_ _ h=>h,bB.refl _,λx B' n' e' t' hx=>⟨B',n',t',by
  show(if _ then _ else _)=_;rw[Ng (by rintro rfl;rw[hr.mA hb]at hx;cases hx)];exact hx,Bd _,λ_=>⟨rfl,rfl⟩⟩,λ_ _ _=>rfl⟩
 have MT:∀x B',m.box x=some B'->x≠b:=by rintro x B' hx rfl;rw[hr.T2 hb]at hx;cases hx
 have Mz:∀x y,(if x=b then some (B,n,e,t)else m.Hm x)=some y->(x=b/\y=(B,n,e,t))\/(x≠b/\m.Hm x=some y):=by
  intro x y hx;by_cases c:x=b
  .rw[Ps c]at hx;cases hx;exact .inl ⟨c,rfl⟩
  .rw[Ng c]at hx;exact .inr ⟨c,hx⟩
 refine⟨hle,IQ.congr (h:=λx=>if x=b then some (.Hm n e)else h x) ⟨λx o hx=>?_,hr.Lj,λx k e' hx=>?_,hr.an,λx B' hx=>?_,λx y hx=>?_,λx x' B' hx US d d'=>?_,λx x' B' n1 e1 t1 n2 e2 t2 hx US=>?_,λx B' hx d=>?_,hr.blt⟩ λx=>K7 ..,λx B' n' e' t' hx=>?_⟩
 .by_cases c:x=b
  .exact Ahi
  .exact Ajm
 .by_cases c:x=b
  .rw[Ps c]at hx;cases hx;exact .inr ⟨hn,B,t,by show(if _ then _ else _)=_;rw[Ps c],ks,hk,hl,vs,ty,hw,ht⟩
  .rw[Ng c]at hx;rcases hr.Hm x k e' hx with⟨h1,h2⟩|⟨h0,B',t',h1,h2⟩
   .exact Ai8
   .exact .inr ⟨h0,B',t',by show(if _ then _ else _)=_;rw[Ng c];exact h1,h2⟩
 .obtain⟨cs,Jw⟩:=hr.Se x B' hx;exact⟨cs,by rw[Ng (MT x B' hx)];exact Jw⟩
 .rcases Mz x y hx with⟨c,_⟩|⟨c,h1⟩
  .exact⟨n,e,by rw[Ps c]⟩
  .exact AjF
 .rw[Ng (MT x B' hx)]at d;rw[Ng (MT x' B' US)]at d';exact hr.M3 x x' B' hx US d d'
 .rcases Mz x _ hx with⟨c,h1⟩|⟨c,h1⟩<;>rcases Mz x' _ US with⟨c',h2⟩|⟨c',h2⟩
  .rw[c,c']
  .cases h1;exact Zq (.inr ⟨x',_,_,_,h2⟩) hi
  .cases h2;exact Zq (.inr ⟨x,_,_,_,h1⟩) hi
  .exact hr.Nz x x' B' _ _ _ _ _ _ h1 h2
 .rw[Ng (MT x B' hx)]at d;exact hr.bK x B' hx d
 .rcases Mz x _ hx with⟨_,h1⟩|⟨_,h1⟩
  .cases h1;exact .inr rfl
  .exact AiL
end
end
end Go.Vi
