/- Part of the proof of CauseChecks (own work, made small). -/
import Derived.Test.YtlonlfiaclacdaaGreatA2
set_option linter.all false
set_option maxRecDepth 100000
open Array renaming foldl_toList->Eh,getElem?_eq_getElem->CQ,getElem?_eq_some_iff->CU,getElem?_toList->Cz,length_toList->Cp,range->Ea,size_append->DV
open Bool renaming and_eq_true->Bo,false_eq_true->Cw,false_or->Di,not_eq_true'->Dl,or_eq_false_iff->C6
open Go renaming Obj->EE,heap_alloc_new->EG,CallsIn->Er,FuncId->B9,Operand->Cy,Program->Cf,TypeId->Bz,TypeInfo->Eg,Value->Bk,asIntOf->Ep,cell_of_row->Df,eqGuard->D0,grownCap->Cx,grownCap_ge->E9,run_storeCells_at->EA,run_underlying->Bv
open Go.Addr renaming add_lit->DC
open Go.Builtin renaming append_->C0,len_->Ew,zeroCells->Ci
open Go.Fence renaming wide->DF
open Go.Instr renaming buildSlice->Ds,field->FF,fieldAt->FQ,fill->Et,indexAt->EU,loadAt->Dr,makeSlice->Ed,slice->Fs,sliceAt->EV,sureAddr->DJ
open Go.Op renaming equal->EF,equalIn->EO,maxDepth->El
open Go.Sem renaming run_bind->B6
open Go.Value renaming slice->Eb
open Int renaming toNat_natCast->Cj
open List renaming all_cons->Co,all_eq_true->CY,append_assoc->B3,append_nil->CG,drop_append->Fh,drop_drop->Dp,drop_zero->CA,ext_getElem?->DK,findIdx?_eq_some_iff_getElem->Cq,flatten_cons->DU,getElem?_append_left->CL,getElem?_append_right->CT,getElem?_drop->Cu,getElem?_eq_getElem->Bc,getElem?_eq_none->Ck,getElem?_eq_some_iff->Bp,getElem?_of_mem->EZ,getElem?_take->C1,getElem_mem->Bl,idxOf?->Ec,idxOf?_eq_none_iff->Db,length_append->Bd,length_cons->CE,length_take->C2,mem_cons->Bm,mem_cons_of_mem->Bq,mem_cons_self->Bw,mem_of_getElem?->Bn,nil_append->CC,nodup_cons->CP,prefix_append->Ei,prefix_refl->Cs,replicate->DA,size_toArray->C9,take_append_drop->CX,take_left'->D7,take_length->DG,take_of_length_le->Cc
open Nat renaming add_assoc->DY,add_mul->Ce,add_zero->DN,beq->Br,eq_of_beq_eq_true->B5,le_refl->Bg,le_trans->CN,lt_of_lt_of_le->Cv,min_eq_left->C7,mul_comm->Fa,mul_le_mul_right->DD,one_mul->Dn,zero_add->CZ,zero_le->DO,zero_mul->Eu
open Option renaming isSome_iff_exists->DH,map_eq_some_iff->EH
open Option.some renaming injEq->Bh
open Prod.mk renaming injEq->Ch
namespace Go.Vi
section
open Go.Ab (Rh O7 SB LH R7)
inductive PV where
 |SQ
 |int (k:IntKind) (n:Int)
 |bool (b:Bool)
 |Gh (s:ByteArray)
 |nil
 |GV (GK:List (List PV))
 |HL (b:Nat) (GK:List (List PV))
 |ME (b n:Nat)
 |agg (l:List PV)
 |tuple (l:List PV)
 |GN (b o:Nat)
 |MP (GG:List PV) (o:Nat)
 |PY
 |map (b:Nat)
 |Za
 |fn (f:B9) (VW:List PV)
 |nfn
 |yield (L:Nat)
 |iface (t:Bz) (v:PV)
 |TL
abbrev PV.undef:PV:=.tuple []
inductive I1 where
 |i (n:Int)
 |s (b:ByteArray)
def I1.is:I1->I1->Bool
 | .i a,.i b=>a==b
 | .s a,.s b=>a.toList==b.toList
 |_,_=>false
def I1.NM:I1->I1->Bool
 | .i _,.i _=>true
 | .s _,.s _=>true
 |_,_=>false
def I1.val:I1->Bk
 | .i n=> .int .i64 n
 | .s b=> .string b
abbrev ML:=List (I1×Int)
def IQ(k:I1):ML->Option Int
 |[]=>none
 |(k',v)::r=>bif k.is k' then some v else IQ k r
def Mv(k:I1)(v:Int):ML->ML
 |[]=>[(k,v)]
 |(k',v')::r=>bif k.is k' then(k,v)::r else(k',v')::Mv k v r
def SD(k:I1):ML->ML
 |[]=>[]
 |(k',v')::r=>bif k.is k' then r else(k',v')::SD k r
inductive Obj where
 |box (cells:List PV)
 |HE (n e:Nat)
 |K7 (e:Nat) (cells:List PV)
 |map (l:ML)
 |KV
def Obj.rr:Obj->Bool
 | .HE _ _=>true
 |_=>false
def Obj.Uu:Obj->Bool
 | .KV=>true
 |_=>false
structure St where
 heap:Nat->Option Obj
 next:Nat
abbrev Fr:=Nat->PV
def Fr.set(fr:Fr)(d:Nat)(v:PV):Fr:=λt=>bif Br t d then v else fr t
def St.set(st:St)(b:Nat)(o:Obj):St:={st with heap:=λx=>bif Br x b then some o else st.heap x}
def St.new(st:St)(o:Obj):St:={heap:=λx=>bif Br x st.next then some o else st.heap x,next:=st.next+1}
def PV.cells:PV->List PV
 | .agg l=>l
 |v=>[v]
def PV.data:PV->Option PV
 | .int k n=>some (.int k n)
 | .bool b=>some (.bool b)
 | .Gh s=>some (.Gh s)
 | .nil=>some (.GV [])
 | .GV GK=>some (.GV GK)
 | .HL _ GK=>some (.GV GK)
 |_=>none
def JC:List PV->Option (List PV)
 |[]=>some []
 |v::r=>match v.data with
  |some x=>match JC r with
   |some l=>some (x::l)
   |none=>none
  |none=>none
def PV.mT:PV->Option PV
 | .nil=>some .nil
 |v=>v.data
def TG:List PV->Option (List PV)
 |[]=>some []
 |v::r=>match v.mT with
  |some x=>match TG r with
   |some l=>some (x::l)
   |none=>none
  |none=>none
def ud(N:Bool)(l:List PV):Option (List PV):=bif N then TG l else JC l
def PV.GK:PV->Option (List (List PV))
 | .nil=>some []
 | .GV GK=>some GK
 | .HL _ GK=>some GK
 |_=>none
def PV.IT:PV->Bool
 | .agg _| .tuple _| .SQ=>false
 |_=>true
def PV.tE:PV->Bool
 | .SQ=>false
 |_=>true
inductive JJ where
 |val (v:PV)
 |load (b:Nat) (f:List PV->Option PV)
 |store (b:Nat) (f:List PV->Option (List PV))
 |box (cells:List PV) (f:Nat->PV)
 |push (b n e k:Nat) (v:PV)
 |HE (n e:Nat) (f:Nat->PV)
 |K7 (e:Nat) (cells:List PV) (f:Nat->PV)
 |JD (b e:Nat) (f:List PV->Option (List PV)) (k:Nat->PV)
 |map (l:ML) (f:Nat->PV)
 |ADv (b:Nat) (f:ML->Option PV)
 |Pm (b:Nat) (f:ML->Option ML)
def JJ.run:JJ->St->Option (PV×St)
 | .val v,st=>some (v,st)
 | .load b f,st=>match st.heap b with
  |some (.box cs)=>match f cs with
   |some v=>some (v,st)
   |none=>none
  |some (.K7 _ cs)=>match f cs with
   |some v=>some (v,st)
   |none=>none
  |_=>none
 | .store b f,st=>match st.heap b with
  |some (.box cs)=>match f cs with
   |some Oc=>some (.undef,st.set b (.box Oc))
   |none=>none
  |some (.K7 e cs)=>match f cs with
   |some Oc=>some (.undef,st.set b (.K7 e Oc))
   |none=>none
  |_=>none
 | .box cs f,st=>some (f st.next,st.new (.box cs))
 | .push b n e k v,st=>match st.heap b with
  |some (.HE n' e')=>bif Br n n'&&(Br n 0||Br e e')then some (v,st.set b (.HE (n+k) e))else none
  |_=>none
 | .HE n e f,st=>some (f st.next,st.new (.HE n e))
 | .K7 e cs f,st=>some (f st.next,st.new (.K7 e cs))
 | .JD b e f k,st=>match st.heap b with
  |some (.K7 e' cs)=>bif Br e e' then(match f cs with
   |some Oc=>some (k st.next,(st.set b .KV).new (.K7 e Oc))
   |none=>none)else none
  |_=>none
 | .map l f,st=>some (f st.next,st.new (.map l))
 | .ADv b f,st=>match st.heap b with
  |some (.map l)=>match f l with
   |some v=>some (v,st)
   |none=>none
  |_=>none
 | .Pm b f,st=>match st.heap b with
  |some (.map l)=>match f l with
   |some l'=>some (.undef,st.set b (.map l'))
   |none=>none
  |_=>none
def JJ.rd:JJ->LN
 | .load b _=>[b]
 | .ADv b _=>[b]
 |_=>[]
def JJ.wr:JJ->LN
 | .store b _=>[b]
 | .push b _ _ _ _=>[b]
 | .JD b _ _ _=>[b]
 | .Pm b _=>[b]
 |_=>[]
def zr:Bk->Option PV
 | .bool b=>some (.bool b)
 | .int k n=>some (.int k n)
 | .string s=>some (.Gh s)
 | .slice none 0 0=>some .nil
 | .pointer none=>some .PY
 | .map none=>some .Za
 | .nilFunc=>some .nfn
 | .nilIface=>some .TL
 |_=>none
def oV:LV->Option (List PV)
 |[]=>some []
 |v::r=>match zr v with
  |some a=>match oV r with
   |some l=>some (a::l)
   |none=>none
  |none=>none
def cst:Bk->Option PV
 | .agg cs=>match oV cs.toList with
  |some l=>some (.agg l)
  |none=>none
 | .tuple cs=>match oV cs.toList with
  |some l=>some (.tuple l)
  |none=>none
 |v=>zr v
def Lv:PV->ON
 | .int _ n=>if 0<=n then some n.toNat else none
 |_=>none
def MU(cs:List PV)(o:Nat)(xs:List PV):Option (List PV):=if o+xs.length<=cs.length then some (cs.take o++xs++cs.drop (o+xs.length))else none
section
variable(P:Program)
def ABw(md:Bool)(t:Bz):Bool:=md||(match P.info? t with
 |some i=>match i.desc with
  | .named _ _=>true
  |_=>false
 |none=>false)||(match LH P t with
 |some e=>match P.underlying e with
  |some (.slice _)=>true
  |_=>false
 |none=>false)
def VU(t:Bz):Option PV:=match P.info? t with
 |some i=>match i.zero with
  |some z=>cst z
  |none=>none
 |none=>none
def Sw(fr:Fr):Cy->Option PV
 | .tmp t=>some (fr t)
 | .const v=>cst v
 |_=>none
def Ol(fr:Fr):List Cy->Option (List PV)
 |[]=>some []
 |o::r=>match Sw fr o with
  |some a=>match Ol fr r with
   |some l=>some (a::l)
   |none=>none
  |none=>none
def uc(t:Bz)(cs:List PV)(o:Nat):Option PV:=match SB P t with
 |some true=>match Rh P t with
  |some n=>if o+n<=cs.length then some (.agg ((cs.drop o).take n))else none
  |none=>none
 |some false=>cs[o]?
 |none=>none
def m6(t:Bz):PV->Option JJ
 | .GN b o=>some (.load b λcs=>uc P t cs o)
 | .MP GG o=>match uc P t GG o with
  |some v=>some (.val v)
  |none=>none
 |_=>none
def wZ(t:Bz)(x:PV):PV->Option JJ
 | .GN b o=>match Rh P t with
  |some n=>bif Br x.cells.length n&&x.cells.all PV.IT then some (.store b λcs=>MU cs o x.cells)else none
  |none=>none
 |_=>none
def rH(JF:Nat->Option (Nat×Nat))(cells:List PV):List (Nat×PV)->Option (List PV)
 |[]=>some cells
 |(i,v)::Ju=>match JF i with
  |none=>none
  |some (off,size)=>bif Br v.cells.length size then(match MU cells off v.cells with
   |some cs=>rH JF cs Ju
   |none=>none)else none
def vv(TH:Array Field)(i:Nat):Option (Nat×Nat):=match TH[i]? with
 |some f=>match Rh P f.type with
  |some s=>some (f.offset,s)
  |none=>none
 |none=>none
def uN(t:Bz)(JL:List (Nat×PV)):Option PV:=
 match VU P t with
 |some z=>match P.underlying t with
  |some (.struct TH)=>bif Go.Ab.Vn P TH.toList then(match rH (vv P TH) z.cells JL with
   |some l=>some (.agg l)
   |none=>none)else none
  |_=>none
 |none=>none
def Q6(size:Nat):Nat->List PV->List (List PV)
 |0,_=>[]
 |n+1,l=>l.take size::Q6 size n (l.drop size)
def Pe(N:Bool)(size:Nat):Nat->List (Nat×PV)->Option (List (List PV))
 |_,[]=>some []
 |k,(i,v)::r=>bif Br i k&&Br v.cells.length size then(match ud N v.cells with
  |some GG=>match Pe N size (k+1) r with
   |some l=>some (GG::l)
   |none=>none
  |none=>none)else none
def Vr(N:Bool)(t:Bz)(len:Nat)(JL:List (Nat×PV)):Option PV:=
 match LH P t with
 |some e=>match Rh P e with
  |some (size+1)=>bif Nat.ble (len*(size+1)) 16777216&&Br JL.length len then
    (match VU P e with
    |some z=>bif Br z.cells.length (size+1)then(match Pe N (size+1) 0 JL with
     |some GK=>some (.GV GK)
     |none=>none)else none
    |none=>none)
   else none
  |_=>none
 |none=>none
def Vq(t:Bz):Option JJ:=
 match LH P t with
 |some e=>match Rh P e with
  |some (size+1)=>some (.K7 (size+1) [] λb=> .ME b 0)
  |_=>none
 |none=>none
def ZV(t:Bz)(l c:PV):Option JJ:=
 match LH P t with
 |some e=>match Rh P e with
  |some (size+1)=>match O7 P e with
   |some bytes=>match Lv l with
    |some l=>match Lv c with
     |some c=>bif Br l c&&Go.Ab.Im c bytes then
       (match VU P e with
       |some z=>bif Br z.cells.length (size+1)then some (.K7 (size+1) (DA l z.cells).flatten λb=> .ME b l)else none
       |none=>none)
      else none
     |none=>none
    |none=>none
   |none=>none
  |_=>none
 |none=>none
def ZC(s:Bz)(f:Nat)(x:PV):Option PV:=
 match R7 P s f with
 |some fd=>match Rh P fd.type with
  |some (_+1)=>match x with
   | .GN b o=>some (.GN b (o+fd.offset))
   | .MP GG o=>some (.MP GG (o+fd.offset))
   |_=>none
  |_=>none
 |none=>none
def uz(s:Bz)(f:Nat)(x:PV):Option PV:=
 match R7 P s f with
 |some fd=>match x with
  | .agg l=>uc P fd.type l fd.offset
  |_=>none
 |none=>none
def b8(size:Nat)(GK:List (List PV))(i:Nat):Option PV:=match GK[i]? with
 |some GG=>bif Br GG.length size then some (.MP GG 0)else none
 |none=>none
def ZQ(t:Bz)(x i:PV):Option PV:=
 match Lv i with
 |some i=>match P.underlying t with
  |some (.slice e)=>match Rh P e with
   |some size=>match x with
    | .ME b n=>if i<n then some (.GN b (i*size))else none
    | .GV GK=>b8 size GK i
    | .HL _ GK=>b8 size GK i
    |_=>none
   |none=>none
  |some (.array n e)=>match Rh P e with
   |some size=>match x with
    | .GN b o=>if i<n then some (.GN b (o+i*size))else none
    |_=>none
   |none=>none
  |_=>none
 |none=>none
def vS(t:Bz)(x i:PV):Option PV:=
 match Lv i with
 |some i=>match P.underlying t with
  |some .string=>match x with
   | .Gh s=>match s[i]? with
    |some b=>some (.int .u8 b.toNat)
    |none=>none
   |_=>none
  |_=>none
 |none=>none
def XS(o:Option Cy)(l:List PV):Option (ON×List PV):=
 match o with
 |none=>some (none,l)
 |some _=>match l with
  |v::r=>match Lv v with
   |some n=>some (some n,r)
   |none=>none
  |[]=>none
def wV(t:Bz)(x:PV)(KN NL:ON):Option PV:=
 match P.underlying t with
 |some .string=>match x with
  | .Gh s=>if NL.getD s.size<=s.size/\KN.getD 0<=NL.getD s.size then some (.Gh (s.extract (KN.getD 0) (NL.getD s.size)))else none
  |_=>none
 |some (.slice e)=>match Rh P e with
  |some size=>match x with
   | .ME b n=>if KN=none/\NL.getD n<=n then some (.ME b (NL.getD n))else none
   |x=>match x.GK with
   |some GK=>if NL.getD GK.length<=GK.length/\KN.getD 0<=NL.getD GK.length/\GK.all (λr=>Br r.length size)=true then some (.GV ((GK.drop (KN.getD 0)).take (NL.getD GK.length-KN.getD 0)))else none
   |none=>none
  |none=>none
 |_=>none
def ANN(t:Bz)(x:PV):Option PV:=match P.underlying t with
 |some .string=>match x with
  | .Gh s=>some (.int .i64 s.size)
  |_=>none
 |some (.slice _)=>match x with
  | .ME _ n=>some (.int .i64 n)
  |x=>match x.GK with
  |some GK=>some (.int .i64 GK.length)
  |none=>none
 |_=>none
def nn(md:Bool)(t:Bz)(s x:PV):Option JJ:=
 match LH P t with
 |some e=>match Rh P e with
  |some (size+1)=>match O7 P e with
   |some bytes=>match VU P e with
    |some z=>bif Br z.cells.length (size+1)then(match x.GK with
     |some xs=>bif xs.all (λr=>Br r.length (size+1))then(match s with
      | .nil=>bif Go.Ab.Im xs.length bytes then(bif ABw P md t then(match xs with
       |[]=>some (.val .nil)
       |_::_=>some (.K7 (size+1) xs.flatten λb=> .ME b xs.length))else some (.HE xs.length (size+1) λb=> .HL b xs))else none
      | .ME b n=>bif Go.Ab.Im (n+xs.length) bytes then some (.JD b (size+1) (λcs=>if n*(size+1)<=cs.length then some (cs.take (n*(size+1))++xs.flatten)else none) λb'=> .ME b' (n+xs.length))else none
      | .HL b GK=>bif Go.Ab.Im (GK.length+xs.length) bytes&&GK.all (λr=>Br r.length (size+1))then some (.push b GK.length (size+1) xs.length (.HL b (GK++xs)))else none
      |_=>none)else none
     |none=>none)else none
    |none=>none
   |none=>none
  |_=>none
 |none=>none
def ADm(op:BinOp)(k:IntKind)(a b:Int):Option PV:=
 match op with
 | .add=>some (.int k (k.wrap (a+b)))
 | .sub=>some (.int k (k.wrap (a-b)))
 | .mul=>some (.int k (k.wrap (a*b)))
 | .quo=>if b=0 then none else some (.int k (k.wrap (a.tdiv b)))
 | .rem=>if b=0 then none else some (.int k (a.tmod b))
 | .eql=>some (.bool (a==b))
 | .neq=>some (.bool (a !=b))
 | .lss=>some (.bool (decide (a<b)))
 | .leq=>some (.bool (decide (a<=b)))
 | .gtr=>some (.bool (decide (a>b)))
 | .geq=>some (.bool (decide (a>=b)))
 |_=>none
def AGx(d:Option TypeDesc)(x y:PV):Option Bool:=match d,x,y with
 |some (.int _),.int k a,.int k' b=>if k=k' then some (a==b)else none
 |some .bool,.bool a,.bool b=>some (a==b)
 |some .string,.Gh a,.Gh b=>some (a.toList==b.toList)
 |_,_,_=>none
def Tg(xs ys:List PV):List Field->Option Bool
 |[]=>some true
 |f::fs=>if f.name= "_"then none else match SB P f.type with
  |some false=>match xs[f.offset]? with
   |some x=>match ys[f.offset]? with
    |some y=>match AGx (P.underlying f.type) x y with
     |some b=>match Tg xs ys fs with
      |some r=>some (b&&r)
      |none=>none
     |none=>none
    |none=>none
   |none=>none
  |_=>none
def ASA(x y:PV):Option Bool:=match x,y with
 | .GN _ _,.PY=>some false
 | .MP _ _,.PY=>some false
 | .PY,.PY=>some true
 |_,_=>none
def eqP(t:Bz)(x y:PV):Option Bool:=match P.underlying t with
 |some (.pointer _)=>ASA x y
 |some (.struct fs)=>match x,y with
  | .agg xs,.agg ys=>bif P.stoodInHeld t||P.eqGuardType P.depth t then none else Tg P xs ys fs.toList
  |_,_=>none
 |d=>AGx d x y
def AIf(op:BinOp)(s t:BA):Option PV:=match op with
 | .eql=>some (.bool (s.toList==t.toList))
 | .neq=>some (.bool (!(s.toList==t.toList)))
 |_=>none
def SP(op:BinOp)(t:Bz)(x y:PV):Option PV:=
 match x,y with
 | .int k a,.int k' b=>if k=k' then ADm op k a b else none
 | .Gh a,.Gh b=>AIf op a b
 |x,y=>match op with
  | .eql=>match eqP P t x y with
   |some b=>some (.bool b)
   |none=>none
  | .neq=>match eqP P t x y with
   |some b=>some (.bool !b)
   |none=>none
  |_=>none
def unP(op:UnOp)(x:PV):Option PV:=match op,x with
 | .not,.bool b=>some (.bool !b)
 | .neg,.int k n=>some (.int k (k.wrap (0-n)))
 |_,_=>none
def jC(src dst:Bz)(x:PV):Option PV:=
 match P.underlying src with
 |some _=>match P.underlying dst with
  |some (.int k)=>match x with
   | .int _ n=>some (.int k (k.wrap n))
   |_=>none
  |_=>none
 |none=>none
def ey:PV->Option I1
 | .int .i64 n=>some (.i n)
 | .Gh s=>some (.s s)
 |_=>none
def dz(t:Bz)(k:I1):Bool:=match P.underlying t with
 |some (.map kt e)=>(match P.underlying kt,k with
  |some (.int .i64),.i _=>true
  |some .string,.s _=>true
  |_,_=>false)&&(match VU P e with
  |some (.int .i64 0)=>true
  |_=>false)
 |_=>false
def HF(t:Bz)(m k:PV)(ok:Bool):Option JJ:=match ey k with
 |some k=>bif dz P t k then(match m with
  | .map b=>some (.ADv b λl=>bif l.all (λp=>k.NM p.1)then(match IQ k l with
   |some v=>some (bif ok then .tuple [.int .i64 v,.bool true]else .int .i64 v)
   |none=>some (bif ok then .tuple [.int .i64 0,.bool false]else .int .i64 0))else none)
  |_=>none)else none
 |none=>none
def HH(t:Bz)(m k x:PV):Option JJ:=match ey k with
 |some k=>bif dz P t k then(match m,x with
  | .map b,.int .i64 v=>some (.Pm b λl=>bif l.all (λp=>k.NM p.1)then some (Mv k v l)else none)
  |_,_=>none)else none
 |none=>none
def HN(t:Bz)(m k:PV):Option JJ:=match ey k with
 |some k=>bif dz P t k then(match m with
  | .map b=>some (.Pm b λl=>bif l.all (λp=>k.NM p.1)then some (SD k l)else none)
  |_=>none)else none
 |none=>none
def AHt(x y:PV):Option PV:=match x,y with
 | .int k a,.int k' b=>if k=k' then some (.int k (if b<a then b else a))else none
 |_,_=>none
def gL(t:Bz):Option Bool:=match P.underlying t with
 |some (.interface _)=>some true
 |some _=>some false
 |none=>none
def kI(t:Bz)(x:PV):Option PV:=match gL P t with
 |some false=>bif x.IT then some (.iface t x)else none
 |_=>none
def nr(QY:Bz)(x:PV):Option PV:=match gL P QY with
 |some false=>match x with
  | .iface t v=>if t=QY then some v else none
  |_=>none
 |_=>none
def O0:List (Nat×Cy)->List PV->List (Nat×PV)
 |(i,_)::r,v::l=>(i,v)::O0 r l
 |_,_=>[]
def opQ(md:Bool)(op:Op)(vs:List PV):Option JJ:=
 match op with
 | .move _=>(match vs with|[x]=>some (.val x)|_=>none)
 | .assign _=>(match vs with
  |[.nil]=>some (.HE 0 0 λb=> .HL b [])
  |[x]=>some (.val x)
  |_=>none)
 | .pick _ _ _=>(match vs with
  |[.bool c,a,b]=>some (.val (bif c then a else b))
  |_=>none)
 | .alloc e=>(match VU P e with
  |some z=>some (.box z.cells λb=> .GN b 0)
  |none=>none)
 | .box _ _=>(match vs with
  |[x]=>bif x.cells.all PV.IT then some (.box x.cells λb=> .GN b 0)else none
  |_=>none)
 | .build t JL=>bif vs.all PV.tE then(match uN P t (O0 JL.toList vs)with
  |some v=>some (.val v)
  |none=>none)else none
 | .buildSlice t len JL=>bif ABw P md t&&(Br len 0&&Br JL.size 0)then Vq P t else(match Vr P (ABw P md t) t len (O0 JL.toList vs)with
  |some v=>some (.val v)
  |none=>none)
 | .makeSlice t _ _=>(match vs with|[l,c]=>ZV P t l c|_=>none)
 | .makeInterface t _=>(match vs with
  |[x]=>(match kI P t x with
   |some v=>some (.val v)
   |none=>none)
  |_=>none)
 | .typeAssert _ _ QY ok=>(match ok,vs with
  |false,[x]=>(match nr P QY x with
   |some v=>some (.val v)
   |none=>none)
  |_,_=>none)
 | .makeFunc fn first _=>(match fn with
  | .func f=>bif Br first.size 0 then some (.val (.fn f vs))else none
  |_=>none)
 | .makeMap _ none=>some (.map [] λb=> .map b)
 | .lookup t _ _ ok=>(match vs with|[m,k]=>HF P t m k ok|_=>none)
 | .mapUpdate t _ _ _=>(match vs with|[m,k,x]=>HH P t m k x|_=>none)
 | .load t _=>(match vs with|[a]=>m6 P t a|_=>none)
 | .store t _ _=>(match vs with|[a,x]=>wZ P t x a|_=>none)
 | .nilCheck _=>(match vs with
  |[.GN b o]=>some (.val (.GN b o))
  |[.MP r o]=>some (.val (.MP r o))
  |_=>none)
 | .binOp op t _ _ _=>(match vs with
  |[x,y]=>(match SP P op t x y with
   |some v=>some (.val v)
   |none=>none)
  |_=>none)
 | .unOp op _ _=>(match vs with
  |[x]=>(match unP op x with
   |some v=>some (.val v)
   |none=>none)
  |_=>none)
 | .convert src dst _=>(match vs with
  |[x]=>(match jC P src dst x with
   |some v=>some (.val v)
   |none=>none)
  |_=>none)
 | .slice t _ lo hi none=>(match vs with
  |x::r=>(match XS lo r with
   |some (lo',r)=>match XS hi r with
    |some (qU,_)=>(match wV P t x lo' qU with
     |some v=>some (.val v)
     |none=>none)
    |none=>none
   |none=>none)
  |[]=>none)
 | .fieldAddr s _ f=>(match vs with
  |[x]=>(match ZC P s f x with
   |some v=>some (.val v)
   |none=>none)
  |_=>none)
 | .field s _ f=>(match vs with
  |[x]=>(match uz P s f x with
   |some v=>some (.val v)
   |none=>none)
  |_=>none)
 | .indexAddr t _ _=>(match vs with
  |[x,i]=>(match ZQ P t x i with
   |some v=>some (.val v)
   |none=>none)
  |_=>none)
 | .index t _ _=>(match vs with
  |[x,i]=>(match vS P t x i with
   |some v=>some (.val v)
   |none=>none)
  |_=>none)
 | .extract _ ix=>(match vs with
  |[.tuple l]=>(match l[ix]? with
   |some v=>some (.val v)
   |none=>none)
  |_=>none)
 | .call ⟨.builtin .len,_,argTypes⟩=>(match argTypes.toList,vs with
  |[t],[x]=>(match ANN P t x with
   |some v=>some (.val v)
   |none=>none)
  |_,_=>none)
 | .call ⟨.builtin .append,_,argTypes⟩=>(match argTypes.toList,vs with
  |[t,t'],[s,x]=>(match P.underlying t' with
   |some (.slice _)=>nn P md t s x
   |_=>none)
  |_,_=>none)
 | .call ⟨.builtin .min,_,_⟩=>(match vs with
  |[x,y]=>(match AHt x y with
   |some v=>some (.val v)
   |none=>none)
  |_=>none)
 | .call ⟨.builtin .delete,_,argTypes⟩=>(match argTypes.toList,vs with
  |[t,_],[m,k]=>HN P t m k
  |_,_=>none)
 |_=>none
end
end
section
def dF:EE->Bool
 | .cells .. =>true
 |_=>false
structure J where
 box:Nat->Option Nat
 HE:Nat->Option (Nat×Nat×Nat×Nat)
 K:Nat->Option (List Bk)
 eO:Nat->Nat×Nat:=λ_=>(0,0)
 KW:Nat->Option EE:=λ_=>none
abbrev KK:=Nat->Option (LV)
mutual
inductive DR (K:KK):PV->Bk->Prop
 |int (k:IntKind) (n:Int):DR K (.int k n) (.int k n)
 |bool (b:Bool):DR K (.bool b) (.bool b)
 |Gh (s:ByteArray):DR K (.Gh s) (.string s)
 |nil:DR K .nil (.slice Option.none 0 0)
 |none (a:Option Addr) (c:Nat):(a=Option.none->c=0)->DR K (.GV []) (.slice a 0 c)
 |GV (GK:List (List PV)) (B o c sz:Nat) (ks:List Bk):K B=some ks->0<GK.length->GK.length<=c->o+GK.length*sz<=ks.length->(∀(i:Nat) (GG:List PV),GK[i]?=some GG->GG.length=sz)->
  (∀(i:Nat) (GG:List PV),GK[i]?=some GG->Pk K GG ((ks.drop (o+i*sz)).take sz))->DR K (.GV GK) (.slice (some ⟨B,o,none⟩) GK.length c)
inductive Pk (K:KK):List PV->List Bk->Prop
 |nil:Pk K [] []
 |cons (a:PV) (v:Bk) (l:List PV) (l':List Bk):DR K a v->Pk K l l'->Pk K (a::l) (v::l')
end
mutual
inductive VR (m:J):PV->Bk->Prop
 |SQ (v:Bk):VR m .SQ v
 |data (a:PV) (v:Bk):DR m.K a v->VR m a v
 |nil:VR m .nil (.slice none 0 0)
 |VV (b:Nat):VR m (.HL b []) (.slice none 0 0)
 |HL (b:Nat) (GK:List (List PV)) (B0 c B n e t:Nat):m.HE b=some (B,n,e,t)->0<GK.length->GK.length<=n->(n=GK.length->B=B0/\c*e<=t)->
  DR m.K (.GV GK) (.slice (some ⟨B0,0,none⟩) GK.length c)->VR m (.HL b GK) (.slice (some ⟨B0,0,none⟩) GK.length c)
 |ME (b n B c:Nat):m.box b=some B->n<=c->c*(m.eO b).1<=(m.eO b).2->VR m (.ME b n) (.slice (some ⟨B,0,none⟩) n c)
 |GN (b o B:Nat):m.box b=some B->VR m (.GN b o) (.pointer (some ⟨B,o,none⟩))
 |MP (GG:List PV) (o B IW:Nat) (ks:List Bk):m.K B=some ks->IW+GG.length<=ks.length->Pk m.K GG ((ks.drop IW).take GG.length)->VR m (.MP GG o) (.pointer (some ⟨B,IW+o,none⟩))
 |agg (l:List PV) (l':List Bk):LC m l l'->VR m (.agg l) (.agg l'.toArray)
 |tuple (l:List PV) (l':List Bk):LC m l l'->VR m (.tuple l) (.tuple l'.toArray)
 |PY:VR m .PY (.pointer none)
 |map (b B:Nat):m.box b=some B->VR m (.map b) (.map (some B))
 |Za:VR m .Za (.map none)
 |fn (f:B9) (VW:List PV) (AI4:List Bk):LC m VW AI4->VR m (.fn f VW) (.func (.func f) #[] AI4.toArray)
 |nfn:VR m .nfn .nilFunc
 |yield (L:Nat):VR m (.yield L) (.func (.yield L) #[] #[])
 |iface (t:Bz) (a:PV) (v:Bk):VR m a v->VR m (.iface t a) (.iface t v)
 |TL:VR m .TL .nilIface
inductive LC (m:J):List PV->List Bk->Prop
 |nil:LC m [] []
 |cons (a:PV) (v:Bk) (l:List PV) (l':List Bk):VR m a v->LC m l l'->LC m (a::l) (v::l')
end
def Yn(K K':KK):Prop:=∀B ks,K B=some ks->∃Uw,K' B=some Uw/\ks<+:Uw
def Yn.refl(K:KK):Yn K K:=λ_ ks h=>⟨ks,h,Cs _⟩
def Yn.trans{K K' K'':KK}(h:Yn K K')(h':Yn K' K''):Yn K K'':=λB ks e=>by
 obtain⟨k1,e1,p1⟩:=h B ks e;obtain⟨k2,e2,p2⟩:=h' B k1 e1;exact⟨k2,e2,p1.trans p2⟩
def Uf{ks Uw:LV}(h:ks<+:Uw){a n:Nat}(hl:a+n<=ks.length):(Uw.drop a).take n=(ks.drop a).take n:=by obtain⟨r,rfl⟩:=h;rw[Fh,List.take_append_of_le_length AB]
def eI{n i sz o L:Nat}(hi:i<n)(h:o+n*sz<=L):o+i*sz+sz<=L:=by have:(i+1)*sz<=n*sz:=DD _ hi;rw[Ce,Dn]at this;omega
mutual
def DR.mono {K K':KK} (h:Yn K K') {a:PV} {v:Bk}:DR K a v->DR K' a v
 | .int k n=> .int k n
 | .bool b=> .bool b
 | .Gh s=> .Gh s
 | .nil=> .nil
 | .none a c h0=> .none a c h0
 | .GV GK B o c sz ks hk h0 hc hl hr hd=>by
  obtain⟨Uw,Rm,hp⟩:=h B ks hk;refine .GV GK B o c sz Uw Rm h0 hc (CN hl hp.length_le) hr λi GG hi=>?_;rw[Uf hp (eI (Bp.1 hi).1 hl)];exact Pk.mono h (hd i GG hi)
def Pk.mono {K K':KK} (h:Yn K K') {l:List PV} {l':List Bk}:Pk K l l'->Pk K' l l'
 | .nil=> .nil
 | .cons a v l l' h1 h2=> .cons a v l l' (DR.mono h h1) (Pk.mono h h2)
end
structure J.le (m m':J):Prop where
 box:∀b B,m.box b=some B->m'.box b=some B
 K:Yn m.K m'.K
 HE:∀b B n e t,m.HE b=some (B,n,e,t)->∃B' n' t',m'.HE b=some (B',n',e,t')/\n<=n'/\(n'=n->B'=B/\t'=t)
 eO:∀b B,m.box b=some B->m'.eO b=m.eO b
def J.le.refl(m:J):m.le m:=⟨λ_ _ h=>h,Yn.refl _,λb B n e t h=>⟨B,n,t,h,Bg _,λ_=>⟨rfl,rfl⟩⟩,λ_ _ _=>rfl⟩
def J.le.trans{m m' m'':J}(h:m.le m')(h':m'.le m''):m.le m'':=
 ⟨λb B e=>h'.box b B (h.box b B e),h.K.trans h'.K,λb B n e t hb=>by
  obtain⟨B1,n1,t1,e1,l1,c1⟩:=h.HE b B n e t hb;obtain⟨B2,n2,t2,e2,l2,c2⟩:=h'.HE b B1 n1 e t1 e1;refine⟨B2,n2,t2,e2,CN l1 l2,λhn=>?_⟩;have h1:n1=n:=AA;obtain⟨d1,d2⟩:=c1 h1;obtain⟨d3,d4⟩:=c2 AA;exact⟨d3.trans d1,d4.trans d2⟩,λb B hb=>(h'.eO b B (h.box b B hb)).trans (h.eO b B hb)⟩
mutual
def VR.mono {m m':J} (h:m.le m') {a:PV} {v:Bk}:VR m a v->VR m' a v
 | .SQ v=> .SQ v
 | .data a v hd=> .data a v (hd.mono h.K)
 | .nil=> .nil
 | .VV b=> .VV b
 | .HL b GK B0 c B n e t ho h0 hn ht hd=>by
  obtain⟨B',n',t',e',hl,hc⟩:=h.HE b B n e t ho;refine .HL b GK B0 c B' n' e t' e' h0 (CN hn hl) (λhh=>?_) (hd.mono h.K);have lW:n'=n:=AA;obtain⟨c1,c2⟩:=hc lW;obtain⟨d1,d2⟩:=ht AA;rw[c1,c2];exact⟨d1,d2⟩
 | .ME b n B c hb hc hs=> .ME b n B c (h.box b B hb) hc (by rw[h.eO b B hb];exact hs)
 | .GN b o B hb=> .GN b o B (h.box b B hb)
 | .MP GG o B IW ks hk hl hd=>by
  obtain⟨Uw,Rm,hp⟩:=h.K B ks hk;refine .MP GG o B IW Uw Rm (CN hl hp.length_le) ?_;rw[Uf hp hl];exact hd.mono h.K
 | .agg l l' hl=> .agg l l' (LC.mono h hl)
 | .tuple l l' hl=> .tuple l l' (LC.mono h hl)
 | .PY=> .PY
 | .map b B hb=> .map b B (h.box b B hb)
 | .Za=> .Za
 | .fn f l l' hl=> .fn f l l' (LC.mono h hl)
 | .nfn=> .nfn
 | .yield L=> .yield L
 | .iface t a v hv=> .iface t a v (VR.mono h hv)
 | .TL=> .TL
def LC.mono {m m':J} (h:m.le m') {l:List PV} {l':List Bk}:LC m l l'->LC m' l l'
 | .nil=> .nil
 | .cons a v l l' h1 h2=> .cons a v l l' (VR.mono h h1) (LC.mono h h2)
end
section
variable{K:KK} {m:J}
def Pk.length{l:List PV}{l':LV}(h:Pk K l l'):l.length=l'.length:=by
 induction l generalizing l' with
 |nil=>cases h;rfl
 |cons a l ih=>cases h with|cons _ v _ l' h1 h2=>simp[ih h2]
def LC.length{l:List PV}{l':LV}(h:LC m l l'):l.length=l'.length:=by
 induction l generalizing l' with
 |nil=>cases h;rfl
 |cons a l ih=>cases h with|cons _ v _ l' h1 h2=>simp[ih h2]
def Pk.vrs{l:List PV}{l':LV}(h:Pk m.K l l'):LC m l l':=by
 induction l generalizing l' with
 |nil=>cases h;exact .nil
 |cons a l ih=>cases h with|cons _ v _ l' h1 h2=>exact .cons _ _ _ _ (.data _ _ h1) (ih h2)
def LC.append{l:List PV}{l':LV}{k:List PV}{k':LV}(h:LC m l l')(hk:LC m k k'):LC m (l++k) (l'++k'):=by
 induction l generalizing l' with
 |nil=>cases h;exact hk
 |cons a l ih=>cases h with|cons _ v _ l' h1 h2=>exact .cons _ _ _ _ h1 (ih h2)
def Pk.append{l:List PV}{l':LV}{k:List PV}{k':LV}(h:Pk K l l')(hk:Pk K k k'):Pk K (l++k) (l'++k'):=by
 induction l generalizing l' with
 |nil=>cases h;exact hk
 |cons a l ih=>cases h with|cons _ v _ l' h1 h2=>exact .cons _ _ _ _ h1 (ih h2)
def LC.take{l:List PV}{l':LV}(h:LC m l l')(n:Nat):LC m (l.take n) (l'.take n):=by
 induction l generalizing l' n with
 |nil=>cases h;simp;exact .nil
 |cons a l ih=>
  cases h with
  |cons _ v _ l' h1 h2=>
   cases n with
   |zero=>exact .nil
   |succ n=>exact .cons _ _ _ _ h1 (ih h2 n)
def LC.drop{l:List PV}{l':LV}(h:LC m l l')(n:Nat):LC m (l.drop n) (l'.drop n):=by
 induction l generalizing l' n with
 |nil=>cases h;simp;exact .nil
 |cons a l ih=>
  cases h with
  |cons _ v _ l' h1 h2=>
   cases n with
   |zero=>exact .cons _ _ _ _ h1 h2
   |succ n=>exact ih h2 n
def Pk.take{l:List PV}{l':LV}(h:Pk K l l')(n:Nat):Pk K (l.take n) (l'.take n):=by
 induction l generalizing l' n with
 |nil=>cases h;simp;exact .nil
 |cons a l ih=>
  cases h with
  |cons _ v _ l' h1 h2=>
   cases n with
   |zero=>exact .nil
   |succ n=>exact .cons _ _ _ _ h1 (ih h2 n)
def Pk.drop{l:List PV}{l':LV}(h:Pk K l l')(n:Nat):Pk K (l.drop n) (l'.drop n):=by
 induction l generalizing l' n with
 |nil=>cases h;simp;exact .nil
 |cons a l ih=>
  cases h with
  |cons _ v _ l' h1 h2=>
   cases n with
   |zero=>exact .cons _ _ _ _ h1 h2
   |succ n=>exact ih h2 n
def LC.get{l:List PV}{l':LV}(h:LC m l l'){i:Nat}{a:PV}(ha:l[i]?=some a):∃v,l'[i]?=some v/\VR m a v:=by
 induction l generalizing l' i with
 |nil=>simp at ha
 |cons x l ih=>
  cases h with
  |cons _ v _ l' h1 h2=>
   cases i with
   |zero=>simp at ha;subst ha;exact⟨v,rfl,h1⟩
   |succ i=>simp at ha;simpa using ih h2 ha
def LC.one{a:PV}{v:Bk}(h:VR m a v):LC m [a] [v]:=.cons _ _ _ _ h .nil
def VR.cells{a:PV}{v:Bk}(h:VR m a v)(hg:a≠ .SQ):LC m a.cells v.cells.toList:=by
 cases h with
 |SQ=>exact Zq rfl hg
 |agg l l' h=>exact h
 |data _ _ h=>cases h<;>exact .one (.data _ _ (by constructor<;>assumption))
 |nil=>exact .one .nil
 |VV=>exact .one (.VV _)
 |HL=>exact .one (.HL _ _ _ _ _ _ _ _ ‹_› ‹_› ‹_› ‹_› ‹_›)
 |ME=>exact .one (.ME _ _ _ _ ‹_› ‹_› ‹_›)
 |GN=>exact .one (.GN _ _ _ ‹_›)
 |MP=>exact .one (.MP _ _ _ _ _ ‹_› ‹_› ‹_›)
 |tuple=>exact .one (.tuple _ _ ‹_›)
 |PY=>exact .one .PY
 |map=>exact .one (.map _ _ ‹_›)
 |Za=>exact .one .Za
 |fn=>exact .one (.fn _ _ _ ‹_›)
 |nfn=>exact .one .nfn
 |yield=>exact .one (.yield _)
 |iface=>exact .one (.iface _ _ _ ‹_›)
 |TL=>exact .one .TL
def VR.one{a:PV}{v:Bk}(h:VR m a v)(ha:a.IT=true):v.oneCell'=true:=by
 cases h with
 |SQ=>simp[PV.IT]at ha
 |agg=>simp[PV.IT]at ha
 |tuple=>simp[PV.IT]at ha
 |data _ _ h=>cases h<;>rfl
 |_=>rfl
def gi{l:List PV}{l':LV}(h:LC m l l')(ha:l.all PV.IT=true):∀v∈l',v.oneCell'=true:=by
 induction l generalizing l' with
 |nil=>cases h;simp
 |cons a l ih=>
  cases h with
  |cons _ v _ l' h1 h2=>
   simp only[Co,Bo]at ha;intro x hx;rcases Bm.1 hx with rfl|hx
   .exact h1.one ha.1
   .exact ih h2 ha.2 x hx
def DR.one{a:PV}{v:Bk}(h:DR K a v):v.oneCell'=true:=by cases h<;>rfl
def Pk.one{l:List PV}{l':LV}(h:Pk K l l'):∀v∈l',v.oneCell'=true:=by
 induction l generalizing l' with
 |nil=>cases h;simp
 |cons a l ih=>
  cases h with
  |cons _ v _ l' h1 h2=>
   intro x hx;rcases Bm.1 hx with rfl|hx
   .exact h1.one
   .exact ih h2 x hx
def VR.GK{a:PV}{GK:List (List PV)}{v:Bk}(h:VR m a v)(hr:a.GK=some GK):DR m.K (.GV GK) v:=by
 cases h with
 |nil=>simp[PV.GK]at hr;subst hr;exact .none none 0 (λ_=>rfl)
 |VV=>simp[PV.GK]at hr;subst hr;exact .none none 0 (λ_=>rfl)
 |HL _ _ _ _ _ _ _ _ _ _ _ _ hd=>simp[PV.GK]at hr;subst hr;exact hd
 |data _ _ hd=>cases hd<;>simp[PV.GK]at hr<;>subst hr<;>first|exact .none none 0 (λ_=>rfl)|(constructor<;>assumption)
 |_=>simp[PV.GK]at hr
def VR.Q7{a x:PV}{v:Bk}(h:VR m a v)(hr:a.data=some x):DR m.K x v:=by
 cases h with
 |nil=>simp[PV.data]at hr;subst hr;exact .none none 0 (λ_=>rfl)
 |VV=>simp[PV.data]at hr;subst hr;exact .none none 0 (λ_=>rfl)
 |HL _ _ _ _ _ _ _ _ _ _ _ _ hd=>simp[PV.data]at hr;subst hr;exact hd
 |data _ _ hd=>cases hd<;>simp[PV.data]at hr<;>subst hr<;>first|exact .none none 0 (λ_=>rfl)|(constructor<;>assumption)
 |_=>simp[PV.data]at hr
def LC.Q7{l k:List PV}{l':LV}(h:LC m l l')(hk:JC l=some k):Pk m.K k l':=by
 induction l generalizing k l' with
 |nil=>simp[JC]at hk;subst hk;cases h;exact .nil
 |cons a l ih=>
  cases h with
  |cons _ v _ l' h1 h2=>
   simp only[JC]at hk;cases hd:a.data with
   |none=>simp[hd]at hk
   |some x=>
    cases hl:JC l with
    |none=>simp[hd,hl]at hk
    |some k'=>simp[hd,hl]at hk;subst hk;exact .cons _ _ _ _ (h1.Q7 hd) (ih h2 hl)
end
def cQ:ML->List MapEntry->Prop
 |[],[]=>True
 |(k,v)::l,e::es=>e.key=k.val/\e.val=.int .i64 v/\cQ l es
 |_,_=>False
def J.my(m:J)(B:Nat):Prop:=(∃b,m.box b=some B)\/∃b n e t,m.HE b=some (B,n,e,t)
def tq(m:J)(w:World)(b:Nat):Obj->Prop
 | .box cs=>∃B vs ty,m.box b=some B/\w.heap[B]?=some (.cells vs ty (0,0))/\LC m cs vs.toList
 | .K7 e cs=>∃B vs ty,m.box b=some B/\m.eO b=(e,vs.size)/\w.heap[B]?=some (.cells vs ty (0,0))/\LC m cs (vs.toList.take cs.length)
 | .map l=>∃B MH Ga,m.box b=some B/\w.heap[B]?=some (.map MH Ga)/\cQ l MH.toList
 |_=>True
def tq.Hi{m m':J}{w w':World}{b:Nat}{o:Obj}(h:tq m w b o)(le:m.le m')(hs:o.Uu=false->∀B,m.box b=some B->w'.heap[B]?=w.heap[B]?):tq m' w' b o:=by
 cases o with
 |box cs=>
  obtain⟨B,vs,ty,h1,h2,h3⟩:=h;exact⟨B,vs,ty,le.box b B h1,(hs rfl B h1).trans h2,h3.mono le⟩
 |K7 e cs=>
  obtain⟨B,vs,ty,h1,h0,h2,h3⟩:=h;exact⟨B,vs,ty,le.box b B h1,(le.eO b B h1).trans h0,(hs rfl B h1).trans h2,h3.mono le⟩
 |map l=>
  obtain⟨B,es,c,h1,h2,h3⟩:=h;exact⟨B,es,c,le.box b B h1,(hs rfl B h1).trans h2,h3⟩
 |HE _ _=>trivial
 |KV=>trivial
structure It (m:J) (h:Nat->Option Obj) (w:World):Prop where
 bl:∀b o,h b=some o->tq m w b o
 KW:∀B o,m.KW B=some o->w.heap[B]?=some o/\dF o=false/\(∀l c,o≠ .map l c)
 HE:∀b n e,h b=some (.HE n e)->(n=0/\m.HE b=none)\/(0<n/\∃B t,m.HE b=some (B,n,e,t)/\∃ks,m.K B=some ks/\ks.length=n*e/\∃vs ty,w.heap[B]?=some (.cells vs ty (0,0))/\vs.size=t)
 Xp:∀B ks,m.K B=some ks->∃vs ty,w.heap[B]?=some (.cells vs ty (0,0))/\ks<+:vs.toList
 P6:∀b B,m.box b=some B->∃o,h b=some o/\o.rr=false
 Qq:∀b x,m.HE b=some x->∃n e,h b=some (.HE n e)
 LJ:∀b b' B,m.box b=some B->m.box b'=some B->h b≠some .KV->h b'≠some .KV->b=b'
 Mi:∀b b' B n e t n' e' t',m.HE b=some (B,n,e,t)->m.HE b'=some (B,n',e',t')->b=b'
 bK:∀b B,m.box b=some B->h b≠some .KV->m.K B=none
 blt:∀b B,m.box b=some B->B<w.heap.size
structure Lx (m:J) (w:World) (m':J) (w':World):Prop where
 le:m.le m'
 size:w.heap.size<=w'.heap.size
 cW:∀b B,m'.box b=some B->(∃b,m.box b=some B)\/w.heap.size<=B
 YP:∀b B n e t,m'.HE b=some (B,n,e,t)->(∃b n e t,m.HE b=some (B,n,e,t))\/w.heap.size<=B
 bU:∀B ks,m'.K B=some ks->(∃b n e t,m.HE b=some (B,n,e,t))\/m.K B=some ks\/w.heap.size<=B
 LU:∀B,B<w.heap.size->¬m.my B->w'.heap[B]?=w.heap[B]?
 os:w'.os=w.os
 output:w'.output=w.output
 NZ:∀a:Addr,a.block<w.heap.size->w'.frozen? a=w.frozen? a
 KW:m'.KW=m.KW
def Lx.refl(m:J)(w:World):Lx m w m w:=⟨J.le.refl m,Bg _,λb _ h=> .inl ⟨b,h⟩,λb B n e t h=> .inl ⟨b,n,e,t,h⟩,λ_ _ h=> .inr (.inl h),λ_ _ _=>rfl,rfl,rfl,λ_ _=>rfl,rfl⟩
def Lx.my{m m':J}{w w':World}(h:Lx m w m' w'){B:Nat}(hb:m'.my B):m.my B\/w.heap.size<=B:=by
 rcases hb with⟨b,hb⟩|⟨b,n,e,t,hb⟩
 .exact(h.cW b B hb).imp (λh=> .inl h) id
 .exact(h.YP b B n e t hb).imp (λh=> .inr h) id
def Lx.trans{m m' m'':J}{w w' w'':World}(h:Lx m w m' w')(h':Lx m' w' m'' w''):Lx m w m'' w'':=by
 refine⟨h.le.trans h'.le,CN h.size h'.size,λb B hb=>?_,λb B n e t hb=>?_,λB ks hk=>?_,λB hB hn=>?_,h'.os.trans h.os,h'.output.trans h.output,λa ha=>(h'.NZ a (Cv ha h.size)).trans (h.NZ a ha),h'.KW.trans h.KW⟩
 .rcases h'.cW b B hb with⟨b1,h1⟩|h1
  .exact h.cW b1 B h1
  .exact .inr (CN h.size h1)
 .rcases h'.YP b B n e t hb with⟨b1,n1,e1,t1,h1⟩|h1
  .exact h.YP _ _ _ _ _ h1
  .exact .inr (CN h.size h1)
 .rcases h'.bU B ks hk with⟨b1,n1,e1,t1,h1⟩|h1|h1
  .rcases h.YP _ _ _ _ _ h1 with h2|h2
   .exact .inl h2
   .exact .inr (.inr h2)
  .exact h.bU B ks h1
  .exact .inr (.inr (CN h.size h1))
 .rw[h'.LU B (Cv hB h.size) ?_,h.LU B hB hn];intro hi;rcases h.my hi with h1|h1
  .exact hn h1
  .omega
def Lx.drew(m:J)(w:World):Lx m w m {w with drawn:=w.drawn+1}:=⟨J.le.refl m,Bg _,λb _ h=> .inl ⟨b,h⟩,λb B n e t h=> .inl ⟨b,n,e,t,h⟩,λ_ _ h=> .inr (.inl h),λ_ _ _=>rfl,rfl,rfl,λ_ _=>rfl,rfl⟩
def It.congr{m:J}{h h':Nat->Option Obj}{w:World}(hr:It m h w)(e:∀b,h' b=h b):It m h' w:=by have:h'=h:=funext e;rw[this];exact hr
def It.drew{m:J}{h:Nat->Option Obj}{w:World}(hr:It m h w):It m h {w with drawn:=w.drawn+1}:=⟨hr.bl,hr.KW,hr.HE,hr.Xp,hr.P6,hr.Qq,hr.LJ,hr.Mi,hr.bK,hr.blt⟩
section
variable{m:J} {h:Nat->Option Obj} {w:World}
def It.XE(hr:It m h w){b B:Nat}(hb:m.box b=some B):B<w.heap.size:=hr.blt b B hb
def It.box(hr:It m h w)(b:Nat)(cs:List PV)(hb:h b=some (.box cs)):∃B vs ty,m.box b=some B/\w.heap[B]?=some (.cells vs ty (0,0))/\LC m cs vs.toList:=hr.bl b _ hb
def It.K7(hr:It m h w)(b e:Nat)(cs:List PV)(hb:h b=some (.K7 e cs)):∃B vs ty,m.box b=some B/\m.eO b=(e,vs.size)/\w.heap[B]?=some (.cells vs ty (0,0))/\LC m cs (vs.toList.take cs.length):=hr.bl b _ hb
def It.map(hr:It m h w)(b:Nat)(l:ML)(hb:h b=some (.map l)):∃B MH Ga,m.box b=some B/\w.heap[B]?=some (.map MH Ga)/\cQ l MH.toList:=hr.bl b _ hb
def MA{o:Obj}(h:o.Uu=false):some o≠some Obj.KV:=by intro e;cases e;cases h
def It.vd(hr:It m h w){B:Nat}{ks:LV}(hb:m.K B=some ks):B<w.heap.size:=by obtain⟨vs,ty,h2,_⟩:=hr.Xp B ks hb;exact(CU.1 h2).1
def It.Ux(hr:It m h w){b B n e t:Nat}(hb:m.HE b=some (B,n,e,t)):B<w.heap.size:=by
 obtain⟨n',e',ho⟩:=hr.Qq b _ hb;rcases hr.HE b n' e' ho with⟨_,h1⟩|⟨_,B',t',h1,ks,h2,_⟩
 .rw[hb]at h1;cases h1
 .rw[hb]at h1;cases h1;exact hr.vd h2
def It.ADw(hr:It m h w){B:Nat}(hb:m.my B):B<w.heap.size:=by
 rcases hb with⟨b,hb⟩|⟨b,n,e,t,hb⟩
 .exact hr.XE hb
 .exact hr.Ux hb
def It.R8(hr:It m h w){b:Nat}(hb:h b=none):m.box b=none:=by
 cases hm:m.box b with
 |none=>rfl
 |some B=>obtain⟨cs,hc,_⟩:=hr.P6 b B hm;rw[hb]at hc;cases hc
def It.jS(hr:It m h w){b:Nat}(hb:h b=none):m.HE b=none:=by
 cases hm:m.HE b with
 |none=>rfl
 |some B=>obtain⟨n,e,hc⟩:=hr.Qq b B hm;rw[hb]at hc;cases hc
def It.fw(hr:It m h w)(o:EE)(YJ:∀a,(w.alloc o).frozen? a=w.frozen? a):Lx m w m (w.alloc o)/\It m h (w.alloc o):=by
 have OW:∀B,B<w.heap.size->(w.alloc o).heap[B]?=w.heap[B]?:=λB hB=>Go.heap_alloc_old w o B hB;refine⟨⟨J.le.refl m,AD,λb _ h=> .inl ⟨b,h⟩,λb B n e t h=> .inl ⟨b,n,e,t,h⟩,λ_ _ h=> .inr (.inl h),λB hB _=>OW B hB,rfl,rfl,λa _=>YJ a,rfl⟩,⟨?_,?_,?_,?_,hr.P6,hr.Qq,hr.LJ,hr.Mi,hr.bK,λb B hb=>by have:=hr.blt b B hb;simp;omega⟩⟩
 .intro b o hb;exact(hr.bl b o hb).Hi (J.le.refl m) λ_ B hB=>OW B (hr.blt b B hB)
 .intro B o ho;obtain⟨h1,h2⟩:=hr.KW B o ho;exact⟨(OW B (CU.1 h1).1).trans h1,h2⟩
 .intro b n e hb;rcases hr.HE b n e hb with h1|⟨h0,B,t,h1,ks,h2,h3,vs,ty,h4,h5⟩
  .exact AgC
  .exact .inr ⟨h0,B,t,h1,ks,h2,h3,vs,ty,by rw[OW B (hr.Ux h1)];exact h4,h5⟩
 .intro B ks hk;obtain⟨vs,ty,h2,h3⟩:=hr.Xp B ks hk;exact⟨vs,ty,by rw[OW B (hr.vd hk)];exact h2,h3⟩
def It.AWT(hr:It m h w)(vs:AV0)(ty:Bz)(ks:LV)(hp:ks<+:vs.toList):
  ∃m',Lx m w m' (w.alloc (.cells vs ty))/\It m' h (w.alloc (.cells vs ty))/\m'.K w.heap.size=some ks/\m'.box=m.box/\m'.HE=m.HE:=by
 have ADQ:m.K w.heap.size=none:=by
  cases hk:m.K w.heap.size with
  |none=>rfl
  |some ks=>have:=hr.vd hk;omega
 obtain⟨e1,r1⟩:=hr.fw (.cells vs ty) (Go.Ab.L6 w _ Abs);let m':J:={m with K:=λB=>if B=w.heap.size then some ks else m.K B}
 have hK:∀B k,m.K B=some k->m'.K B=some k:=λB k hk=>by
  show(if _ then _ else _)=_;rw[Ng (by have:=hr.vd hk;omega)];exact hk
 have hKK:Yn m.K m'.K:=λB k hk=>⟨k,hK B k hk,Cs _⟩
 have hle:m.le m':=⟨λ_ _ h=>h,hKK,λb B n e t h=>⟨B,n,t,h,Bg _,λ_=>⟨rfl,rfl⟩⟩,λ_ _ _=>rfl⟩
 refine⟨m',⟨hle,e1.size,e1.cW,e1.YP,λB k hk=>?_,e1.LU,e1.os,e1.output,e1.NZ,e1.KW⟩,⟨λb o hb=>(r1.bl b o hb).Hi hle λ_ _ _=>rfl,r1.KW,λb n e hb=>?_,λB k hk=>?_,r1.P6,r1.Qq,r1.LJ,r1.Mi,λb B hb hd=>?_,r1.blt⟩,?_,rfl,rfl⟩
 .have Rm:(if B=w.heap.size then some ks else m.K B)=some k:=hk;by_cases c:B=w.heap.size
  .exact Ahd
  .rw[Ng c]at Rm;exact .inr (.inl Rm)
 .rcases r1.HE b n e hb with h1|⟨h0,B,t,h1,Uw,h2,h3⟩
  .exact AgC
  .exact .inr ⟨h0,B,t,h1,Uw,hK B Uw h2,h3⟩
 .have Rm:(if B=w.heap.size then some ks else m.K B)=some k:=hk;by_cases c:B=w.heap.size
  .rw[Ps c]at Rm;cases Rm;subst c;exact⟨vs,ty,EG w _,hp⟩
  .rw[Ng c]at Rm;exact r1.Xp B k Rm
 .show(if _ then _ else _)=_;rw[Ng (by have:=hr.XE hb;omega)];exact hr.bK b B hb hd
 .exact AfR
def It.newObj(hr:It m h w){b:Nat}(hb:h b=none)(go:EE)(YJ:∀a,(w.alloc go).frozen? a=w.frozen? a)(ob:Obj)(Pt:ob.rr=false)(e t:Nat)
  (mn:∀m':J,m.le m'->m'.box b=some w.heap.size->m'.eO b=(e,t)->(w.alloc go).heap[w.heap.size]?=some go->tq m' (w.alloc go) b ob):
  ∃m',Lx m w m' (w.alloc go)/\It m' (λx=>bif Br x b then some ob else h x) (w.alloc go)/\m'.box b=some w.heap.size/\m'.eO b=(e,t):=by
 obtain⟨e1,r1⟩:=hr.fw go YJ;let m':J:={m with box:=λx=>if x=b then some w.heap.size else m.box x,eO:=λx=>if x=b then(e,t)else m.eO x}
 have lN:∀x B,m.box x=some B->m'.box x=some B:=λx B hx=>by
  exact AhS
 have hle:m.le m':=⟨lN,Yn.refl _,λb B n e t h=>⟨B,n,t,h,Bg _,λ_=>⟨rfl,rfl⟩⟩,λx B hx=>by
  show(if _ then _ else _)=_;rw[Ng AU]⟩
 have NH:∀x B,m'.box x=some B->(x=b/\B=w.heap.size)\/(x≠b/\m.box x=some B):=by
  intro x B hx;have Ts:(if x=b then some w.heap.size else m.box x)=some B:=hx;exact AeB
 have Lz:m'.box b=some w.heap.size:=by show(if _ then _ else _)=_;rw[Ps rfl]
 have L0:m'.eO b=(e,t):=by show(if _ then _ else _)=_;rw[Ps rfl]
 have hh:∀x,(bif Br x b then some ob else h x)=if x=b then some ob else h x:=λx=>by
  exact Afz
 refine⟨m',⟨hle,e1.size,λx B hx=>?_,e1.YP,e1.bU,e1.LU,e1.os,e1.output,e1.NZ,e1.KW⟩,It.congr (h:=λx=>if x=b then some ob else h x) ⟨λx o hx=>?_,r1.KW,λx n e hx=>?_,λB k hk=>r1.Xp B k hk,λx B hx=>?_,λx y hx=>?_,λx x' B hx Ts d1 d2=>?_,hr.Mi,λx B hx hd=>?_,λx B hx=>?_⟩ hh,Lz,L0⟩
 .rcases NH x B hx with⟨_,h1⟩|⟨_,h1⟩
  .exact AgD
  .exact .inl ⟨x,h1⟩
 .by_cases c:x=b
  .rw[Ps c]at hx;cases hx;subst c;exact mn m' hle Lz L0 (EG w _)
  .rw[Ng c]at hx;exact(r1.bl x o hx).Hi hle λ_ _ _=>rfl
 .by_cases c:x=b
  .exact Agy
  .rw[Ng c]at hx;exact r1.HE x n e hx
 .rcases NH x B hx with⟨c,_⟩|⟨c,h1⟩
  .exact⟨ob,by simp only[Ps c],Pt⟩
  .obtain⟨ds,hd⟩:=hr.P6 x B h1;exact⟨ds,by simp only[Ng c];exact hd⟩
 .exact AfW
 .rcases NH x B hx with⟨c,e⟩|⟨c,h1⟩<;>rcases NH x' B Ts with⟨c',e'⟩|⟨c',h2⟩
  .rw[c,c']
  .have:=hr.XE h2;omega
  .have:=hr.XE h1;omega
  .rw[Ng c]at d1;rw[Ng c']at d2;exact hr.LJ x x' B h1 h2 d1 d2
 .rcases NH x B hx with⟨c,e⟩|⟨c,h1⟩
  .show m.K B=none;cases hk:m.K B with
   |none=>rfl
   |some ks=>have:=hr.vd hk;omega
  .rw[Ng c]at hd;exact hr.bK x B h1 hd
 .rcases NH x B hx with⟨c,e⟩|⟨c,h1⟩
  .rw[e];simp
  .exact r1.blt x B h1
def It.ANQ(hr:It m h w){b:Nat}(hb:h b=none){cs:List PV}(vs:AV0)(ty:Bz)(hc:LC m cs vs.toList):
  ∃m',Lx m w m' (w.alloc (.cells vs ty))/\It m' (λx=>bif Br x b then some (.box cs)else h x) (w.alloc (.cells vs ty))/\m'.box b=some w.heap.size:=by
 obtain⟨m',h1,h2,h3,_⟩:=hr.newObj hb (.cells vs ty) (Go.Ab.L6 w _ Abs) (.box cs) rfl 0 0 λm' hle Lz _ hw=>⟨w.heap.size,vs,ty,Lz,hw,hc.mono hle⟩
 exact⟨m',h1,h2,h3⟩
def It.pX(hr:It m h w){b:Nat}(hb:h b=none){e:Nat}{cs:List PV}(vs:AV0)(ty:Bz)(hc:LC m cs (vs.toList.take cs.length)):
  ∃m',Lx m w m' (w.alloc (.cells vs ty))/\It m' (λx=>bif Br x b then some (.K7 e cs)else h x) (w.alloc (.cells vs ty))/\m'.box b=some w.heap.size/\m'.eO b=(e,vs.size):=
 hr.newObj hb (.cells vs ty) (Go.Ab.L6 w _ Abs) (.K7 e cs) rfl e vs.size λm' hle Lz L0 hw=>⟨w.heap.size,vs,ty,Lz,L0,hw,hc.mono hle⟩
def It.ANR(hr:It m h w){b:Nat}(hb:h b=none){l:ML}(MH:Array MapEntry)(Ga:Nat)(hc:cQ l MH.toList):
  ∃m',Lx m w m' (w.alloc (.map MH Ga))/\It m' (λx=>bif Br x b then some (.map l)else h x) (w.alloc (.map MH Ga))/\m'.box b=some w.heap.size:=by
 obtain⟨m',h1,h2,h3,_⟩:=hr.newObj hb (.map MH Ga) (Go.Ab.L6 w _ (λc t fr e=>by cases e)) (.map l) rfl 0 0 λm' hle Lz _ hw=>⟨w.heap.size,MH,Ga,Lz,hw,hc⟩
 exact⟨m',h1,h2,h3⟩
end
end
section
section
variable{m:J} {h:Nat->Option Obj} {w:World}
def JT{α:Type}(x b:Nat)(p q:α):(bif Br x b then p else q)=if x=b then p else q:=Afz
def It.pY(hr:It m h w){b:Nat}(hb:h b=none)(e:Nat):It m (λx=>bif Br x b then some (.HE 0 e)else h x) w:=by
 have Kk:∀x B,m.box x=some B->x≠b:=by rintro x B hx rfl;rw[hr.R8 hb]at hx;cases hx
 refine It.congr (h:=λx=>if x=b then some (.HE 0 e)else h x) ⟨λx o hx=>?_,hr.KW,λx n e' hx=>?_,hr.Xp,λx B hx=>?_,λx y hx=>?_,λx x' B hx Ts d d'=>?_,hr.Mi,λx B hx d=>?_,hr.blt⟩ λx=>JT ..
 .exact Ahq
 .by_cases c:x=b
  .rw[Ps c]at hx;cases hx;subst c;exact .inl ⟨rfl,hr.jS hb⟩
  .rw[Ng c]at hx;exact hr.HE x n e' hx
 .exact Aei
 .obtain⟨n,e',hc⟩:=hr.Qq x y hx;refine⟨n,e',?_⟩;rw[Ng (by rintro rfl;rw[hb]at hc;cases hc)];exact hc
 .exact Aeb
 .exact Ahb
def It.JD(hr:It m h w){b n e0:Nat}(hb:h b=some (.HE n e0)){w':World}{B' n' e t':Nat}{Uw:LV}(he:n=0\/e0=e)(hn:n<n')
  (hB:w.heap.size<=B'\/∃ks,m.HE b=some (B',n,e,t')/\m.K B'=some ks/\ks<+:Uw){vs:AV0}{ty:Bz}(YN:w'.heap[B']?=some (.cells vs ty (0,0)))(ht:vs.size=t')(hp:Uw<+:vs.toList)(hl:Uw.length=n'*e)
  (K9:∀B,B≠B'->B<w.heap.size->w'.heap[B]?=w.heap[B]?)(Of:w.heap.size<=w'.heap.size)(yB:w'.os=w.os)(fV:w'.output=w.output)(YJ:∀a,w'.frozen? a=w.frozen? a):
  ∃m',Lx m w m' w'/\It m' (λx=>bif Br x b then some (.HE n' e)else h x) w'/\m'.HE b=some (B',n',e,t')/\m'.K B'=some Uw/\m'.box=m.box:=by
 let m':J:={m with HE:=λx=>if x=b then some (B',n',e,t')else m.HE x,K:=λB=>if B=B' then some Uw else m.K B}
 have hK:Yn m.K m'.K:=by
  intro B k hk;show∃ks'',(if B=B' then some Uw else m.K B)=some ks''/\_;by_cases c:B=B'
  .rw[Ps c];refine⟨Uw,rfl,?_⟩;rcases hB with hB|⟨ks,h1,h2,h3⟩
   .have:=hr.vd hk;omega
   .rw[c,h2]at hk;cases hk;exact h3
  .rw[Ng c];exact⟨k,hk,Cs _⟩
 have AUs:∀x,m.HE b=some x->x.2.1=n/\x.2.2.1=e:=by
  intro x hx;rcases hr.HE b n e0 hb with⟨_,h1⟩|⟨h0,B,t,h1,_⟩
  .rw[hx]at h1;cases h1
  .rw[hx]at h1;cases h1;exact⟨rfl,he.resolve_left AA⟩
 have hle:m.le m':=by
  refine⟨λ_ _ h=>h,hK,λx B k e1 t hx=>?_,λ_ _ _=>rfl⟩;by_cases c:x=b
  .subst c;obtain⟨h1,h2⟩:=AUs _ hx;simp only at h1 h2;subst h1 h2;exact⟨B',n',t',by show(if _ then _ else _)=_;rw[Ps rfl],AA,λh=>by omega⟩
  .exact⟨B,k,t,by show(if _ then _ else _)=_;rw[Ng c];exact hx,Bg _,λ_=>⟨rfl,rfl⟩⟩
 have AAE:∀B,B<w.heap.size->B=B'->∃t,m.HE b=some (B,n,e,t):=by
  rintro B G7 rfl;rcases hB with hB|⟨ks,h1,_⟩
  .omega
  .exact⟨t',h1⟩
 have lN:∀x B,m.box x=some B->h x≠some .KV->B≠B':=by
  rintro x B hx hd rfl;obtain⟨t,h1⟩:=AAE B (hr.XE hx) rfl;rcases hr.HE b n e0 hb with⟨_,h2⟩|⟨_,B2,t2,h2,ks,h3,_⟩
  .rw[h1]at h2;cases h2
  .rw[h1]at h2;cases h2;rw[hr.bK x _ hx hd]at h3;cases h3
 have Kk:∀x B,m.box x=some B->x≠b:=by
  exact Af2
 have AML:∀B o,m.KW B=some o->B≠B':=by
  rintro B o ho rfl;obtain⟨h1,h2,_⟩:=hr.KW B o ho;obtain⟨t,h3⟩:=AAE B (CU.1 h1).1 rfl;rcases hr.HE b n e0 hb with⟨_,h4⟩|⟨_,B2,t2,h4,ks,h5,_,vs,ty,h6,_⟩
  .rw[h3]at h4;cases h4
  .rw[h3]at h4;cases h4;rw[h1]at h6;cases h6;cases h2
 have AMl:∀x B k e1 t,x≠b->m.HE x=some (B,k,e1,t)->B≠B':=by
  rintro x B k e1 t hxb hx rfl;obtain⟨t2,h1⟩:=AAE B (hr.Ux hx) rfl;exact hxb (hr.Mi x b B k e1 t n e t2 hx h1)
 have pK:∀x y,m'.HE x=some y->(x=b/\y=(B',n',e,t'))\/(x≠b/\m.HE x=some y):=by
  intro x y hx;have Ts:(if x=b then some (B',n',e,t')else m.HE x)=some y:=hx;exact AeB
 refine⟨m',⟨hle,Of,λx B hx=> .inl ⟨x,hx⟩,λx B k e1 t hx=>?_,λB k hk=>?_,λB G7 hn=>?_,yB,fV,λa _=>YJ a,rfl⟩,It.congr (h:=λx=>if x=b then some (.HE n' e)else h x) ⟨λx o hx=>?_,λB o ho=>?_,λx k e1 hx=>?_,λB k hk=>?_,λx B hx=>?_,λx y hx=>?_,λx x' B hx Ts d d'=>?_,λx x' B k e1 t k' e1' t1' hx Ts=>?_,λx B hx hd=>?_,λx B hx=>Cv (hr.blt x B hx) Of⟩ λx=>JT ..,?_,?_,rfl⟩
 .rcases pK x _ hx with⟨_,h1⟩|⟨_,h1⟩
  .cases h1;rcases hB with hB|⟨ks,h2,_⟩
   .exact .inr hB
   .exact .inl ⟨b,_,_,_,h2⟩
  .exact .inl ⟨x,_,_,_,h1⟩
 .have Rm:(if B=B' then some Uw else m.K B)=some k:=hk;by_cases c:B=B'
  .rcases hB with hB|⟨ks,h2,_⟩
   .exact Ahd
   .exact .inl ⟨b,_,_,_,by rw[c];exact h2⟩
  .rw[Ng c]at Rm;exact .inr (.inl Rm)
 .refine K9 B (λc=>hn (.inr ?_)) G7;obtain⟨t,h1⟩:=AAE B G7 c;exact⟨b,_,_,_,h1⟩
 .by_cases c:x=b
  .exact AfQ
  .rw[Ng c]at hx;exact(hr.bl x o hx).Hi hle λhd B hB=>K9 B (lN x B hB (by rw[hx];exact MA hd)) (hr.XE hB)
 .obtain⟨h1,h2⟩:=hr.KW B o ho;exact⟨(K9 B (AML B o ho) (CU.1 h1).1).trans h1,h2⟩
 .by_cases c:x=b
  .rw[Ps c]at hx;cases hx;exact .inr ⟨AA,B',t',by show(if _ then _ else _)=_;rw[Ps c],Uw,by show(if _ then _ else _)=_;rw[Ps rfl],hl,vs,ty,YN,ht⟩
  .rw[Ng c]at hx;rcases hr.HE x k e1 hx with⟨h1,h2⟩|⟨h0,B,t,h1,ks,h2,h3,nY,ly,h4,h5⟩
   .exact AgX
   .have Kk:=AMl x B k e1 t c h1;exact .inr ⟨h0,B,t,by show(if _ then _ else _)=_;rw[Ng c];exact h1,ks,by show(if _ then _ else _)=_;rw[Ng Kk];exact h2,h3,nY,ly,by rw[K9 B Kk (hr.Ux h1)];exact h4,h5⟩
 .have Rm:(if B=B' then some Uw else m.K B)=some k:=hk;by_cases c:B=B'
  .rw[Ps c]at Rm;cases Rm;subst c;exact⟨vs,ty,YN,hp⟩
  .rw[Ng c]at Rm;obtain⟨nY,ly,h2,h3⟩:=hr.Xp B k Rm;exact⟨nY,ly,by rw[K9 B c (hr.vd Rm)];exact h2,h3⟩
 .exact Aei
 .rcases pK x y hx with⟨c,_⟩|⟨c,h1⟩
  .exact⟨n',e,by rw[Ps c]⟩
  .exact Agb
 .exact Aeb
 .rcases pK x _ hx with⟨c,h1⟩|⟨c,h1⟩<;>rcases pK x' _ Ts with⟨c',h2⟩|⟨c',h2⟩
  .rw[c,c']
  .cases h1;exact Zq rfl (AMl x' _ _ _ _ c' h2)
  .cases h2;exact Zq rfl (AMl x _ _ _ _ c h1)
  .exact hr.Mi x x' B _ _ _ _ _ _ h1 h2
 .show(if _ then _ else _)=_;rw[Ng (Kk x B hx)]at hd;rw[Ng (lN x B hx hd)];exact hr.bK x B hx hd
 .exact AfR
 .exact AfR
def It.qH(hr:It m h w){b:Nat}{o0:Obj}(hb:h b=some o0)(Yc:o0.Uu=false){B:Nat}(hB:m.box b=some B)(jj:∃o,w.heap[B]?=some o/\(dF o=true\/∃l c,o=.map l c)){w':World}{ob:Obj}(Pt:ob.rr=false)
  (mn:tq m w' b ob)(K9:∀k,k≠B->w'.heap[k]?=w.heap[k]?)(Of:w'.heap.size=w.heap.size)(yB:w'.os=w.os)(fV:w'.output=w.output)(YJ:∀a,w'.frozen? a=w.frozen? a):
  Lx m w m w'/\It m (λx=>bif Br x b then some ob else h x) w':=by
 have Vf:h b≠some .KV:=by rw[hb];exact MA Yc
 have hK:∀B' ks,m.K B'=some ks->B'≠B:=by
  rintro B' ks hk rfl;rw[hr.bK b _ hB Vf]at hk;cases hk
 have hO:∀x B' n e t,m.HE x=some (B',n,e,t)->B'≠B:=by
  intro x B' n e t hx;obtain⟨n',e',ho⟩:=hr.Qq x _ hx;rcases hr.HE x n' e' ho with⟨_,h1⟩|⟨_,B2,t2,h1,ks,h2,_⟩
  .rw[hx]at h1;cases h1
  .rw[hx]at h1;cases h1;exact hK _ ks h2
 have hE:∀B' o,m.KW B'=some o->B'≠B:=by
  rintro B' o ho rfl;obtain⟨h1,h2,h3⟩:=hr.KW B' o ho;obtain⟨o',h4,h5⟩:=jj;rw[h1]at h4;cases h4;rcases h5 with h5|⟨l,c,h5⟩
  .rw[h2]at h5;cases h5
  .exact h3 l c h5
 refine⟨⟨J.le.refl m,by rw[Of];exact Bg _,λb _ h=> .inl ⟨b,h⟩,λb B n e t h=> .inl ⟨b,n,e,t,h⟩,λ_ _ h=> .inr (.inl h),λB' _ hn=>K9 B' (λc=>hn (.inl ⟨b,by rw[c];exact hB⟩)),yB,fV,λa _=>YJ a,rfl⟩,
  It.congr (h:=λx=>if x=b then some ob else h x) ⟨λx o hx=>?_,λB' o ho=>?_,λx n e hx=>?_,λB' ks hk=>?_,λx B' hx=>?_,λx y hx=>?_,λx x' B hx Ts d d'=>?_,hr.Mi,λx B' hx d=>?_,λx B hx=>by rw[Of];exact hr.blt x B hx⟩ λx=>JT ..⟩
 .by_cases c:x=b
  .rw[Ps c]at hx;cases hx;subst c;exact mn
  .rw[Ng c]at hx;exact(hr.bl x o hx).Hi (J.le.refl m) λhd B' h1=>K9 B' (λe=>c (hr.LJ x b B' h1 (by rw[e];exact hB) (by rw[hx];exact MA hd) Vf))
 .obtain⟨h1,h2⟩:=hr.KW B' o ho;exact⟨(K9 B' (hE B' o ho)).trans h1,h2⟩
 .by_cases c:x=b
  .exact Agy
  .rw[Ng c]at hx;rcases hr.HE x n e hx with h1|⟨h0,B',t,h1,ks,h2,h3,nY,ly,h4,h5⟩
   .exact AgC
   .exact .inr ⟨h0,B',t,h1,ks,h2,h3,nY,ly,by rw[K9 B' (hO x B' n e t h1)];exact h4,h5⟩
 .obtain⟨nY,ly,h2,h3⟩:=hr.Xp B' ks hk;exact⟨nY,ly,by rw[K9 B' (hK B' ks hk)];exact h2,h3⟩
 .by_cases c:x=b
  .exact⟨ob,by rw[Ps c],Pt⟩
  .exact Agh
 .obtain⟨n,e,hd⟩:=hr.Qq x y hx;refine⟨n,e,?_⟩
  rw[Ng (by
   rintro rfl;obtain⟨o,h1,h2⟩:=hr.P6 x B hB;rw[hd]at h1;cases h1;cases h2)];exact hd
 .have key:∀x B,m.box x=some B->(if x=b then some ob else h x)≠some .KV->h x≠some .KV:=λx B hx d=>by
   by_cases c:x=b
   .rw[c];exact Vf
   .rwa [Ng c]at d
  exact hr.LJ x x' B hx Ts (key x B hx d) (key x' B Ts d')
 .by_cases c:x=b
  .subst c;exact hr.bK x B' hx Vf
  .rw[Ng c]at d;exact hr.bK x B' hx d
def It.AIk(hr:It m h w){b:Nat}{cs0:List PV}(hb:h b=some (.box cs0)){B:Nat}(hB:m.box b=some B){w':World}{cs:List PV}{vs:AV0}{ty:Bz}
  (YN:w'.heap[B]?=some (.cells vs ty (0,0)))(hc:LC m cs vs.toList)(K9:∀k,k≠B->w'.heap[k]?=w.heap[k]?)(Of:w'.heap.size=w.heap.size)(yB:w'.os=w.os)(fV:w'.output=w.output)(YJ:∀a,w'.frozen? a=w.frozen? a):
  Lx m w m w'/\It m (λx=>bif Br x b then some (.box cs)else h x) w':=by
 obtain⟨B0,vs0,ty0,h1,h2,_⟩:=hr.box b cs0 hb;rw[hB]at h1;cases h1;exact hr.qH hb rfl hB ⟨_,h2,.inl rfl⟩ rfl ⟨B,vs,ty,hB,YN,hc⟩ K9 Of yB fV YJ
def It.zB(hr:It m h w){b e:Nat}{cs0:List PV}(hb:h b=some (.K7 e cs0)){B:Nat}(hB:m.box b=some B){w':World}{cs:List PV}{vs:AV0}{ty:Bz}(hs:m.eO b=(e,vs.size))
  (YN:w'.heap[B]?=some (.cells vs ty (0,0)))(hc:LC m cs (vs.toList.take cs.length))(K9:∀k,k≠B->w'.heap[k]?=w.heap[k]?)(Of:w'.heap.size=w.heap.size)(yB:w'.os=w.os)(fV:w'.output=w.output)(YJ:∀a,w'.frozen? a=w.frozen? a):
  Lx m w m w'/\It m (λx=>bif Br x b then some (.K7 e cs)else h x) w':=by
 obtain⟨B0,vs0,ty0,h1,_,h2,_⟩:=hr.K7 b e cs0 hb;rw[hB]at h1;cases h1;exact hr.qH hb rfl hB ⟨_,h2,.inl rfl⟩ rfl ⟨B,vs,ty,hB,hs,YN,hc⟩ K9 Of yB fV YJ
def It.zC(hr:It m h w){b:Nat}{l0:ML}(hb:h b=some (.map l0)){B:Nat}(hB:m.box b=some B){w':World}{l:ML}{MH:Array MapEntry}{Ga:Nat}
  (YN:w'.heap[B]?=some (.map MH Ga))(hc:cQ l MH.toList)(K9:∀k,k≠B->w'.heap[k]?=w.heap[k]?)(Of:w'.heap.size=w.heap.size)(yB:w'.os=w.os)(fV:w'.output=w.output)(YJ:∀a,w'.frozen? a=w.frozen? a):
  Lx m w m w'/\It m (λx=>bif Br x b then some (.map l)else h x) w':=by
 obtain⟨B0,es,c,h1,h2,_⟩:=hr.map b l0 hb;rw[hB]at h1;cases h1;exact hr.qH hb rfl hB ⟨_,h2,.inr ⟨_,_,rfl⟩⟩ rfl ⟨B,MH,Ga,hB,YN,hc⟩ K9 Of yB fV YJ
def It.AR0(hr:It m h w){b:Nat}{o:Obj}(hb:h b=some o)(ho:o.rr=false):It m (λx=>bif Br x b then some .KV else h x) w:=by
 have key:∀x,(if x=b then some Obj.KV else h x)≠some .KV->x≠b/\h x≠some .KV:=λx d=>by
  by_cases c:x=b
  .rw[Ps c]at d;exact Zq rfl d
  .rw[Ng c]at d;exact⟨c,d⟩
 refine It.congr (h:=λx=>if x=b then some .KV else h x) ⟨λx o' hx=>?_,hr.KW,λx n e hx=>?_,hr.Xp,λx B' hx=>?_,λx y hx=>?_,λx x' B hx Ts d d'=>hr.LJ x x' B hx Ts (key x d).2 (key x' d').2,hr.Mi,λx B' hx d=>hr.bK x B' hx (key x d).2,hr.blt⟩ λx=>JT ..
 .by_cases c:x=b
  .exact AfQ
  .rw[Ng c]at hx;exact hr.bl x o' hx
 .by_cases c:x=b
  .rw[Ps c]at hx;cases hx
  .rw[Ng c]at hx;exact hr.HE x n e hx
 .by_cases c:x=b
  .exact⟨.KV,by rw[Ps c],rfl⟩
  .exact Agh
 .obtain⟨n,e,hd⟩:=hr.Qq x y hx;refine⟨n,e,?_⟩;rw[Ng (by rintro rfl;rw[hb]at hd;cases hd;cases ho)];exact hd
def It.lay(hr:It m h w){b:Nat}(hb:h b=none){B e t:Nat}{ob:Obj}(Pt:ob.rr=false)(G7:B<w.heap.size)(PS:∀x,m.box x=some B->h x=some .KV)(hK:m.K B=none)
  (mn:∀m':J,m.le m'->m'.box b=some B->m'.eO b=(e,t)->tq m' w b ob):
  ∃m',m.le m'/\It m' (λx=>bif Br x b then some ob else h x) w/\m'.box b=some B/\m'.eO b=(e,t)/\m'.K=m.K/\m'.HE=m.HE/\m'.KW=m.KW/\∀x B',m'.box x=some B'->m.box x=some B'\/B'=B:=by
 let m':J:={m with box:=λx=>if x=b then some B else m.box x,eO:=λx=>if x=b then(e,t)else m.eO x}
 have lN:∀x B,m.box x=some B->m'.box x=some B:=λx B hx=>by
  exact AhS
 have hle:m.le m':=⟨lN,Yn.refl _,λb B n e t h=>⟨B,n,t,h,Bg _,λ_=>⟨rfl,rfl⟩⟩,λx B hx=>by
  show(if _ then _ else _)=_;rw[Ng AU]⟩
 have NH:∀x B',m'.box x=some B'->(x=b/\B'=B)\/(x≠b/\m.box x=some B'):=by
  intro x B' hx;have Ts:(if x=b then some B else m.box x)=some B':=hx;exact AeB
 have Lz:m'.box b=some B:=by show(if _ then _ else _)=_;rw[Ps rfl]
 have L0:m'.eO b=(e,t):=by show(if _ then _ else _)=_;rw[Ps rfl]
 refine⟨m',hle,It.congr (h:=λx=>if x=b then some ob else h x) ⟨λx o hx=>?_,hr.KW,λx n e hx=>?_,hr.Xp,λx B' hx=>?_,λx y hx=>?_,λx x' B' hx Ts d1 d2=>?_,hr.Mi,λx B' hx hd=>?_,λx B' hx=>?_⟩ λx=>JT ..,Lz,L0,rfl,rfl,rfl,λx B' hx=>?_⟩
 .by_cases c:x=b
  .rw[Ps c]at hx;cases hx;subst c;exact mn m' hle Lz L0
  .exact Ag1
 .by_cases c:x=b
  .exact Agy
  .rw[Ng c]at hx;exact hr.HE x n e hx
 .rcases NH x B' hx with⟨c,_⟩|⟨c,h1⟩
  .exact⟨ob,by simp only[Ps c],Pt⟩
  .obtain⟨ds,hd⟩:=hr.P6 x B' h1;exact⟨ds,by simp only[Ng c];exact hd⟩
 .exact AfW
 .rcases NH x B' hx with⟨c,e⟩|⟨c,h1⟩<;>rcases NH x' B' Ts with⟨c',e'⟩|⟨c',h2⟩
  .rw[c,c']
  .rw[Ng c']at d2;rw[e]at h2;exact Zq (PS x' h2) d2
  .rw[Ng c]at d1;rw[e']at h1;exact Zq (PS x h1) d1
  .rw[Ng c]at d1;rw[Ng c']at d2;exact hr.LJ x x' B' h1 h2 d1 d2
 .rcases NH x B' hx with⟨c,e⟩|⟨c,h1⟩
  .rw[e];exact hK
  .rw[Ng c]at hd;exact hr.bK x B' h1 hd
 .rcases NH x B' hx with⟨c,e⟩|⟨c,h1⟩
  .rw[e];exact G7
  .exact hr.blt x B' h1
 .rcases NH x B' hx with⟨_,h1⟩|⟨_,h1⟩
  .exact .inr h1
  .exact AgC
def It.ph(hr:It m h w){b e0:Nat}(hb:h b=some (.HE 0 e0))(e:Nat):It m (λx=>bif Br x b then some (.HE 0 e)else h x) w:=by
 have h0:m.HE b=none:=by
  rcases hr.HE b 0 e0 hb with⟨_,h1⟩|⟨h0,_⟩
  .exact h1
  .omega
 have Kk:∀x B,m.box x=some B->x≠b:=by
  exact Af2
 refine It.congr (h:=λx=>if x=b then some (.HE 0 e)else h x) ⟨λx o hx=>?_,hr.KW,λx n e' hx=>?_,hr.Xp,λx B hx=>?_,λx y hx=>?_,λx x' B hx Ts d d'=>?_,hr.Mi,λx B hx d=>?_,hr.blt⟩ λx=>JT ..
 .exact Ahq
 .by_cases c:x=b
  .rw[Ps c]at hx;cases hx;subst c;exact .inl ⟨rfl,h0⟩
  .rw[Ng c]at hx;exact hr.HE x n e' hx
 .exact Aei
 .obtain⟨n,e',hc⟩:=hr.Qq x y hx;refine⟨n,e',?_⟩;rw[Ng (by rintro rfl;rw[h0]at hx;cases hx)];exact hc
 .exact Aeb
 .exact Ahb
end
end
section
open Go.Ab (Rh O7 SB LH R7 Oz L3 IP JM Mj LL Xo Nj K4 MD UB)
section
variable{P:Program} {m:J} {h:Nat->Option Obj} {w:World}
def ao(hr:It m h w){B j:Nat}{ks:LV}{v:Bk}(hk:m.K B=some ks)(hv:ks[j]?=some v):w.cell? ⟨B,j,none⟩=some v:=by obtain⟨vs,ty,h1,r,h2⟩:=hr.Xp B ks hk;rw[Df w B j vs ty (0,0) h1,<- Cz,<- h2,CL (Bp.1 hv).1];exact hv
def q9{v:Bk}{a:PV}(h:zr v=some a):VR m a v:=by
 unfold zr at h;split at h<;>first|(cases h;done)|skip
 all_goals(simp at h;subst h)
 .exact .data _ _ (.bool _)
 .exact AhY
 .exact .data _ _ (.Gh _)
 .exact .nil
 .exact .PY
 .exact .Za
 .exact .nfn
 .exact .TL
def jD:∀{l:LV} {k:List PV},oV l=some k->LC m k l
 |[],k,h=>by simp[oV]at h;subst h;exact .nil
 |v::r,k,h=>by
  simp only[oV]at h;cases h1:zr v with
  |none=>simp[h1]at h
  |some a=>
   cases h2:oV r with
   |none=>simp[h1,h2]at h
   |some l=>simp[h1,h2]at h;subst h;exact .cons _ _ _ _ (q9 h1) (jD h2)
def oU{v:Bk}{a:PV}(h:cst v=some a):VR m a v:=by
 unfold cst at h;split at h
 .rename_i cs;cases h2:oV cs.toList with
  |none=>simp[h2]at h
  |some l=>simp[h2]at h;subst h;exact .agg _ cs.toList (jD h2)
 .rename_i cs;cases h2:oV cs.toList with
  |none=>simp[h2]at h
  |some l=>simp[h2]at h;subst h;exact .tuple _ cs.toList (jD h2)
 .exact q9 h
def rA{v:Bk}:cst v≠some .SQ:=by
 intro h;unfold cst at h;split at h
 .split at h<;>simp at h
 .split at h<;>simp at h
 .unfold zr at h;split at h<;>simp at h
def k9{t:Bz}{z:PV}(h:VU P t=some z):∃i v,P.info? t=some i/\i.zero=some v/\cst v=some z:=by
 unfold VU at h;cases hi:P.info? t with
 |none=>simp[hi]at h
 |some i=>
  cases hz:i.zero with
  |none=>simp[hi,hz]at h
  |some v=>simp[hi,hz]at h;exact⟨i,v,rfl,hz,h⟩
def XO{t:Bz}{z:PV}(h:VU P t=some z)(w:World):∃v,(zeroValue t).run P w=.ok v w/\(∀m,VR m z v)/\z≠ .SQ:=by obtain⟨i,v,hi,hz,hc⟩:=k9 h;exact⟨v,by simp[zeroValue,typeInfo,hi,hz],λm=>oU hc,λe=>by rw[e]at hc;exact rA hc⟩
def SG{a:PV}{n:Nat}(h:Lv a=some n){v:Bk}(hv:VR m a v):∃k,v=.int k (n:Int):=by
 unfold Lv at h;split at h
 .rename_i k i;split at h
  .simp at h;subst h;cases hv with
   |data _ _ hd=>cases hd;exact⟨k,by rw[Int.toNat_of_nonneg ‹_›]⟩
  .cases h
 .cases h
def oW{t:Bz}{cs:List PV}{o:Nat}{x:PV}(hx:uc P t cs o=some x){vs:LV}(hc:LC m cs vs){B IW:Nat}
  (JP:∀j v,vs[j]?=some v->w.cell? ⟨B,IW+j,none⟩=some v):∃v',(Dr t (.pointer (some ⟨B,IW+o,none⟩))).run P w=.ok v' w/\VR m x v':=by
 unfold uc at hx;split at hx
 .rename_i SS;split at hx
  .rename_i n hs;split at hx
   .rename_i hle;simp at hx;subst hx;have hl:=hc.length;have HM:((vs.drop o).take n).length=n:=by simp;omega
    refine⟨.agg ((vs.drop o).take n).toArray,?_,.agg _ _ ((hc.drop o).take n)⟩
    have:=run_loadCells_list (P:=P) w ⟨B,IW+o,none⟩ ((vs.drop o).take n) (λj v hv=>by
     rw[DC,DY];apply JP;rw[C1]at hv;split at hv
     .rw[Cu]at hv;exact hv
     .cases hv)
    rw[HM]at this;simp[Dr,DJ,loadVar,LL SS,IP hs,this]
   .cases hx
  .cases hx
 .rename_i SS;obtain⟨v,hv,hvr⟩:=hc.get hx;exact⟨v,by simp[Dr,DJ,loadVar,LL SS,JP o v hv],hvr⟩
 .cases hx
def AEZ{t:Bz}{l:List PV}{cs:AV0}{off:Nat}{y:PV}(h:uc P t l off=some y)(hl:LC m l cs.toList)(w:World):
  ∃v,(part t cs off).run P w=.ok v w/\VR m y v:=by
 unfold uc at h;split at h
 .rename_i SS;split at h
  .rename_i n hs;split at h
   .simp at h;subst h;refine⟨.agg (cs.extract off (off+n)),by simp[part,LL SS,IP hs],?_⟩;have:=VR.agg (m:=m) _ _ ((hl.drop off).take n)
    have e:(List.take n (List.drop off cs.toList)).toArray=cs.extract off (off+n):=by
     apply Array.ext';simp[Array.toList_extract,List.extract_eq_take_drop]
    rw[e]at this;exact this
   .cases h
  .cases h
 .rename_i SS;obtain⟨v,hv,hvr⟩:=hl.get h;exact⟨v,by simp[part,LL SS];rw[show cs[off]?=some v by simpa using hv];rfl,hvr⟩
 .cases h
def z4{t:Bz}{x y:PV}{f:Nat}(h:uz P t f x=some y){v:Bk}(hx:VR m x v)(w:World):
  ∃v',(FF t v f).run P w=.ok v' w/\VR m y v':=by
 unfold uz at h;split at h
 .rename_i fd hfd;obtain⟨fs,hu,hf⟩:=Mj hfd;split at h
  .rename_i l;cases hx with
   |data _ _ hd=>cases hd
   |agg _ l' hl=>
    obtain⟨v',h1,h2⟩:=AEZ (cs:=l'.toArray) h AaW w;exact⟨v',by simp[FF,Bv hu,hf,asAgg,h1],h2⟩
  .cases h
 .cases h
def lK{t:Bz}{x y:PV}{f:Nat}(h:ZC P t f x=some y){v:Bk}(hx:VR m x v)(w:World):
  ∃v',(FQ t v f).run P w=.ok v' w/\VR m y v':=by
 unfold ZC at h;split at h
 .rename_i fd hfd;obtain⟨fs,hu,hf⟩:=Mj hfd;split at h
  .rename_i n hs;split at h
   .rename_i b o;simp at h;subst h;cases hx with
    |data _ _ hd=>cases hd
    |GN _ _ B hm=>
     refine⟨.pointer (some ⟨B,o+fd.offset,none⟩),?_,.GN _ _ _ hm⟩;simp[FQ,Bv hu,hf,DJ,fieldPlace,IP hs,DC]
   .rename_i GG o;simp at h;subst h;cases hx with
    |data _ _ hd=>cases hd
    |MP _ _ B IW ks hk hl hd=>
     refine⟨.pointer (some ⟨B,IW+(o+fd.offset),none⟩),?_,.MP _ _ _ _ _ hk hl hd⟩;simp[FQ,Bv hu,hf,DJ,fieldPlace,IP hs,DC,DY]
   .cases h
  .cases h
 .cases h
def AAy{GK:List (List PV)}{i size:Nat}{y:PV}(h:b8 size GK i=some y){v:Bk}(hd:DR m.K (.GV GK) v):
  ∃B o c,v=.slice (some ⟨B,o,none⟩) GK.length c/\i<GK.length/\VR m y (.pointer (some ⟨B,o+i*size,none⟩)):=by
 unfold b8 at h;split at h
 .rename_i GG Gl;cases hb:Br GG.length size with
  |false=>simp[hb]at h
  |true=>
   simp[hb]at h;subst h;have Of:=B5 hb;have hi:=(Bp.1 Gl).1;cases hd with
   |none=>simp at hi
   |GV _ B o c sz ks hk h0 hc hl hr hd=>
    have h1:=hr i GG Gl;have h2:=hd i GG Gl;have AV3:sz=size:=AA;subst AV3;refine⟨B,o,c,rfl,hi,?_⟩;have:=VR.MP (m:=m) GG 0 B (o+i*sz) ks hk (by rw[h1];exact eI hi hl) (by rw[h1];exact h2);exact Aea
 .cases h
def la{t:Bz}{x i y:PV}(h:ZQ P t x i=some y){v u:Bk}(hx:VR m x v)(hi:VR m i u)(w:World):
  ∃v',(EU t v u).run P w=.ok v' w/\VR m y v':=by
 unfold ZQ at h;split at h
 .rename_i n hn;obtain⟨k,rfl⟩:=SG hn hi;split at h
  .rename_i e hu;split at h
   .rename_i size hs
    have key:∀GK,x.GK=some GK->b8 size GK n=some y->∃v',(EU t v (.int k n)).run P w=.ok v' w/\VR m y v':=by
     intro GK Gl SU;obtain⟨B,o,c,rfl,G7,hvr⟩:=AAy SU (hx.GK Gl);refine⟨_,?_,hvr⟩;simp[EU,Ep,Bv hu,IP hs,DC,G7]
    split at h
    .rename_i b len;split at h
     .rename_i G7;simp at h;subst h;cases hx with
      |data _ _ hd=>cases hd
      |ME _ _ B c hm hc=>
       refine⟨.pointer (some ⟨B,n*size,none⟩),?_,.GN _ _ _ hm⟩;simp[EU,Ep,Bv hu,IP hs,DC,G7]
     .cases h
    .exact key _ rfl h
    .exact key _ rfl h
    .cases h
   .cases h
  .rename_i len e hu;split at h
   .rename_i size hs;split at h
    .rename_i b o;split at h
     .rename_i G7;simp at h;subst h;cases hx with
      |data _ _ hd=>cases hd
      |GN _ _ B hm=>
       refine⟨.pointer (some ⟨B,o+n*size,none⟩),?_,.GN _ _ _ hm⟩;simp[EU,Ep,Bv hu,DJ,IP hs,DC,G7]
     .cases h
    .cases h
   .cases h
  .cases h
 .cases h
def AAM{t:Bz}{x i y:PV}(h:vS P t x i=some y){v u:Bk}(hx:VR m x v)(hi:VR m i u)(w:World):
  ∃v',(Instr.index t v u).run P w=.ok v' w/\VR m y v':=by
 unfold vS at h;split at h
 .rename_i n hn;obtain⟨k,rfl⟩:=SG hn hi;split at h
  .rename_i hu;split at h
   .rename_i s;split at h
    .rename_i b hb;simp at h;subst h;cases hx with
     |data _ _ hd=>
      cases hd;exact⟨.int .u8 b.toNat,by simp[Instr.index,Ep,Bv hu,hb],.data _ _ (.int _ _)⟩
    .cases h
   .cases h
  .cases h
 .cases h
def Mp(o:ON)(v:Option Bk):Prop:=Go.Ab.Mp o v
def AEl{K:KK}{GK:List (List PV)}{B o c:Nat}{lo n:Nat}(h:DR K (.GV GK) (.slice (some ⟨B,o,none⟩) GK.length c))(hn:lo+n<=GK.length)(Va:0<n):
  ∃sz,(∀GG,GG∈GK->GG.length=sz)/\∀c',n<=c'->DR K (.GV ((GK.drop lo).take n)) (.slice (some ⟨B,o+lo*sz,none⟩) n c'):=by
 have Kk:GK≠[]:=by rintro rfl;simp at hn;omega
 cases h with
 |none=>exact Zq rfl Kk
 |GV _ _ _ _ sz ks hk h0 hc hl hr hd=>
  refine⟨sz,λGG hm=>?_,λc' pD=>?_⟩
  .obtain⟨i,hi⟩:=EZ hm;exact hr i GG hi
  .have HM:((GK.drop lo).take n).length=n:=by simp;omega
   have lQ:∀i GG,((GK.drop lo).take n)[i]?=some GG->GK[lo+i]?=some GG:=by
    intro i GG hi;rw[C1]at hi;split at hi
    .rw[Cu]at hi;exact hi
    .cases hi
   have hle:o+lo*sz+n*sz<=ks.length:=by
    have:(lo+n)*sz<=GK.length*sz:=DD _ hn;rw[Ce]at this;omega
   have:=DR.GV (K:=K) ((GK.drop lo).take n) B (o+lo*sz) c' sz ks hk AA AA (by rw[HM];exact hle) (λi GG hi=>hr _ GG (lQ i GG hi)) (λi GG hi=>by
    rw[show o+lo*sz+i*sz=o+(lo+i)*sz by rw[Ce];omega];exact hd _ GG (lQ i GG hi))
   rw[HM]at this;exact this
def AA4{t:Bz}{x y:PV}{KN NL:ON}(h:wV P t x KN NL=some y){v:Bk}{lo hi:Option Bk}(hx:VR m x v)
  (h1:Go.Ab.Mp KN lo)(h2:Go.Ab.Mp NL hi)(w:World):
  ∃v',(EV t v lo hi none).run P w=.ok v' w/\VR m y v':=by
 unfold wV at h;split at h
 .rename_i hu;split at h
  .rename_i s;split at h
   .rename_i hb;obtain⟨Lz,L0⟩:=hb;simp at h;subst h;cases hx with
    |data _ _ hd=>
     cases hd;have hB:=UB (P:=P) (bS:=false) (len:=s.size) (cap:=s.size) h1 h2 (max:=none) (mx:=none) trivial AD (.inl (by simpa using Lz)) L0 (.inl rfl) w;refine⟨.string (s.extract (KN.getD 0) (NL.getD s.size)),?_,.data _ _ (.Gh _)⟩;simp only[EV,B6,Bv hu,Result.andThen_ok,Fs];simp;rw[hB];rfl
   .cases h
  .cases h
 .rename_i e hu;split at h
  .rename_i size hs;split at h
   .rename_i b n;split at h
    .rename_i hb;obtain⟨rfl,Lz⟩:=hb;simp only[Bh]at h;subst h;cases hx with
     |data _ _ hd=>cases hd
     |ME _ _ B c hB hc Of=>
      have hB1:=UB (P:=P) (bS:=true) (len:=n) (cap:=c) h1 h2 (max:=none) (mx:=none) trivial AD (.inl AB) AD (.inl rfl) w;refine⟨_,?_,.ME b _ B c hB AA Of⟩;simp only[EV,B6,Bv hu,Result.andThen_ok,Fs,hB1,IP hs,Sem.run_pure,Option.getD_none];simp[DC]
    .cases h
   split at h
   .rename_i GK NJ;split at h
    .rename_i hb;obtain⟨Lz,L0,ma⟩:=hb;simp at h;subst h;have hd:=hx.GK NJ;have ARY:∀GG∈GK,GG.length=size:=λGG hm=>B5 (CY.1 ma GG hm)
     have fin:∀(a:Option Addr) (c:Nat),v=.slice a GK.length c->GK.length<=c->(EV t v lo hi none).run P w=
       .ok (.slice (if c=KN.getD 0 then a else a.map λa=>a.add (KN.getD 0*size)) (NL.getD GK.length-KN.getD 0) (c-KN.getD 0)) w:=by
      rintro a c rfl hc;have hB:=UB (P:=P) (bS:=true) (len:=GK.length) (cap:=c) h1 h2 (max:=none) (mx:=none) trivial AD (.inl AB) L0 (.inl rfl) w;simp only[EV,B6,Bv hu,Result.andThen_ok,Fs,hB,IP hs,Sem.run_pure,Option.getD_none]
     by_cases Va:0<NL.getD GK.length-KN.getD 0
     .have Vf:=hd;cases hd with
      |none=>simp only[List.length_nil]at Lz Va;omega
      |GV _ B o c sz ks hk h0 hc hl hr mb=>
       obtain⟨sz',AV2,pE⟩:=AEl Vf (lo:=KN.getD 0) (n:=NL.getD GK.length-KN.getD 0) AA Va
       have Of:sz'=size:=by
        obtain⟨GG,hm⟩:∃GG,GG∈GK:=⟨GK[0]'h0,AD⟩
        rw[<- AV2 GG hm,ARY GG hm]
       subst Of;refine⟨_,fin _ c rfl hc,?_⟩;rw[Ng AA];simp only[Option.map_some,DC];exact .data _ _ (pE _ AA)
     .have h0:NL.getD GK.length-KN.getD 0=0:=AA;rw[h0];simp only[List.take_zero];cases hd with
      |none a c ha=>
       refine⟨_,fin a c rfl (DO _),?_⟩;simp only[List.length_nil]at*;rw[h0];refine .data _ _ (.none _ _ λhn=>?_);split at hn
       .rename_i Pq;omega
       .cases a with
        |none=>rw[ha rfl];simp
        |some a=>simp at hn
      |GV _ B o c sz ks hk h0' hc hl hr mb=>
       refine⟨_,fin _ c rfl hc,?_⟩;rw[h0];refine .data _ _ (.none _ _ λhn=>?_);split at hn<;>simp at hn
    .cases h
   .cases h
  .cases h
 .cases h
end
end
section
open Go.Ab (Rh O7 SB LH R7 Oz L3 IP JM Mj LL Xo Nj K4 TR)
section
variable{P:Program} {m:J} {h:Nat->Option Obj} {w:World}
def mE(m:J):List (Nat×PV)->List (Nat×Bk)->Prop
 |[],[]=>True
 |(i,a)::r,(j,v)::r'=>i=j/\VR m a v/\mE m r r'
 |_,_=>False
def Zl{cs k xs:List PV}{vs ys:LV}{o:Nat}(h:MU cs o xs=some k)(hc:LC m cs vs)(hx:LC m xs ys):
  o+ys.length<=vs.length/\LC m k (vs.take o++ys++vs.drop (o+ys.length)):=by
 unfold MU at h;split at h
 .rename_i hle;simp at h;subst h;rw[hx.length,hc.length]at hle;refine⟨hle,?_⟩;rw[hx.length,<- B3];exact((hc.take o).append hx).append (hc.drop _)
 .cases h
def rI{JF vu:Nat->Option (Nat×Nat)}(hp:∀i p,vu i=some p->JF i=some p):∀{JL:List (Nat×PV)} {Nh:List (Nat×Bk)} {l k:List PV} {cs:AV0},
  mE m JL Nh->(∀p∈JL,p.2≠ .SQ)->LC m l cs.toList->rH vu l JL=some k->∃Oc,Et JF cs Nh=some Oc/\LC m k Oc.toList
 |[],[],l,k,cs,_,_,hl,h=>by simp[rH]at h;subst h;exact⟨cs,rfl,hl⟩
 |(i,a)::r,(j,v)::r',l,k,cs,hpr,hg,hl,h=>by
  obtain⟨rfl,hav,Lu⟩:=hpr;simp only[rH]at h;cases fW:vu i with
  |none=>simp[fW]at h
  |some p=>
   obtain⟨off,size⟩:=p;simp only[fW]at h;cases hc:Br a.cells.length size with
   |false=>simp[hc]at h
   |true=>
    simp only[hc,cond_true]at h;have hc:=B5 hc;split at h
    .rename_i cs2 hsp;have hac:=hav.cells (hg _ Bw);obtain⟨g1,g2⟩:=Zl hsp hl hac;have rQ:=Xo v.cells.toList cs off 0 (by simp at g1⊢;omega);simp only[DN]at rQ
     have hrel:LC m cs2 ((v.cells.zipIdx.foldl (λcs (x:Bk×Nat)=>cs.setIfInBounds (off+x.2) x.1) cs)).toList:=by
      rw[<- Eh,TR,rQ];exact g2
     obtain⟨Oc,g3,g4⟩:=rI hp Lu (λp hp=>hg p (Bq _ hp)) hrel h;refine⟨Oc,?_,g4⟩;simp only[Et,hp _ _ fW];rw[Ng]
     .exact g3
     .have:=hac.length;simp at this g1⊢;omega
    .cases h
 |[],_::_,_,_,_,h,_,_,_=>h.elim
 |(_,_)::_,[],_,_,_,h,_,_,_=>h.elim
def zY{t:Bz}{JL:List (Nat×PV)}{Nh:Array (Nat×Bk)}(hp:mE m JL Nh.toList)(hg:∀p∈JL,p.2≠ .SQ){a:PV}(h:uN P t JL=some a)(w:World):
  ∃v,(Instr.build t Nh).run P w=.ok v w/\VR m a v:=by
 unfold uN at h;cases hz:VU P t with
 |none=>simp[hz]at h
 |some z=>
  obtain⟨zv,hzv,hzr,hzg⟩:=XO hz w;simp only[hz]at h;split at h
  .rename_i TH hu;cases JO:Go.Ab.Vn P TH.toList with
   |false=>simp[JO]at h
   |true=>
    simp only[JO,cond_true]at h;split at h
    .rename_i l hl;simp at h;subst h
     have AHU:∃pn:Array (Nat×Nat),(TH.mapM (m:=Sem) λf=>do pure (f.offset,<- sizeOf f.type)).run P w=.ok pn w/\∀i p,vv P TH i=some p->pn[i]?=some p:=by
      have AMP:∀(fs:List Field),Go.Ab.Vn P fs=true->∃ps:List (Nat×Nat),(fs.mapM (m:=Sem) λf=>do pure (f.offset,<- sizeOf f.type)).run P w=.ok ps w/\
        ∀(i:Nat) (f:Field) (s:Nat),fs[i]?=some f->Rh P f.type=some s->ps[i]?=some (f.offset,s):=by
       intro fs
       induction fs with
       |nil=>intro _;exact⟨[],AD,λi f s h=>by simp at h⟩
       |cons f fs ih=>
        intro JO;simp only[Go.Ab.Vn,Co,Bo]at JO;obtain⟨ps,h1,h2⟩:=ih (by simpa[Go.Ab.Vn]using JO.2);obtain⟨inf,ADF⟩:=DH.1 JO.1;refine⟨(f.offset,inf.size)::ps,?_,?_⟩
        .have Of:(sizeOf f.type).run P w=.ok inf.size w:=IP (by simp[Rh,ADF]) w;simp only[List.mapM_cons,B6,Of,Result.andThen_ok,Sem.run_pure];rw[h1];rfl
        .intro i f' s hf hs;cases i with
         |zero=>simp at hf;subst hf;simp[Rh,ADF]at hs;simp[hs]
         |succ i=>simp at hf;simpa using h2 i f' s hf hs
      obtain⟨ps,h1,h2⟩:=AMP TH.toList JO;refine⟨ps.toArray,?_,?_⟩
      .rw[<- Array.toArray_toList (xs:=TH),List.mapM_toArray,Sem.run_map,h1];rfl
      .intro i p hip;unfold vv at hip;split at hip
       .rename_i f hf;split at hip
        .rename_i s hs;simp at hip;subst hip;simpa using h2 i f s (by simpa using hf) hs
        .cases hip
       .cases hip
     obtain⟨pn,AVl,AMn⟩:=AHU;obtain⟨Oc,g1,g2⟩:=rI (JF:=(pn[·]?)) AMn hp hg ((hzr m).cells hzg) hl;refine⟨.agg Oc,?_,?_⟩
     .simp only[Instr.build,B6,hzv,Result.andThen_ok,Bv hu,AVl,g1];rfl
     .have:=VR.agg (m:=m) l Oc.toList g2;exact Aea
    .cases h
  .cases h
def ue{a:PV}{GG:List PV}(h:JC a.cells=some GG):a≠ .SQ:=by rintro rfl;simp[PV.cells,JC,PV.data]at h
def rD:∀{a:PV} {GG:List PV},TG a.cells=some GG->a≠ .SQ:=by rintro a GG h rfl;simp[PV.cells,TG,PV.mT,PV.data]at h
def rC{N:Bool}{a:PV}{GG:List PV}(h:ud N a.cells=some GG):a≠ .SQ:=by
 cases N
 .exact ue h
 .exact rD h
def VR.qF{a x:PV}{v:Bk}(h:VR m a v)(hr:a.mT=some x):DR m.K x v:=by
 unfold PV.mT at hr;split at hr
 .simp only[Bh]at hr;subst hr;cases h with
  |data _ _ hd=>exact hd
  |nil=>exact .nil
 .exact h.Q7 hr
def LC.qF{l k:List PV}{l':LV}(h:LC m l l')(hk:TG l=some k):Pk m.K k l':=by
 induction l generalizing k l' with
 |nil=>simp[TG]at hk;subst hk;cases h;exact .nil
 |cons a l ih=>
  cases h with
  |cons _ v _ l' h1 h2=>
   simp only[TG]at hk;cases hd:a.mT with
   |none=>simp[hd]at hk
   |some x=>
    cases hl:TG l with
    |none=>simp[hd,hl]at hk
    |some k'=>simp[hd,hl]at hk;subst hk;exact .cons _ _ _ _ (h1.qF hd) (ih h2 hl)
def LC.AIi{N:Bool}{l k:List PV}{l':LV}(h:LC m l l')(hk:ud N l=some k):Pk m.K k l':=by
 cases N
 .exact h.Q7 hk
 .exact h.qF hk
def mV{N:Bool}{size:Nat}:∀{JL:List (Nat×PV)} {Nh:List (Nat×Bk)} {k:Nat} {GK:List (List PV)} {cs:AV0},
  mE m JL Nh->Pe N size k JL=some GK->(k+JL.length)*size<=cs.size->
  ∃Oc:AV0,Et (λi=>some (i*size,size)) cs Nh=some Oc/\Oc.size=cs.size/\(∀j,j<k*size->Oc[j]?=cs[j]?)/\(∀j,(k+JL.length)*size<=j->Oc[j]?=cs[j]?)/\GK.length=JL.length/\
   ∀i GG,GK[i]?=some GG->GG.length=size/\Pk m.K GG ((Oc.toList.drop ((k+i)*size)).take size)
 |[],[],k,GK,cs,_,h,_=>by
  simp[Pe]at h;subst h;exact⟨cs,rfl,rfl,λ_ _=>rfl,λ_ _=>rfl,rfl,λi GG hi=>by simp at hi⟩
 |(i,a)::r,(j,v)::r',k,GK,cs,hpr,h,Of=>by
  obtain⟨rfl,hav,Lu⟩:=hpr;simp only[Pe]at h;cases hc:Br i k&&Br a.cells.length size with
  |false=>simp[hc]at h
  |true=>
   simp only[hc,cond_true]at h;obtain⟨ZI,Tj⟩:=Go.Ab.and_true hc;have dj:=B5 ZI;have hl:=B5 Tj;subst dj;split at h
   .rename_i GG Gl;split at h
    .rename_i l cM;simp at h;subst h;have hac:=hav.cells (rC Gl);have hd:=hac.AIi Gl;have HM:=hac.length;simp only[Cp]at HM;have YL:(i+(r.length+1))*size=i*size+size+r.length*size:=by rw[Ce,Ce,Dn];omega
     simp only[CE]at Of;rw[YL]at Of;have hle:i*size+v.cells.toList.length<=cs.toList.length:=by simp;omega
     have rQ:=Xo v.cells.toList cs (i*size) 0 AB;simp only[DN]at rQ;let Od:=(v.cells.zipIdx.foldl (λcs (x:Bk×Nat)=>cs.setIfInBounds (i*size+x.2) x.1) cs)
     have AQl:Od.toList=cs.toList.take (i*size)++v.cells.toList++cs.toList.drop (i*size+v.cells.toList.length):=by
      show(v.cells.zipIdx.foldl _ cs).toList=_;rw[<- Eh,TR,rQ]
     have Kq:Od.size=cs.size:=by
      have:=K4 cs.toList (i*size) v.cells.toList hle;rw[<- AQl]at this;exact Aea
     have Rl:∀j,Od[j]?=if i*size<=j/\j<i*size+v.cells.toList.length then v.cells.toList[j-i*size]? else cs[j]?:=by
      intro j;rw[<- Cz,AQl,Nj _ _ _ hle];simp
     obtain⟨Oc,g1,g2,g3,g4,g5,g6⟩:=mV (N:=N) (size:=size) (k:=i+1) (cs:=Od) Lu cM (by rw[Kq,DY,Nat.add_comm 1,YL];exact Of);have dk:(i+1)*size=i*size+size:=by rw[Ce,Dn]
     refine⟨Oc,?_,g2.trans Kq,λj hj=>?_,λj hj=>?_,by simp[g5],λp AWh hp=>?_⟩
     .simp only[Et];rw[Ng]
      .exact g1
      .simp;omega
     .rw[g3 j AA,Rl,Ng AA]
     .simp only[CE]at hj;rw[YL]at hj;rw[g4 j (by rw[DY,Nat.add_comm 1,YL];exact hj),Rl,Ng AB]
     .cases p with
      |zero=>
       simp at hp;subst hp;refine⟨by rw[hd.length];simp;omega,?_⟩
       have:(Oc.toList.drop ((i+0)*size)).take size=v.cells.toList:=by
        apply DK;intro j;rw[DN,C1];by_cases hj:j<size
        .rw[Ps hj,Cu,Cz,g3 _ AA,Rl,Ps AB];congr 1;omega
        .rw[Ng hj,Ck AB]
       rw[this];exact hd
      |succ p=>
       simp at hp;have:=g6 p AWh hp;rw[show i+(p+1)=i+1+p by omega];exact this
    .cases h
   .cases h
 |[],_::_,_,_,_,h,_,_=>h.elim
 |(_,_)::_,[],_,_,_,h,_,_=>h.elim
def gu(hr:It m h w){t:Bz}{len:Nat}{JL:List (Nat×PV)}{Nh:Array (Nat×Bk)}(hp:mE m JL Nh.toList){N:Bool}{a:PV}(ha:Vr P N t len JL=some a):
  ∃v w' m',(Ds t len Nh).run P w=.ok v w'/\Lx m w m' w'/\It m' h w'/\VR m' a v:=by
 unfold Vr at ha;split at ha
 .rename_i e he;split at ha
  .rename_i size hs;cases hb:Nat.ble (len*(size+1)) 16777216&&Br JL.length len with
   |false=>simp[hb]at ha
   |true=>
    simp only[hb,cond_true]at ha;obtain⟨Lz,L0⟩:=Go.Ab.and_true hb;have Lz:=Go.Ab.Rw Lz;have L0:=B5 L0;split at ha
    .rename_i z hz;cases hl:Br z.cells.length (size+1)with
     |false=>simp[hl]at ha
     |true=>
      simp only[hl,cond_true]at ha;split at ha
      .rename_i GK NJ;simp at ha;subst ha;obtain⟨zv,hzv,hzr,hzg⟩:=XO hz w
       have hzl:zv.cells.size=size+1:=by
        have:=((hzr m).cells hzg).length;rw[B5 hl]at this;simpa using this.symm
       let Z:AV0:=if len*(size+1)=0 then(Ea (len*(size+1))).map (λi=>(#[]:AV0)[i%0]!)else(Ea (len*(size+1))).map (λi=>zv.cells[i%zv.cells.size]!)
       have hZs:Z.size=len*(size+1):=by
        show(if _ then _ else _:AV0).size=_;split<;>simp
       obtain⟨Oc,g1,g2,g3,g4,g5,g6⟩:=mV (N:=N) (size:=size+1) (k:=0) (cs:=Z) hp NJ (by rw[hZs,L0,CZ];exact Bg _);have JK:Oc.size=GK.length*(size+1):=by rw[g2,hZs,g5,L0]
       obtain⟨m',k1,k2,k3,k4,k5⟩:=hr.AWT Oc e Oc.toList (Cs _);have HM:GK.length=len:=AA;refine⟨.slice (some ⟨w.heap.size,0,none⟩) len len,_,m',?_,k1,k2,?_⟩
       .have OK:¬(len*(size+1)>2^24):=AA;by_cases h0:len*(size+1)=0
        .have hZ0:Z=(Ea (len*(size+1))).map (λi=>(#[]:AV0)[i%0]!):=by
          show(if _ then _ else _:AV0)=_;rw[Ps h0]
         rw[hZ0]at g1;simp only[Ds,B6,Bv (JM he),Result.andThen_ok,IP hs,Ng OK,Ps h0,Sem.run_pure,pure_bind];simp only[C9,List.length_nil,g1,Go.Ab.Ni];exact Agz
        .have hZ0:Z=(Ea (len*(size+1))).map (λi=>zv.cells[i%zv.cells.size]!):=by
          show(if _ then _ else _:AV0)=_;rw[Ng h0]
         rw[hZ0]at g1;simp only[Ds,B6,Bv (JM he),Result.andThen_ok,IP hs,Ng OK,Ng h0,hzv,Sem.run_pure,pure_bind];simp only[g1];exact Agz
       .by_cases h0:len=0
        .have:GK=[]:=List.eq_nil_of_length_eq_zero AA;subst this;rw[h0];exact .data _ _ (.none _ _ λhn=>by cases hn)
        .have:=DR.GV (K:=m'.K) GK w.heap.size 0 len (size+1) Oc.toList k3 AA AA (by simp[JK]) (λi GG hi=>(g6 i GG hi).1) (λi GG hi=>by
          have:=((g6 i GG hi).2).mono k1.le.K;simpa using this)
         rw[HM]at this;exact .data _ _ this
      .cases ha
    .cases ha
  .cases ha
 .cases ha
def kA{α:Type}(f:Nat->α):(Ea 0).map f=#[]:=by apply Array.ext<;>simp
def fM(hr:It m h w){t:Bz}{Nh:Array (Nat×Bk)}(hp:Nh=#[]){st He:St}(I0:st.heap=h){q:JJ}(hq:Vq P t=some q){y:PV}(HW:q.run st=some (y,He))(hf:∀b,st.next<=b->b<He.next->st.heap b=none):
  ∃v w' m',(Ds t 0 Nh).run P w=.ok v w'/\Lx m w m' w'/\It m' He.heap w'/\VR m' y v:=by
 subst hp;unfold Vq at hq;split at hq
 .rename_i e he;split at hq
  .rename_i size hs;simp only[Bh]at hq;subst hq;simp only[JJ.run,Bh,Ch]at HW;obtain⟨rfl,rfl⟩:=HW;have PS:h st.next=none:=by rw[<- I0];exact hf _ (Bg _) (by simp[St.new])
   obtain⟨m',k1,k2,k3,k4⟩:=hr.pX (e:=size+1) (cs:=[]) PS #[] e (by simp;exact .nil);refine⟨.slice (some ⟨w.heap.size,0,none⟩) 0 0,_,m',?_,k1,k2.congr λx=>by simp only[St.new,I0],.ME _ _ _ _ k3 (Bg _) (by rw[Eu];exact DO _)⟩;simp only[Ds,B6,Bv (JM he),Result.andThen_ok,IP hs,Eu,Sem.run_pure,pure_bind];simp[Et,Go.Ab.Ni,kA]
  .cases hq
 .cases hq
def Yi{z:List PV}{zc:LV}(hz:LC m z zc):∀n,LC m (DA n z).flatten (DA n zc).flatten
 |0=> .nil
 |n+1=>by
  simp only[List.replicate_succ,DU];exact hz.append (Yi hz n)
def rK(zc:LV)(Va:0<zc.length):∀(n i:Nat),i<n*zc.length->(DA n zc).flatten[i]?=zc[i%zc.length]?
 |0,i,hi=>by simp at hi
 |n+1,i,hi=>by
  simp only[List.replicate_succ,DU];by_cases h:i<zc.length
  .rw[CL h,Nat.mod_eq_of_lt h]
  .rw[CT AA,rK zc Va n (i-zc.length) (by rw[Ce,Dn]at hi;omega)];congr 1;exact(Nat.mod_eq_sub_mod AA).symm
def ld(hr:It m h w){t:Bz}{l c:PV}{st He:St}(I0:st.heap=h){q:JJ}(hq:ZV P t l c=some q){y:PV}(HW:q.run st=some (y,He))(hf:∀b,st.next<=b->b<He.next->st.heap b=none){u v:Bk}(hl:VR m l u)(hc:VR m c v):
  ∃r w' m',(Ed t u v).run P w=.ok r w'/\Lx m w m' w'/\It m' He.heap w'/\VR m' y r:=by
 unfold ZV at hq;split at hq
 .rename_i e he;split at hq
  .rename_i size hs;split at hq
   .rename_i bytes hby;split at hq
    .rename_i ln hln;split at hq
     .rename_i cn hcn;cases hb:Br ln cn&&Go.Ab.Im cn bytes with
      |false=>simp[hb]at hq
      |true=>
       simp only[hb,cond_true]at hq;obtain⟨Lz,L0⟩:=Go.Ab.and_true hb;obtain⟨ma,hb4⟩:=Go.Ab.and_true L0;have c1:=B5 Lz;subst c1;have c3:=Go.Ab.Rw ma;have c4:=Go.Ab.Rw hb4;split at hq
       .rename_i z hz;cases hzl:Br z.cells.length (size+1)with
        |false=>simp[hzl]at hq
        |true=>
         simp only[hzl,cond_true,Bh]at hq;subst hq;simp only[JJ.run,Bh,Ch]at HW;obtain⟨rfl,rfl⟩:=HW;have PS:h st.next=none:=by rw[<- I0];exact hf _ (Bg _) (by simp[St.new])
         obtain⟨zv,hzv,hzr,hzg⟩:=XO hz w;have hzc:=(hzr m).cells hzg
         have yE:zv.cells.size=size+1:=by
          have:=hzc.length;rw[B5 hzl]at this;simpa using this.symm
         obtain⟨kl,rfl⟩:=SG hln hl;obtain⟨kc,rfl⟩:=SG hcn hc;obtain⟨inf,ADF,rfl⟩:=Go.Ab.L3 hby
         have AHe:∀n:Nat,n<=140737488355328->IntKind.i64.wrap (n:Int)=(n:Int):=by
          intro n hn
          have hw:IntKind.i64.wrap (n:Int)=if(n:Int)%18446744073709551616>=9223372036854775808 then(n:Int)%18446744073709551616-18446744073709551616 else(n:Int)%18446744073709551616:=by
           simp[IntKind.wrap,IntKind.bits,IntKind.signed]
          rw[hw];split<;>omega
         have e1:=AHe ln AA
         have htl:¬((inf.bytes:Int)*(ln:Int)>2^48):=by
          have:inf.bytes*ln<=140737488355328:=by rw[Fa];exact c3
          have:((inf.bytes*ln:Nat):Int)<=140737488355328:=AA;rw[Int.natCast_mul]at this;omega
         have AJT:(decide ((ln:Int)<0)||decide ((inf.bytes:Int)*(ln:Int)>2^48))=false:=by
          rw[decide_eq_false (by omega:¬((ln:Int)<0)),decide_eq_false htl];rfl
         obtain⟨vs,Mt,AV7,hvl⟩:∃vs:AV0,(Ed t (.int kl ln) (.int kc ln)).run P w=.ok (.slice (some ⟨w.heap.size,0,none⟩) ln ln) (w.alloc (.cells vs e))/\vs.size=ln*(size+1)/\vs.toList=(DA ln zv.cells.toList).flatten:=by
          by_cases h0:ln*(size+1)=0
          .have hl0:ln=0:=by
            rcases Nat.mul_eq_zero.1 h0 with h|h
            .exact h
            .omega
           subst hl0;refine⟨#[],?_,AD,AD⟩
           simp only[Ed,B6,Bv (JM he),Result.andThen_ok,asInt,Ep,Sem.run_pure,typeInfo,run_program,ADF,e1,AJT,Di,
            Cj,pure_bind]
           rw[Ng AD];simp only[B6,run_askRoom,Result.andThen_ok,IP hs,Ps h0,Go.Ab.Ni,Sem.run_pure];simp[kA]
          .refine⟨(Ea (ln*(size+1))).map λi=>zv.cells[i%zv.cells.size]!,?_,AD,?_⟩
           .simp only[Ed,B6,Bv (JM he),Result.andThen_ok,asInt,Ep,Sem.run_pure,typeInfo,run_program,ADF,e1,AJT,Di,
             Cj,pure_bind]
            rw[Ng AD];simp only[B6,run_askRoom,Result.andThen_ok,IP hs,Ng h0,hzv,Go.Ab.Ni,Sem.run_pure]
           .apply DK;intro i;by_cases hi:i<ln*(size+1)
            .rw[rK _ AB ln i (by simp[yE];exact hi)];have hm:i%(size+1)<zv.cells.size:=by rw[yE];exact Nat.mod_lt _ AA
             simp[hi,yE,getElem!_def,CQ hm]
            .rw[Ck AB,Ck (by simp[yE];omega)]
         have pO:=Yi hzc ln
         obtain⟨m',k1,k2,k3,k4⟩:=hr.pX (e:=size+1) (cs:=(DA ln z.cells).flatten) PS vs e (by
          rw[pO.length,<- hvl,DG,hvl];exact pO)
         refine⟨_,_,m',Mt,k1,k2.congr λx=>by simp only[St.new,I0],.ME _ _ _ _ k3 (Bg _) ?_⟩;rw[k4,AV7];exact Bg _
       .cases hq
     .cases hq
    .cases hq
   .cases hq
  .cases hq
 .cases hq
end
end
section
open Go.Ab (Rh O7 SB LH R7 Oz L3 IP JM Mj LL Nj K4 MD mH)
section
variable{P:Program} {m:J} {h:Nat->Option Obj} {w:World}
def ADn{op:BinOp}{k:IntKind}{a b:Int}{x:PV}(h:ADm op k a b=some x)(t:Bz)(w:World):
  ∃v,(binOp op t (.int k a) (.int k b)).run P w=.ok v w/\VR m x v:=by
 cases op
 case shl=>cases h
 case shr=>cases h
 all_goals
  rw[mH _ AD AD];simp only[ADm]at h
  first
   |(cases h;done)
   |(simp only[Bh]at h;subst h;first|exact⟨_,rfl,.data _ _ (.int _ _)⟩|exact⟨_,rfl,.data _ _ (.bool _)⟩)
   |(
    split at h
    .cases h
    .rename_i hb;simp only[Bh]at h;subst h;exact⟨_,by simp[Op.intDiv,hb],.data _ _ (.int _ _)⟩)
def rG{t:Bz}{x y:PV}{r:Bool}(h:AGx (P.underlying t) x y=some r){u v:Bk}(hx:VR m x u)(hy:VR m y v)(d:Nat)(w:World):
  (EO (d+1) t u v).run P w=.ok r w/\((∃a b,u=.int a b)\/(∃a,u=.bool a)\/∃s,u=.string s)/\((∃a b,v=.int a b)\/(∃a,v=.bool a)\/∃s,v=.string s)/\((∃a b,x=.bool a/\y=.bool b/\u=.bool a/\v=.bool b)\/(∃k a k' b,x=.int k a/\y=.int k' b)\/∃a b,x=.Gh a/\y=.Gh b):=by
 unfold AGx at h;split at h
 .rename_i k0 k a k' b hu;cases hx with|data _ _ hx=>cases hy with|data _ _ hy=>
  cases hx;cases hy;split at h
  .rename_i hk;subst hk;simp at h;subst h;exact⟨by simp[EO,Bv hu],.inl ⟨_,_,rfl⟩,.inl ⟨_,_,rfl⟩,.inr (.inl ⟨_,_,_,_,rfl,rfl⟩)⟩
  .cases h
 .rename_i a b hu;cases hx with|data _ _ hx=>cases hy with|data _ _ hy=>
  cases hx;cases hy;simp at h;subst h;exact⟨by simp[EO,Bv hu],.inr (.inl ⟨_,rfl⟩),.inr (.inl ⟨_,rfl⟩),.inl ⟨_,_,rfl,rfl,rfl,rfl⟩⟩
 .rename_i a b hu;cases hx with|data _ _ hx=>cases hy with|data _ _ hy=>
  cases hx;cases hy;simp only[Bh]at h;subst h;exact⟨run_equalIn_string w d t a b hu,.inr (.inr ⟨_,rfl⟩),.inr (.inr ⟨_,rfl⟩),.inr (.inr ⟨_,_,rfl,rfl⟩)⟩
 .cases h
def ak{xs ys:List PV}{us vs:AV0}(hx:LC m xs us.toList)(hy:LC m ys vs.toList)(d:Nat)(w:World):
  ∀{fs:List Field} {r:Bool},Tg P xs ys fs=some r->(Op.eqFields (d+1) us vs fs).run P w=.ok r w
 |[],r,h=>by simp[Tg]at h;subst h;rfl
 |f::fs,r,h=>by
  simp only[Tg]at h;by_cases hn:f.name= "_"
  .rw[Ps hn]at h;cases h
  .rw[Ng hn]at h;split at h
   .rename_i SS;split at h
    .rename_i x hxf;split at h
     .rename_i y hyf;obtain⟨u,hu,hur⟩:=hx.get hxf;obtain⟨v,hv,hvr⟩:=hy.get hyf;have p1:(part f.type us f.offset).run P w=.ok u w:=by simp[part,LL SS];rw[show us[f.offset]?=some u by simpa using hu];rfl
      have p2:(part f.type vs f.offset).run P w=.ok v w:=by simp[part,LL SS];rw[show vs[f.offset]?=some v by simpa using hv];rfl
      split at h
      .rename_i b he;have h1:=(rG he hur hvr d w).1;split at h
       .rename_i r' PU;simp at h;subst h;have h2:=ak hx hy d w PU;simp only[Op.eqFields,B6,p1,p2,Result.andThen_ok,h1,ne_eq,hn,not_false_eq_true,if_true];cases b
        .simp
        .simpa using h2
       .cases h
      .cases h
     .cases h
    .cases h
   .cases h
def kh{t e:Bz}(hu:P.underlying t=some (.pointer e)){a:Addr}(d:Nat)(w:World):(EO (d+1) t (.pointer (some a)) (.pointer none)).run P w=.ok false w:=by simp[EO,Bv hu]
def wO{t e:Bz}(hu:P.underlying t=some (.pointer e))(d:Nat)(w:World):(EO (d+1) t (.pointer none) (.pointer none)).run P w=.ok true w:=by simp[EO,Bv hu]
def xe{t:Bz}{x y:PV}{r:Bool}(h:eqP P t x y=some r)(n1:∀k a k' b,x=.int k a->y=.int k' b->False)(n2:∀a b,x=.Gh a->y=.Gh b->False){u v:Bk}(hx:VR m x u)(hy:VR m y v)(w:World):
  (EF t u v).run P w=.ok r w/\(∀op a b,(D0 op t a b u v).run P w=.ok () w)/\Go.Ab.Py u v:=by
 unfold eqP at h;split at h
 .rename_i e hu;unfold ASA at h;split at h
  .simp only[Bh]at h;subst h;cases hx with
   |data _ _ hd=>cases hd
   |GN=>cases hy with
    |data _ _ hd=>cases hd
    |PY=>exact⟨by simp only[EF,El];exact kh hu 9999 w,λop a b=>by cases op<;>simp[D0],.GN _ _⟩
  .simp only[Bh]at h;subst h;cases hx with
   |data _ _ hd=>cases hd
   |MP=>cases hy with
    |data _ _ hd=>cases hd
    |PY=>exact⟨by simp only[EF,El];exact kh hu 9999 w,λop a b=>by cases op<;>simp[D0],.GN _ _⟩
  .simp only[Bh]at h;subst h;cases hx with
   |data _ _ hd=>cases hd
   |PY=>cases hy with
    |data _ _ hd=>cases hd
    |PY=>exact⟨by simp only[EF,El];exact wO hu 9999 w,λop a b=>by cases op<;>simp[D0],.GN _ _⟩
  .cases h
 .rename_i fs hu;split at h
  .rename_i xs ys;cases hc:P.stoodInHeld t||P.eqGuardType P.depth t with
   |true=>simp[hc]at h
   |false=>
    simp only[hc,cond_false]at h;obtain⟨c1,c2⟩:=C6.1 hc;cases hx with
    |data _ _ hd=>cases hd
    |agg _ us hxs=>
     cases hy with
     |data _ _ hd=>cases hd
     |agg _ vs hys=>
      have hfs:P.fieldsOf t=fs:=by simp[Program.fieldsOf,hu]
      refine⟨?_,λop a b=>run_eqGuard_agg w op t a b _ _ c2,.agg _ _⟩;simp only[EF,El];rw[run_equalIn_struct w 9999 t us.toArray vs.toArray (by rw[hfs];exact hu) c1,hfs];exact ak (by simpa using hxs) (by simpa using hys) 9998 w h
  .cases h
 .obtain⟨h1,h2,h3,h4⟩:=rG h hx hy 9999 w;rcases h4 with⟨a,b,rfl,rfl,rfl,rfl⟩|⟨k,a,k',b,rfl,rfl⟩|⟨a,b,rfl,rfl⟩
  .exact⟨by simp only[EF,El];exact h1,λop _ _=>by cases op<;>simp[D0],.bool _ _⟩
  .exact(n1 _ _ _ _ rfl rfl).elim
  .exact(n2 _ _ rfl rfl).elim
def AFv{op:BinOp}{t:Bz}{x y z:PV}(h:SP P op t x y=some z){u v:Bk}(hx:VR m x u)(hy:VR m y v)(a b:Cy)(w:World):
  ∃r,(do D0 op t a b u v;binOp op t u v:Sem Bk).run P w=.ok r w/\VR m z r:=by
 unfold SP at h;split at h
 .rename_i k n k' n';cases hx with|data _ _ hx=>cases hy with|data _ _ hy=>
  cases hx;cases hy;have hg:(D0 op t a b (.int k n) (.int k' n')).run P w=.ok () w:=by cases op<;>simp[D0]
  split at h
  .rename_i hk;subst hk;obtain⟨r,h1,h2⟩:=ADn (P:=P) (m:=m) h t w;exact⟨r,by simp only[B6,hg,Result.andThen_ok,h1],h2⟩
  .cases h
 .rename_i s s';cases hx with|data _ _ hx=>cases hy with|data _ _ hy=>
  cases hx;cases hy;have hg:(D0 op t a b (.string s) (.string s')).run P w=.ok () w:=by cases op<;>simp[D0]
  unfold AIf at h;split at h
  .simp only[Bh]at h;subst h;exact⟨.bool (s.toList==s'.toList),by simp only[B6,hg,Result.andThen_ok];simp[binOp,Op.stringOp],.data _ _ (.bool _)⟩
  .simp only[Bh]at h;subst h;exact⟨.bool !(s.toList==s'.toList),by simp only[B6,hg,Result.andThen_ok];simp[binOp,Op.stringOp],.data _ _ (.bool _)⟩
  .cases h
 .rename_i x' y' n1 n2;split at h
  .split at h
   .rename_i r hr;simp at h;subst h;obtain⟨e1,e2,e3⟩:=xe hr (λk a k' b h1 h2=>n1 _ _ _ _ h1 h2) (λa b h1 h2=>n2 _ _ h1 h2) hx hy w;exact⟨.bool r,by simp only[B6,e2,Result.andThen_ok,((e3.run (P:=P) (w:=w) t).2 r e1).1],.data _ _ (.bool _)⟩
   .cases h
  .split at h
   .rename_i r hr;simp at h;subst h;obtain⟨e1,e2,e3⟩:=xe hr (λk a k' b h1 h2=>n1 _ _ _ _ h1 h2) (λa b h1 h2=>n2 _ _ h1 h2) hx hy w;exact⟨.bool !r,by simp only[B6,e2,Result.andThen_ok,((e3.run (P:=P) (w:=w) t).2 r e1).2],.data _ _ (.bool _)⟩
   .cases h
  .cases h
def AN7{op:UnOp}{x y:PV}(h:unP op x=some y){u:Bk}(hx:VR m x u)(w:World):∃v,(Op.unary op u).run P w=.ok v w/\VR m y v:=by
 unfold unP at h;split at h
 .simp at h;subst h;cases hx with|data _ _ hx=>
  cases hx;exact⟨_,by simp[Op.unary],.data _ _ (.bool _)⟩
 .simp at h;subst h;cases hx with|data _ _ hx=>
  cases hx;exact⟨_,by simp[Op.unary,Op.intArith],.data _ _ (.int _ _)⟩
 .cases h
def q8{src dst:Bz}{x y:PV}(h:jC P src dst x=some y){u:Bk}(hx:VR m x u)(w:World):∃v,(convert src dst u).run P w=.ok v w/\VR m y v:=by
 unfold jC at h;split at h
 .rename_i d hd;split at h
  .rename_i k hu;split at h
   .rename_i k' n;simp at h;subst h;cases hx with|data _ _ hx=>
    cases hx;exact⟨.int k _,by simp only[convert,B6,Bv hd,Bv hu,Result.andThen_ok];cases d<;>rfl,.data _ _ (.int _ _)⟩
   .cases h
  .cases h
 .cases h
def AHq{t:Bz}{x y:PV}(h:ANN P t x=some y){u:Bk}(hx:VR m x u){IK:Array Bz}(SU:IK[0]?=some t)(ty:Bz)(w:World):
  ∃v,(Ew IK ty #[u]).run P w=.ok v w/\VR m y v:=by
 unfold ANN at h;split at h
 .rename_i hu;split at h
  .simp at h;subst h;cases hx with|data _ _ hx=>
   cases hx;exact Agm
  .cases h
 .rename_i e hu;split at h
  .rename_i b n;simp only[Bh]at h;subst h;cases hx with
   |data _ _ hd=>cases hd
   |ME=>exact⟨_,by simp[Ew,SU,Bv hu,goInt],.data _ _ (.int _ _)⟩
  split at h
  .rename_i GK NJ;simp at h;subst h;have hd:=hx.GK NJ
   have:∃a c,u=.slice a GK.length c:=by
    cases hd with
    |none a c _=>exact⟨a,c,rfl⟩
    |GV _ B o c=>exact⟨_,c,rfl⟩
   obtain⟨a,c,rfl⟩:=this;exact Agm
  .cases h
 .cases h
structure Rows (K:KK) (e:Nat) (GK:List (List PV)) (ks:List Bk):Prop where
 len:ks.length=GK.length*e
 GG:∀(i:Nat) (GG:List PV),GK[i]?=some GG->GG.length=e
 rel:∀(i:Nat) (GG:List PV),GK[i]?=some GG->Pk K GG ((ks.drop (i*e)).take e)
def Rows.mono{K K':KK}{e:Nat}{GK:List (List PV)}{ks:LV}(h:Rows K e GK ks)(hk:Yn K K'):Rows K' e GK ks:=⟨h.len,h.GG,λi GG hi=>(h.rel i GG hi).mono hk⟩
def Rows.append{K:KK}{e:Nat}{GK yr:List (List PV)}{ks Uw:LV}(h:Rows K e GK ks)(h':Rows K e yr Uw):Rows K e (GK++yr) (ks++Uw):=by
 have lQ:∀i GG,(GK++yr)[i]?=some GG->GK[i]?=some GG\/(GK.length<=i/\yr[i-GK.length]?=some GG):=by
  intro i GG hi;by_cases c:i<GK.length
  .rw[CL c]at hi;exact .inl hi
  .rw[CT AA]at hi;exact .inr ⟨AA,hi⟩
 refine⟨by rw[Bd,Bd,h.len,h'.len,Ce],λi GG hi=>?_,λi GG hi=>?_⟩
 .rcases lQ i GG hi with h1|⟨_,h1⟩
  .exact h.GG i GG h1
  .exact h'.GG _ GG h1
 .rcases lQ i GG hi with h1|⟨hle,h1⟩
  .have Ml:=(Bp.1 h1).1;have hle:=eI (sz:=e) (o:=0) (L:=ks.length) Ml (by rw[h.len];omega);rw[Uf (Ei ks Uw) AA];exact h.rel i GG h1
  .have:((ks++Uw).drop (i*e)).take e=(Uw.drop ((i-GK.length)*e)).take e:=by
    rw[Fh,List.drop_eq_nil_of_le (by rw[h.len];exact DD _ hle),CC,h.len,Nat.sub_mul]
   rw[this];exact h'.rel _ GG h1
def pw{K:KK}{e:Nat}{GK:List (List PV)}{B o c:Nat}(JO:∀GG∈GK,GG.length=e)(h0:0<GK.length)(h:DR K (.GV GK) (.slice (some ⟨B,o,none⟩) GK.length c)):
  ∃ks,K B=some ks/\o+GK.length*e<=ks.length/\GK.length<=c/\Rows K e GK ((ks.drop o).take (GK.length*e)):=by
 cases h with
 |none=>simp at h0
 |GV _ _ _ _ sz ks hk h1 hc hl hr hd=>
  have Of:sz=e:=by
   obtain⟨GG,hm⟩:∃GG,GK[0]?=some GG:=⟨GK[0]'h0,by rw[Bc]⟩
   rw[<- hr 0 GG hm,JO GG (Bn hm)]
  subst Of;refine⟨ks,hk,hl,hc,by simp;omega,hr,λi GG hi=>?_⟩;have hle:=eI (sz:=sz) (o:=0) (L:=GK.length*sz) (Bp.1 hi).1 AA
  have:(((ks.drop o).take (GK.length*sz)).drop (i*sz)).take sz=(ks.drop (o+i*sz)).take sz:=by
   rw[List.drop_take,List.take_take,Dp,C7 AA]
  rw[this];exact hd i GG hi
def Rows.dr{K:KK}{e:Nat}{GK:List (List PV)}{ks:LV}(h:Rows K e GK ks)(h0:0<GK.length){B c:Nat}{kb:LV}(hk:K B=some kb)(hp:ks<+:kb)(hc:GK.length<=c):DR K (.GV GK) (.slice (some ⟨B,0,none⟩) GK.length c):=
 .GV GK B 0 c e kb hk h0 hc (by have:=hp.length_le;rw[h.len]at this;omega) h.GG λi GG hi=>by
  have hle:=eI (sz:=e) (o:=0) (L:=ks.length) (Bp.1 hi).1 (by rw[h.len];omega);rw[CZ,Uf hp AA];exact h.rel i GG hi
def Rows.one{K:KK}{e:Nat}{GK:List (List PV)}{ks:LV}(h:Rows K e GK ks)(he:0<e):∀v∈ks,v.oneCell'=true:=by
 intro v hv;obtain⟨j,hj⟩:=EZ hv;have G7:=(Bp.1 hj).1;rw[h.len]at G7;have hi:j/e<GK.length:=Nat.div_lt_of_lt_mul (by rw[Fa];exact G7);have hr:=h.rel (j/e) (GK[j/e]'hi) (by rw[Bc]);refine hr.one v ?_;have hm:j%e<e:=Nat.mod_lt _ he;have Un:j/e*e+j%e=j:=by rw[Fa];exact Nat.div_add_mod j e
 refine Bn (i:=j%e) ?_;rw[C1,Ps hm,Cu,Un];exact hj
end
end
section
open Go.Ab (Rh O7 SB LH R7 Oz L3 IP JM Mj LL Nj K4 MD Fw)
section
variable{P:Program} {m:J} {h:Nat->Option Obj} {w:World}
def St.HI(st:St)(b:Nat)(o:Obj):(st.set b o).next=st.next:=rfl
def yh(hr:It m h w){b:Nat}{GK:List (List PV)}{e e0:Nat}(hb:h b=some (.HE GK.length e0))(he:GK.length=0\/e0=e)(JO:∀GG∈GK,GG.length=e){v:Bk}(hv:VR m (.HL b GK) v):
  (GK=[]/\v=.slice none 0 0)\/(0<GK.length/\∃B c t ks vs ty,v=.slice (some ⟨B,0,none⟩) GK.length c/\GK.length<=c/\c*e<=t/\m.HE b=some (B,GK.length,e,t)/\m.K B=some ks/\Rows m.K e GK ks/\
   w.heap[B]?=some (.cells vs ty (0,0))/\vs.size=t/\ks<+:vs.toList):=by
 cases hv with
 |data _ _ hd=>cases hd
 |VV=>exact .inl ⟨rfl,rfl⟩
 |HL _ _ B0 c B n e1 t ho h0 hn ht hd=>
  rcases hr.HE b _ _ hb with⟨h1,_⟩|⟨_,B',t',h2,ks,h3,h4,vs,ty,h5,h6⟩
  .omega
  .rw[ho]at h2;cases h2;obtain⟨rfl,hct⟩:=ht rfl;have hee:e0=e:=he.resolve_left AA;subst hee;obtain⟨Uw,g1,g2,g3,g4⟩:=pw JO h0 hd;rw[h3]at g1;cases g1;have hks:(ks.drop 0).take (GK.length*e0)=ks:=by rw[CA,Cc (by rw[h4];exact Bg _)]
   rw[hks]at g4;obtain⟨nY,ly,f1,f2⟩:=hr.Xp B ks h3;rw[h5]at f1;cases f1;exact .inr ⟨h0,B,c,t,ks,vs,ty,rfl,g3,hct,ho,h3,g4,h5,h6,f2⟩
def YG{z:AV0}{n:Nat}:(Ci z n).size=n*z.size:=by simp[Ci]
def sZ(hr:It m h w){t t' d e:Bz}{i:Eg}{z:Bk}(ht:P.underlying t=some (.slice e))(VP:P.underlying t'=some (.slice d))(hi:P.info? e=some i)(hz:i.zero=some z)(hzs:z.cells.size=i.size)(Va:0<i.size)
  {b:Nat}{GK xs:List (List PV)}{e0:Nat}(hb:h b=some (.HE GK.length e0))(he:GK.length=0\/e0=i.size)(JO:∀GG∈GK,GG.length=i.size)(VM:∀GG∈xs,GG.length=i.size)
  (MS:(GK.length+xs.length)*i.bytes<=140737488355328)(M4:GK.length+xs.length<=140737488355328){v v2:Bk}(hv:VR m (.HL b GK) v)(hx:DR m.K (.GV xs) v2)(ty:Bz):
  ∃r w' m',(C0 #[t,t'] ty #[v,v2]).run P w=.ok r w'/\Lx m w m' w'/\It m' (λx=>bif Br x b then some (.HE (GK.length+xs.length) i.size)else h x) w'/\VR m' (.HL b (GK++xs)) r:=by
 have ADZ:=yh hr hb he JO hv;cases hx with
 |none a c ha=>
  have hv2:Eb a 0 c=.slice none 0 0\/∃a' c',Eb a 0 c=.slice (some a') 0 c':=by
   cases a with
   |none=>rw[ha rfl];exact .inl rfl
   |some a=>exact .inr ⟨_,_,rfl⟩
  simp only[List.length_nil,DN,CG];rcases ADZ with⟨rfl,rfl⟩|⟨h0,B,c',tt,ks,vs,ly,rfl,hc,hct,ho,hk,hR,hw,hs,hp⟩
  .refine⟨_,w,m,Go.Ab.Rd t t' ty e i d ht VP hi _ none 0 0 rfl (Bg _) _ hv2 w,Lx.refl m w,?_,.VV b⟩;exact hr.ph hb i.size
  .refine⟨_,w,m,Go.Ab.Rd t t' ty e i d ht VP hi _ _ _ _ rfl hc _ hv2 w,Lx.refl m w,hr.congr λx=>?_,hv⟩;rw[JT];by_cases c:x=b
   .rw[Ps c,c,hb,he.resolve_left AA]
   .rw[Ng c]
 |GV _ B2 o2 c2 sz2 ks2 Jm h02 Tj cM ju tY=>
  have Tt:DR m.K (.GV xs) (.slice (some ⟨B2,o2,none⟩) xs.length c2):=.GV xs B2 o2 c2 sz2 ks2 Jm h02 Tj cM ju tY;obtain⟨kx,q1,q2,q3,q4⟩:=pw VM h02 Tt;rw[Jm]at q1;cases q1;obtain⟨KI,et⟩:∃KI,KI=(ks2.drop o2).take (xs.length*i.size):=⟨_,rfl⟩
  rw[<- et]at q4;have Pr:KI.length=xs.length*i.size:=q4.len
  have Wx:∀j u,KI[j]?=some u->w.cell? ((⟨B2,o2,none⟩:Addr).add j)=some u:=by
   intro j u hj;rw[DC];rw[et,C1]at hj;exact Agp
  have vJ:=q4.one Va;have hkK:∀{m':J},Lx m w m' w->True:=λ_=>trivial;rcases ADZ with⟨rfl,rfl⟩|⟨h0,B,c',tt,ks,vs,ly,rfl,hc,hct,ho,hk,hR,hw,hs,hp⟩
  .simp only[List.length_nil,CZ,CC]at MS M4 hb⊢;have HW:=Go.Ab.fC (w:=w) t t' ty e d i z ht VP hi hz ⟨B2,o2,none⟩ xs.length c2 KI Pr Wx h02 AA AA;have hge:=E9 w xs.length 0 e;obtain⟨W,hW⟩:∃W,W=w.drew.alloc (.cells (KI.toArray++Ci z.cells (Cx w xs.length 0 e-xs.length)) e):=⟨_,rfl⟩
   have JP:W.heap[w.heap.size]?=some (.cells (KI.toArray++Ci z.cells (Cx w xs.length 0 e-xs.length)) e (0,0)):=by rw[hW];exact heap_alloc_new w.drew _
   have Of:(KI.toArray++Ci z.cells (Cx w xs.length 0 e-xs.length)).size=Cx w xs.length 0 e*i.size:=by
    rw[DV,YG,hzs,C9,Pr,<- Ce];congr 1;omega
   obtain⟨m',k1,k2,k3,k4,k5⟩:=hr.JD hb (w':=W) (B':=w.heap.size) (n':=xs.length) (e:=i.size) (t':=Cx w xs.length 0 e*i.size) (Uw:=KI) (.inl rfl) h02 (.inl (Bg _)) JP Of AD Pr
    (λB _ hB=>by rw[hW];exact heap_alloc_old w.drew _ B hB) (by rw[hW];simp) Aa2 Aa2 Abn
   refine⟨_,W,m',by rw[hW];exact HW,k1,k2,?_⟩;exact .HL b xs w.heap.size _ w.heap.size xs.length i.size _ k3 h02 (Bg _) (λ_=>⟨rfl,Bg _⟩) ((q4.mono k1.le.K).dr h02 k4 (Cs _) hge)
  .have hvk:ks=vs.toList.take (GK.length*i.size):=by
    obtain⟨r,hr⟩:=hp;rw[<- hr,<- hR.len,List.take_left]
   have hRR:=hR.append q4;have hn':0<(GK++xs).length:=by simp;omega
   by_cases bN:GK.length+xs.length<=c'
   .have YL:(GK.length+xs.length)*i.size<=c'*i.size:=DD _ bN;rw[Ce]at YL
    have vO:GK.length*i.size+KI.length<=vs.toList.length:=by
     have h1:=CN YL hct;rw[<- hs]at h1;rw[Pr,Cp];exact h1
    have I0:=EA (P:=P) B (GK.length*i.size) ly KI 0 vs w hw (by simpa using vO) vJ;simp only[DN]at I0;obtain⟨x1,x2,x3,x4⟩:=MD w B vs (vs.toList.take (GK.length*i.size)++KI++vs.toList.drop (GK.length*i.size+KI.length)).toArray ly hw;have HW:=Go.Ab.cB t t' ty e d i ht VP hi B 0 GK.length c' ⟨B2,o2,none⟩ xs.length c2 KI Pr Wx bN (by rw[CZ];exact I0)
    obtain⟨m',k1,k2,k3,k4,k5⟩:=hr.JD hb (w':=w.setRow B (vs.toList.take (GK.length*i.size)++KI++vs.toList.drop (GK.length*i.size+KI.length)).toArray) (B':=B) (n':=GK.length+xs.length) (e:=i.size) (t':=tt) (Uw:=ks++KI)
     (.inr (he.resolve_left AA)) AA (.inr ⟨ks,ho,hk,Ei _ _⟩) x1 (by rw[<- hs,C9,K4 _ _ _ vO,Cp]) (by rw[hvk];exact Ei _ _) (by rw[Bd,hR.len,Pr,Ce])
     (λk hk _=>x2 k hk) (by rw[x3];exact Bg _) rfl rfl x4
    refine⟨_,_,m',HW,k1,k2,?_⟩;have:=VR.HL (m:=m') b (GK++xs) B c' B (GK.length+xs.length) i.size tt k3 hn' AD (λ_=>⟨rfl,hct⟩) ((hRR.mono k1.le.K).dr hn' k4 (Cs _) (by simp;exact bN));rw[Bd]at this;exact this
   .have hgt:c'<GK.length+xs.length:=AA;have Nd:=growslice_fits (need:=GK.length+xs.length) (old:=c') (bytes:=i.bytes) hgt MS
    have vI:∀j u,ks[j]?=some u->w.cell? ((⟨B,0,none⟩:Addr).add j)=some u:=by
     intro j u hj;rw[DC,CZ];exact ao hr hk hj
    have HW:=Go.Ab.cA (w:=w) t t' ty e d i z ht VP hi hz ⟨B,0,none⟩ GK.length c' ks hR.len vI ⟨B2,o2,none⟩ xs.length c2 KI Pr Wx hgt AA Nd;have hge:=E9 w (GK.length+xs.length) c' e;obtain⟨W,hW⟩:∃W,W=w.drew.alloc (.cells (ks.toArray++KI.toArray++Ci z.cells (Cx w (GK.length+xs.length) c' e-(GK.length+xs.length))) e):=⟨_,rfl⟩
    have JP:W.heap[w.heap.size]?=some (.cells (ks.toArray++KI.toArray++Ci z.cells (Cx w (GK.length+xs.length) c' e-(GK.length+xs.length))) e (0,0)):=by rw[hW];exact heap_alloc_new w.drew _
    have Of:(ks.toArray++KI.toArray++Ci z.cells (Cx w (GK.length+xs.length) c' e-(GK.length+xs.length))).size=Cx w (GK.length+xs.length) c' e*i.size:=by
     rw[DV,DV,YG,hzs,C9,C9,hR.len,Pr,<- Ce,<- Ce];congr 1;omega
    obtain⟨m',k1,k2,k3,k4,k5⟩:=hr.JD hb (w':=W) (B':=w.heap.size) (n':=GK.length+xs.length) (e:=i.size) (t':=Cx w (GK.length+xs.length) c' e*i.size) (Uw:=ks++KI)
     (.inr (he.resolve_left AA)) AA (.inl (Bg _)) JP Of AD (by rw[Bd,hR.len,Pr,Ce])
     (λB _ hB=>by rw[hW];exact heap_alloc_old w.drew _ B hB) (by rw[hW];simp) Aa2 Aa2 Abn
    refine⟨_,W,m',by rw[hW];exact HW,k1,k2,?_⟩;have:=VR.HL (m:=m') b (GK++xs) w.heap.size (Cx w (GK.length+xs.length) c' e) w.heap.size (GK.length+xs.length) i.size _ k3 hn' AD (λ_=>⟨rfl,Bg _⟩) ((hRR.mono k1.le.K).dr hn' k4 (Cs _) (by simp;exact hge));rw[Bd]at this;exact this
def Rows.lL{K:KK}{e:Nat}:∀{GK:List (List PV)} {ks:LV},Rows K e GK ks->Pk K GK.flatten ks
 |[],ks,h=>by
  have:=h.len;simp at this;subst this;exact .nil
 |r::rs,ks,h=>by
  have HM:=h.len;rw[CE,Ce,Dn]at HM;have h0:=h.rel 0 r rfl;simp only[Eu,CA]at h0
  have hr:Rows K e rs (ks.drop e):=⟨by rw[List.length_drop];omega,λi GG hi=>h.GG (i+1) GG AaX,λi GG hi=>by
   have:=h.rel (i+1) GG AaX;rw[Dp,show e+i*e=(i+1)*e by rw[Ce,Dn,Nat.add_comm]];exact this⟩
  rw[DU,<- CX e ks];exact h0.append hr.lL
def yT(hr:It m h w){xs:List (List PV)}{sz:Nat}(VM:∀GG∈xs,GG.length=sz)(Va:0<sz){v2:Bk}(hx:DR m.K (.GV xs) v2)(h0:0<xs.length):
  ∃B2 o2 c2 KI,v2=.slice (some ⟨B2,o2,none⟩) xs.length c2/\Rows m.K sz xs KI/\(∀j u,KI[j]?=some u->w.cell? ((⟨B2,o2,none⟩:Addr).add j)=some u)/\(∀u∈KI,u.oneCell'=true):=by
 cases hx with
 |none a c ha=>simp at h0
 |GV _ B2 o2 c2 sz2 ks2 Jm h02 Tj cM ju tY=>
  have Tt:DR m.K (.GV xs) (.slice (some ⟨B2,o2,none⟩) xs.length c2):=.GV xs B2 o2 c2 sz2 ks2 Jm h02 Tj cM ju tY;obtain⟨kx,q1,q2,q3,q4⟩:=pw VM h02 Tt;rw[Jm]at q1;cases q1;refine⟨B2,o2,c2,_,rfl,q4,λj u hj=>?_,q4.one Va⟩;rw[DC];rw[C1]at hj;exact Agp
def tx(hr:It m h w){t t' d e:Bz}{i:Eg}{z:Bk}(ht:P.underlying t=some (.slice e))(VP:P.underlying t'=some (.slice d))(hi:P.info? e=some i)(hz:i.zero=some z)(hzs:z.cells.size=i.size)(Va:0<i.size)
  {b:Nat}{xs:List (List PV)}(hb:h b=none)(VM:∀GG∈xs,GG.length=i.size)(h0:0<xs.length)(MS:xs.length*i.bytes<=140737488355328)(M4:xs.length<=140737488355328){v2:Bk}(hx:DR m.K (.GV xs) v2)(ty:Bz):
  ∃r w' m',(C0 #[t,t'] ty #[.slice none 0 0,v2]).run P w=.ok r w'/\Lx m w m' w'/\It m' (λx=>bif Br x b then some (.K7 i.size xs.flatten)else h x) w'/\VR m' (.ME b xs.length) r:=by
 obtain⟨B2,o2,c2,KI,rfl,q4,Wx,vJ⟩:=yT hr VM Va hx h0;have Pr:KI.length=xs.length*i.size:=q4.len;have HW:=Go.Ab.fC (w:=w) t t' ty e d i z ht VP hi hz ⟨B2,o2,none⟩ xs.length c2 KI Pr Wx h0 AA AA;have hge:=E9 w xs.length 0 e
 have Of:(KI.toArray++Ci z.cells (Cx w xs.length 0 e-xs.length)).size=Cx w xs.length 0 e*i.size:=by
  rw[DV,YG,hzs,C9,Pr,<- Ce];congr 1;omega
 have hfl:=q4.lL
 obtain⟨m',k1,k2,k3,k4⟩:=(It.drew hr).pX (e:=i.size) (cs:=xs.flatten) hb (KI.toArray++Ci z.cells (Cx w xs.length 0 e-xs.length)) e (by
  have:(KI.toArray++Ci z.cells (Cx w xs.length 0 e-xs.length)).toList.take xs.flatten.length=KI:=by
   rw[hfl.length];simp
  rw[this];exact Pk.vrs hfl)
 exact Aff
def qf(hr:It m h w){t t' d e:Bz}{i:Eg}{z:Bk}(ht:P.underlying t=some (.slice e))(VP:P.underlying t'=some (.slice d))(hi:P.info? e=some i)(hz:i.zero=some z)(hzs:z.cells.size=i.size)(Va:0<i.size)
  {b b' n:Nat}{cs:List PV}{xs:List (List PV)}(hb:h b=some (.K7 i.size cs))(OK:h b'=none)(hn:n*i.size<=cs.length)(VM:∀GG∈xs,GG.length=i.size)
  (MS:(n+xs.length)*i.bytes<=140737488355328)(M4:n+xs.length<=140737488355328){v v2:Bk}(hv:VR m (.ME b n) v)(hx:DR m.K (.GV xs) v2)(ty:Bz):
  ∃r w' m',(C0 #[t,t'] ty #[v,v2]).run P w=.ok r w'/\Lx m w m' w'/\
   It m' (λx=>bif Br x b' then some (.K7 i.size (cs.take (n*i.size)++xs.flatten))else bif Br x b then some .KV else h x) w'/\VR m' (.ME b' (n+xs.length)) r:=by
 cases hv with
 |data _ _ hd=>cases hd
 |ME _ _ B c hB hc JK=>
  obtain⟨B0,vs,ly,g1,g2,g3,g4⟩:=hr.K7 b i.size cs hb;rw[hB]at g1;cases g1;rw[g2]at JK
  have Pq:cs.length<=vs.toList.length:=by
   have:=g4.length;rw[C2]at this;omega
  have fN:b'≠b:=by rintro rfl;rw[hb]at OK;cases OK
  have OW:LC m (cs.take (n*i.size)) (vs.toList.take (n*i.size)):=by
   have:=g4.take (n*i.size);rw[List.take_take,C7 hn]at this;exact this
  have mo:(vs.toList.take (n*i.size)).length=n*i.size:=by rw[C2];omega
  have vI:∀j u,(vs.toList.take (n*i.size))[j]?=some u->w.cell? ((⟨B,0,none⟩:Addr).add j)=some u:=by
   intro j u hj;rw[DC,CZ,Df w B j vs ly (0,0) g3,<- Cz];rw[C1]at hj;split at hj
   .exact hj
   .cases hj
  have AKF:∀{w':World} (K9:∀k,k≠B->w'.heap[k]?=w.heap[k]?) (Of:w'.heap.size=w.heap.size) (yB:w'.os=w.os) (fV:w'.output=w.output) (YJ:∀a,w'.frozen? a=w.frozen? a) {nY:AV0} (Mt:nY.size=vs.size) (YN:w'.heap[B]?=some (.cells nY ly (0,0)))
    (pD:LC m (cs.take (n*i.size)++xs.flatten) (nY.toList.take (cs.take (n*i.size)++xs.flatten).length)) (hle:n+xs.length<=c),
    ∃m',Lx m w m' w'/\It m' (λx=>bif Br x b' then some (.K7 i.size (cs.take (n*i.size)++xs.flatten))else bif Br x b then some .KV else h x) w'/\VR m' (.ME b' (n+xs.length)) (.slice (some ⟨B,0,none⟩) (n+xs.length) c):=by
   intro w' K9 Of yB fV YJ nY Mt YN pD hle;obtain⟨e1,r1⟩:=hr.zB hb hB (cs:=cs.take (n*i.size)++xs.flatten) (by rw[Mt];exact g2) YN pD K9 Of yB fV YJ;have r2:=r1.AR0 (b:=b) (o:=.K7 i.size (cs.take (n*i.size)++xs.flatten)) (by simp[JT]) rfl
   obtain⟨m',l1,l2,l3,l4,l5,l6,l7,l8⟩:=r2.lay (b:=b') (B:=B) (e:=i.size) (t:=vs.size) (ob:=.K7 i.size (cs.take (n*i.size)++xs.flatten)) Aan rfl (by rw[Of];exact hr.blt b B hB)
    (λx hx=>by
     simp only[JT];by_cases cc:x=b
     .rw[Ps cc]
     .rw[Ng cc];by_cases hd:h x=some .KV
      .rw[Ng cc];exact hd
      .exact Zq (hr.LJ x b B hx hB hd Aab) cc)
    (hr.bK b B hB Aab)
    (λm' hle Lz L0=>⟨B,nY,ly,Lz,by rw[L0,Mt],YN,pD.mono hle⟩)
   refine⟨m',⟨e1.le.trans l1,e1.size,λx B' hx=>?_,λx B' n' e' t'' hx=>?_,λB' ks hk=>?_,e1.LU,e1.os,e1.output,e1.NZ,l7⟩,l2.congr λx=>?_,.ME _ _ _ _ l3 hle (by rw[l4];exact JK)⟩
   .rcases l8 x B' hx with h1|rfl
    .exact .inl ⟨x,h1⟩
    .exact .inl ⟨b,hB⟩
   .rw[l6]at hx;exact .inl ⟨x,_,_,_,hx⟩
   .rw[l5]at hk;exact .inr (.inl hk)
   .simp only[JT];by_cases cc:x=b
    .simp only[Ps cc]
    .simp only[Ng cc]
  rcases Nat.eq_zero_or_pos xs.length with h0|h0
  .have hxs:xs=[]:=List.length_eq_zero_iff.1 h0;subst hxs
   obtain⟨a,ca,rfl,ha⟩:∃a ca,v2=.slice a 0 ca/\(a=none->ca=0):=by
    cases hx with
    |none a ca ha=>exact⟨a,ca,rfl,ha⟩
    |GV _ _ _ _ _ _ _ hh=>simp at hh
   have hv2:Eb a 0 ca=.slice none 0 0\/∃a' c',Eb a 0 ca=.slice (some a') 0 c':=by
    cases a with
    |none=>rw[ha rfl];exact .inl rfl
    |some a=>exact .inr ⟨_,_,rfl⟩
   obtain⟨m',k1,k2,k3⟩:=AKF (w':=w) (λ_ _=>rfl) rfl rfl rfl (λ_=>rfl) (nY:=vs) rfl g3 (by
    simp only[List.flatten_nil,CG];rw[OW.length,mo];exact OW) AZy
   exact⟨_,w,m',Go.Ab.Rd t t' ty e i d ht VP hi _ _ _ _ rfl hc _ hv2 w,k1,k2,k3⟩
  obtain⟨B2,o2,c2,KI,rfl,q4,Wx,vJ⟩:=yT hr VM Va hx h0;have Pr:KI.length=xs.length*i.size:=q4.len;have hfl:=q4.lL;have AQx:xs.flatten.length=xs.length*i.size:=by rw[hfl.length,Pr]
  have htl:(cs.take (n*i.size)++xs.flatten).length=n*i.size+xs.length*i.size:=by rw[Bd,OW.length,mo,AQx]
  by_cases bN:n+xs.length<=c
  .have YL:(n+xs.length)*i.size<=c*i.size:=DD _ bN;rw[Ce]at YL
   have vO:n*i.size+KI.length<=vs.toList.length:=by
    have h5:c*i.size<=vs.size:=JK;rw[Pr,Cp];exact CN YL h5
   have I0:=EA (P:=P) B (n*i.size) ly KI 0 vs w g3 (by simpa using vO) vJ;simp only[DN]at I0;obtain⟨x1,x2,x3,x4⟩:=MD w B vs (vs.toList.take (n*i.size)++KI++vs.toList.drop (n*i.size+KI.length)).toArray ly g3;have HW:=Go.Ab.cB t t' ty e d i ht VP hi B 0 n c ⟨B2,o2,none⟩ xs.length c2 KI Pr Wx bN (by rw[CZ];exact I0)
   obtain⟨m',k1,k2,k3⟩:=AKF (w':=w.setRow B (vs.toList.take (n*i.size)++KI++vs.toList.drop (n*i.size+KI.length)).toArray) (λk hk=>x2 k hk) x3 rfl rfl x4
    (nY:=(vs.toList.take (n*i.size)++KI++vs.toList.drop (n*i.size+KI.length)).toArray) (by rw[C9,K4 _ _ _ vO,Cp]) x1 (by
     rw[htl,B3,<- B3,<- Pr,D7 (by rw[Bd,mo])];exact OW.append (Pk.vrs hfl)) bN
   exact⟨_,_,m',HW,k1,k2,k3⟩
  .have hgt:c<n+xs.length:=AA;have Nd:=growslice_fits (need:=n+xs.length) (old:=c) (bytes:=i.bytes) hgt MS;have HW:=Go.Ab.cA (w:=w) t t' ty e d i z ht VP hi hz ⟨B,0,none⟩ n c (vs.toList.take (n*i.size)) mo vI ⟨B2,o2,none⟩ xs.length c2 KI Pr Wx hgt AA Nd;have hge:=E9 w (n+xs.length) c e
   have Of:((vs.toList.take (n*i.size)).toArray++KI.toArray++Ci z.cells (Cx w (n+xs.length) c e-(n+xs.length))).size=Cx w (n+xs.length) c e*i.size:=by
    rw[DV,DV,YG,hzs,C9,C9,mo,Pr,<- Ce,<- Ce];congr 1;omega
   obtain⟨m',k1,k2,k3,k4⟩:=(It.drew (hr.AR0 hb rfl)).pX (b:=b') (e:=i.size) (cs:=cs.take (n*i.size)++xs.flatten) Aan ((vs.toList.take (n*i.size)).toArray++KI.toArray++Ci z.cells (Cx w (n+xs.length) c e-(n+xs.length))) e (by
    have:((vs.toList.take (n*i.size)).toArray++KI.toArray++Ci z.cells (Cx w (n+xs.length) c e-(n+xs.length))).toList.take (cs.take (n*i.size)++xs.flatten).length=vs.toList.take (n*i.size)++KI:=by
     rw[htl,<- Pr];simp only[Array.toList_append];rw[D7 (by rw[Bd,mo])]
    rw[this];exact OW.append (Pk.vrs hfl))
   exact Aff
end
end
section
open Go.Ab (Fw and_true)
section
variable{P:Program} {m:J} {h:Nat->Option Obj} {w:World}
def ABk(K:KK)(w:World):Prop:=∀B ks,K B=some ks->∃vs ty,w.heap[B]?=some (.cells vs ty (0,0))/\ks<+:vs.toList
inductive O4 (K:KK) (w:World):List Nat->List (List PV)->Prop
 |nil:O4 K w [] []
 |cons (B:Nat) (cs:List PV) (Bs:List Nat) (VX:List (List PV)) (vs:Array Bk) (ty:Bz):K B=none->w.heap[B]?=some (.cells vs ty (0,0))->Pk K cs vs.toList->O4 K w Bs VX->O4 K w (B::Bs) (cs::VX)
inductive AR (K:KK) (Bs:List Nat):PV->Bk->Prop
 |data (a:PV) (v:Bk):DR K a v->AR K Bs a v
 |agg (l:List PV) (l':List Bk):Pk K l l'->AR K Bs (.agg l) (.agg l'.toArray)
 |GN (i B:Nat):Bs[i]?=some B->AR K Bs (.GN i 0) (.pointer (some ⟨B,0,none⟩))
inductive ARs (K:KK) (Bs:List Nat):List PV->List Bk->Prop
 |nil:ARs K Bs [] []
 |cons (a:PV) (v:Bk) (l:List PV) (l':List Bk):AR K Bs a v->ARs K Bs l l'->ARs K Bs (a::l) (v::l')
inductive R1 (K:KK):PV->Bk->Prop
 |data (a:PV) (v:Bk):DR K a v->R1 K a v
 |agg (l:List PV) (l':List Bk):Pk K l l'->R1 K (.agg l) (.agg l'.toArray)
inductive R1s (K:KK):List PV->List Bk->Prop
 |nil:R1s K [] []
 |cons (a:PV) (v:Bk) (l:List PV) (l':List Bk):R1 K a v->R1s K l l'->R1s K (a::l) (v::l')
inductive RR (K:KK) (w:World) (IW:Nat):PV->Bk->Prop
 |one (a:PV) (v:Bk):R1 K a v->RR K w IW a v
 |tuple (l:List PV) (l':List Bk):R1s K l l'->RR K w IW (.tuple l) (.tuple l'.toArray)
 |ph (e:Nat):RR K w IW (.HL e []) (.slice none 0 0)
 |HE (GK:List (List PV)) (B e c:Nat) (ks:List Bk) (vs:Array Bk) (ty:Bz):IW<=B->K B=some ks->Rows K e GK ks->0<GK.length->GK.length<=c->w.heap[B]?=some (.cells vs ty (0,0))->c*e<=vs.size->
  RR K w IW (.HL e GK) (.slice (some ⟨B,0,none⟩) GK.length c)
structure tg (K:KK) (w:World) (Bs:List Nat) (r:PV) (G9:List (List PV)) (K':KK) (v:Bk) (w':World):Prop where
 le:Yn K K'
 Xp:ABk K' w'
 old:∀B ks,K' B=some ks->B<w.heap.size->K B=some ks
 HV:O4 K' w' Bs G9
 size:w.heap.size<=w'.heap.size
 LU:∀B,B<w.heap.size->B∉Bs->w'.heap[B]?=w.heap[B]?
 os:w'.os=w.os
 output:w'.output=w.output
 NZ:∀a:Addr,a.block<w.heap.size->w'.frozen? a=w.frozen? a
 val:RR K' w' w.heap.size r v
def PC(P:Cf)(f:B9)(args:List PV)(HV:List (List PV))(r:PV)(G9:List (List PV)):Prop:=
 ∀(K:KK) (w:World) (Bs:LN) (HP:LV),ABk K w->O4 K w Bs HV->Bs.Nodup->ARs K Bs args HP->
  Er DF 0 P f HP.toArray w λe w'=>∃K' v,e=.returned v/\tg K w Bs r G9 K' v w'
def PV.lI:PV->Option PV
 | .agg l=>match JC l with
  |some k=>some (.agg k)
  |none=>none
 |v=>v.data
def JA:List PV->Nat->Option (List PV×LN)
 |[],_=>some ([],[])
 | .GN b o::r,k=>bif Br o 0 then(match JA r (k+1)with
   |some (as,bs)=>some (.GN k 0::as,b::bs)
   |none=>none)else none
 |v::r,k=>match v.lI with
  |some x=>match JA r k with
   |some (as,bs)=>some (x::as,bs)
   |none=>none
  |none=>none
def Gv(st:St):LN->Option (List (List PV))
 |[]=>some []
 |b::r=>match st.heap b with
  |some (.box cs)=>match JC cs with
   |some k=>match Gv st r with
    |some l=>some (k::l)
    |none=>none
   |none=>none
  |_=>none
def Hc(st:St):LN->List (List PV)->St
 |b::bs,cs::VX=>Hc (st.set b (.box cs)) bs VX
 |_,_=>st
def JF(r:PV)(st:St):PV×St:=match r with
 | .HL e GK=>(.HL st.next GK,st.new (.HE GK.length e))
 |v=>(v,st)
def Lp:LN->Bool
 |[]=>true
 |b::r=> !r.contains b&&Lp r
structure gV (P:Cf) (f:B9) (vs:List PV) (st:St) (v:PV) (He:St) (bs:List Nat):Prop where
 mk::
 ex:∃args HV r G9,JA vs 0=some (args,bs)/\Lp bs=true/\Gv st bs=some HV/\G9.length=bs.length/\PC P f args HV r G9/\(v,He)=JF r (Hc st bs G9)
def R6:∀{l:LN},Lp l=true->l.Nodup
 |[],_=>List.nodup_nil
 |b::r,h=>by
  simp only[Lp,Bo,Dl,List.contains_eq_mem,decide_eq_false_iff_not]at h;exact CP.2 ⟨h.1,R6 h.2⟩
def ABv{a x:PV}{v:Bk}(hv:VR m a v)(h:a.lI=some x)(Bs:LN):AR m.K Bs x v:=by unfold PV.lI at h;exact Ad3
def bG(hr:It m h w){st:St}(I0:st.heap=h):∀{bs:LN} {HV:List (List PV)},Gv st bs=some HV->
  ∃Bs:LN,O4 m.K w Bs HV/\Bs.length=bs.length/\∀(i b:Nat),bs[i]?=some b->∃B:Nat,Bs[i]?=some B/\m.box b=some B
 |[],HV,h=>by simp[Gv]at h;subst h;exact⟨[],.nil,rfl,λi b hb=>by simp at hb⟩
 |b::bs,HV,hg=>by
  simp only[Gv]at hg;split at hg
  .rename_i cs hb;split at hg
   .rename_i k hk;split at hg
    .rename_i l hl;simp at hg;subst hg;obtain⟨Bs,h1,h2,h3⟩:=bG hr I0 hl;rw[I0]at hb;obtain⟨B,vs,ty,g1,g2,g3⟩:=hr.box b cs hb;refine⟨B::Bs,.cons B k Bs l vs ty (hr.bK b B g1 Aab) g2 (g3.Q7 hk) h1,by simp[h2],λi b' OK=>?_⟩;cases i with
     |zero=>simp at OK;subst OK;exact⟨B,rfl,g1⟩
     |succ i=>simp at OK;simpa using h3 i b' OK
    .cases hg
   .cases hg
  .cases hg
def Zn{bs0 Bs:LN}(hB:∀(i b:Nat),bs0[i]?=some b->∃B:Nat,Bs[i]?=some B/\m.box b=some B):∀{vs:List PV} {k:Nat} {args:List PV} {bs:LN} {HP:LV},JA vs k=some (args,bs)->LC m vs HP->
  (∀i b,bs[i]?=some b->bs0[k+i]?=some b)->ARs m.K Bs args HP
 |[],k,args,bs,HP,h,hv,_=>by
  simp[JA]at h;obtain⟨rfl,rfl⟩:=h;cases hv;exact .nil
 |v::r,k,args,bs,HP,h,hv,hbs=>by
  cases hv with
  |cons _ u _ l' h1 h2=>
   have gen:∀x,v.lI=some x->(match JA r k with
     |some (as,bs)=>some (x::as,bs)
     |none=>none)=some (args,bs)->ARs m.K Bs args (u::l'):=by
    intro x hx h;split at h
    .rename_i as bs' Kv;simp at h;obtain⟨rfl,rfl⟩:=h;exact .cons _ _ _ _ (ABv h1 hx Bs) (Zn hB Kv h2 hbs)
    .cases h
   cases v with
   |GN b o=>
    simp only[JA]at h;cases ho:Br o 0 with
    |false=>simp[ho]at h
    |true=>
     simp only[ho,cond_true]at h;have ho:=B5 ho;subst ho;split at h
     .rename_i as bs' Kv;simp at h;obtain⟨rfl,rfl⟩:=h;have hk:=hbs 0 b rfl;rw[DN]at hk;obtain⟨B,g1,g2⟩:=hB k b hk;cases h1 with
      |data _ _ hd=>cases hd
      |GN _ _ B' hm=>
       rw[g2]at hm;cases hm
       exact .cons _ _ _ _ (.GN k B g1) (Zn hB Kv h2 λi b' OK=>by
        have:=hbs (i+1) b' (by simpa using OK);rw[show k+1+i=k+(i+1) by omega];exact this)
     .cases h
   |_=>
    simp only[JA]at h;split at h
    .rename_i x hx;exact gen x hx h
    .cases h
def O4.get{K:KK}:∀{Bs:LN} {VX:List (List PV)} {i B:Nat} {cs:List PV},O4 K w Bs VX->Bs[i]?=some B->VX[i]?=some cs->K B=none/\∃vs ty,w.heap[B]?=some (.cells vs ty (0,0))/\Pk K cs vs.toList
 |_,_,i,B,cs,.nil,h1,_=>by simp at h1
 |_,_,i,B,cs,.cons B' Oc Bs VX vs ty hK hw hd hr,h1,h2=>by
  cases i with
  |zero=>simp at h1 h2;subst h1 h2;exact⟨hK,vs,ty,hw,hd⟩
  |succ i=>simp at h1 h2;exact hr.get h1 h2
def O4.length{K:KK}:∀{Bs:LN} {VX:List (List PV)},O4 K w Bs VX->Bs.length=VX.length
 |_,_,.nil=>rfl
 |_,_,.cons _ _ _ _ _ _ _ _ _ hr=>by simp[hr.length]
def KG:∀{bs:LN} {VX:List (List PV)} {st:St},bs.Nodup->VX.length=bs.length->∀b,(Hc st bs VX).heap b=(match bs.idxOf? b with
  |some i=>(VX[i]?).map Obj.box
  |none=>st.heap b)
 |[],VX,st,_,_,b=>by simp[Hc]
 |b0::bs,[],st,_,hl,b=>by simp at hl
 |b0::bs,cs::VX,st,hn,hl,b=>by
  obtain⟨fT,gJ⟩:=CP.1 hn;simp only[Hc];rw[KG gJ AaW];simp only[List.idxOf?_cons,St.set];by_cases c:b=b0
  .subst c
   have:bs.idxOf? b=none:=by
    rw[Db];exact fT
   rw[this];simp
  .have c':(b0==b)=false:=by simpa using Ne.symm c
   rw[c'];simp only[Cw,if_false];cases hi:bs.idxOf? b with
   |none=>simp[JT,c]
   |some i=>simp
def LY:∀{bs:LN} {VX:List (List PV)} {st:St},(Hc st bs VX).next=st.next
 |[],_,_=>rfl
 |_::_,[],_=>rfl
 |_::bs,_::VX,st=>by simp only[Hc];rw[LY];rfl
def QP{st:St}:∀{bs:LN} {l:List (List PV)},Gv st bs=some l->∀b,b∈bs->∃cs,st.heap b=some (.box cs)
 |[],_,_,b,hb=>by simp at hb
 |b0::bs,l,h,b,hb=>by
  simp only[Gv]at h;split at h
  .rename_i cs JK;split at h
   .split at h
    .rename_i l' hl;rcases Bm.1 hb with rfl|hb
     .exact⟨cs,JK⟩
     .exact QP hl b hb
    .cases h
   .cases h
  .cases h
def It.AT3(hr:It m h w){bs Bs:LN}{G9:List (List PV)}{K':KK}{v:Bk}{w':World}{r:PV}(hc:tg m.K w Bs r G9 K' v w')(hB:∀(i b:Nat),bs[i]?=some b->∃B:Nat,Bs[i]?=some B/\m.box b=some B)(hl:Bs.length=bs.length)(Yc:∀b,b∈bs->∃cs,h b=some (.box cs))
  {st He:St}(I0:st.heap=h)(AVz:He=Hc st bs G9)(KO:bs.Nodup)(Pq:G9.length=bs.length):Lx m w {m with K:=K'} w'/\It {m with K:=K'} He.heap w':=by
 subst I0 AVz;have hle:m.le {m with K:=K'}:=⟨λ_ _ h=>h,hc.le,λb B n e t h=>⟨B,n,t,h,Bg _,λ_=>⟨rfl,rfl⟩⟩,λ_ _ _=>rfl⟩
 have ADP:∀b,b∈bs->st.heap b≠some .KV:=λb hb=>by
  obtain⟨cs,h1⟩:=Yc b hb;rw[h1];exact MA rfl
 have hBs:∀B,B∈Bs->∃b,b∈bs/\m.box b=some B:=by
  intro B hB';obtain⟨i,hi⟩:=EZ hB';have G7:=(Bp.1 hi).1;obtain⟨b,hb⟩:∃b,bs[i]?=some b:=⟨bs[i]' AA,by rw[Bc]⟩
  obtain⟨B',h1,h2⟩:=hB i b hb;rw[hi]at h1;cases h1;exact⟨b,Bn hb,h2⟩
 have hKo:∀b B n e t,m.HE b=some (B,n,e,t)->B∉Bs:=by
  intro b B n e t ho Jr;obtain⟨b',hbm,OK⟩:=hBs B Jr;obtain⟨n',e',hh⟩:=hr.Qq b _ ho;rcases hr.HE b n' e' hh with⟨_,h1⟩|⟨_,B2,t2,h1,ks,h2,_⟩
  .rw[ho]at h1;cases h1
  .rw[ho]at h1;cases h1;rw[hr.bK b' _ OK (ADP b' hbm)]at h2;cases h2
 have rU:∀b B,m.box b=some B->st.heap b≠some .KV->K' B=none:=by
  intro b B hb hd;cases hk:K' B with
  |none=>rfl
  |some ks=>
   have:=hc.old B ks hk (hr.XE hb);rw[hr.bK b B hb hd]at this;cases this
 have mc:∀b,(Hc st bs G9).heap b≠some .KV->st.heap b≠some .KV:=λb hd hh=>by
  rw[KG KO Pq]at hd;cases hi:bs.idxOf? b with
  |none=>rw[hi]at hd;exact hd hh
  |some i=>
   have qT:b∈bs:=by
    have:=Cq.1 Ak;obtain⟨G7,heq,_⟩:=this;have:bs[i]=b:=by simpa using heq
    rw[<- this];exact Bl _
   exact ADP b qT hh
 have AML:∀B o,m.KW B=some o->B∉Bs:=by
  intro B o ho Jr;obtain⟨b',hbm,OK⟩:=hBs B Jr;obtain⟨cs,JK⟩:=Yc b' hbm;obtain⟨B2,vs,ty,h1,h2,_⟩:=hr.box b' cs JK;rw[OK]at h1;cases h1;obtain⟨h3,h4,_⟩:=hr.KW B o ho;rw[h2]at h3;cases h3;cases h4
 refine⟨⟨hle,hc.size,λb _ h=> .inl ⟨b,h⟩,λb B n e t h=> .inl ⟨b,n,e,t,h⟩,λB ks hk=>?_,λB G7 hn=>?_,hc.os,hc.output,hc.NZ,rfl⟩,⟨λb o hb=>?_,λB o ho=>?_,λb n e hb=>?_,hc.Xp,λb B hb=>?_,λb x hb=>?_,λb b' B h1 h2 d d'=>hr.LJ b b' B h1 h2 (mc b d) (mc b' d'),hr.Mi,λb B hb d=>rU b B hb (mc b d),λb B hb=>Cv (hr.blt b B hb) hc.size⟩⟩
 .by_cases c:B<w.heap.size
  .exact .inr (.inl (hc.old B ks hk c))
  .exact Ahd
 .refine hc.LU B G7 λJr=>hn ?_;obtain⟨b,_,hb⟩:=hBs B Jr;exact .inl ⟨b,hb⟩
 .rw[KG KO Pq]at hb;cases hi:bs.idxOf? b with
  |none=>
   rw[hi]at hb;refine(hr.bl b o hb).Hi hle λhd B h1=>hc.LU B (hr.XE h1) λJr=>?_;obtain⟨b',hm',OK⟩:=hBs B Jr;have L0:st.heap b=some o:=hb;have:=hr.LJ b b' B h1 OK (by rw[L0];exact MA hd) (ADP b' hm');subst this;rw[Db]at hi;exact hi hm'
  |some i=>
   rw[hi]at hb;simp only[EH]at hb;obtain⟨Oc,h1,rfl⟩:=hb
   have qT:bs[i]?=some b:=by
    exact AeI
   obtain⟨B,g1,g2⟩:=hB i b qT;obtain⟨_,vs,ty,k1,k2⟩:=hc.HV.get g1 h1;exact⟨B,vs,ty,g2,k1,Pk.vrs (m:={m with K:=K'}) k2⟩
 .obtain⟨h1,h2⟩:=hr.KW B o ho;exact⟨(hc.LU B (CU.1 h1).1 (AML B o ho)).trans h1,h2⟩
 .have OK:st.heap b=some (.HE n e):=by
   rw[KG KO Pq]at hb;cases hi:bs.idxOf? b with
   |none=>rw[hi]at hb;exact hb
   |some i=>rw[hi]at hb;simp at hb
  rcases hr.HE b n e OK with h1|⟨h0,B,t,h1,ks,h2,h3,vs,ty,h4,h5⟩
  .exact AgC
  .obtain⟨Uw,g1,g2⟩:=hc.le B ks h2;have:=hc.old B Uw g1 (hr.Ux h1);rw[h2]at this;cases this;exact .inr ⟨h0,B,t,h1,ks,g1,h3,vs,ty,by rw[hc.LU B (hr.Ux h1) (hKo b B n e t h1)];exact h4,h5⟩
 .obtain⟨cs,JK⟩:=hr.P6 b B hb;rw[KG KO Pq];cases hi:bs.idxOf? b with
  |none=>exact⟨cs,JK⟩
  |some i=>
   have G7:i<bs.length:=by
    have:=Cq.1 Ak;exact this.1
   exact⟨.box (G9[i]' AA),by simp[Bc (show i<G9.length by omega)],rfl⟩
 .obtain⟨n,e,JK⟩:=hr.Qq b x hb;refine⟨n,e,?_⟩;rw[KG KO Pq];cases hi:bs.idxOf? b with
  |none=>exact JK
  |some i=>
   have qT:bs[i]?=some b:=by
    exact AeI
   obtain⟨B,g1,g2⟩:=hB i b qT;obtain⟨o,SV,Pt⟩:=hr.P6 b B g2;rw[JK]at SV;cases SV;cases Pt
def It.AOz(hr:It m h w){b:Nat}(hb:h b=none){B n e t:Nat}{ks:LV}{vs:AV0}{ty:Bz}(hk:m.K B=some ks)(hn:0<n)(hl:ks.length=n*e)(hw:w.heap[B]?=some (.cells vs ty (0,0)))(ht:vs.size=t)(hi:¬m.my B):
  m.le {m with HE:=λx=>if x=b then some (B,n,e,t)else m.HE x}/\It {m with HE:=λx=>if x=b then some (B,n,e,t)else m.HE x} (λx=>bif Br x b then some (.HE n e)else h x) w/\
   (∀x B' n' e' t',(if x=b then some (B,n,e,t)else m.HE x)=some (B',n',e',t')->m.HE x=some (B',n',e',t')\/B'=B):=by
 have hle:m.le {m with HE:=λx=>if x=b then some (B,n,e,t)else m.HE x}:=⟨λ_ _ h=>h,Yn.refl _,λx B' n' e' t' hx=>⟨B',n',t',by
  show(if _ then _ else _)=_;rw[Ng (by rintro rfl;rw[hr.jS hb]at hx;cases hx)];exact hx,Bg _,λ_=>⟨rfl,rfl⟩⟩,λ_ _ _=>rfl⟩
 have Kk:∀x B',m.box x=some B'->x≠b:=by rintro x B' hx rfl;rw[hr.R8 hb]at hx;cases hx
 have NH:∀x y,(if x=b then some (B,n,e,t)else m.HE x)=some y->(x=b/\y=(B,n,e,t))\/(x≠b/\m.HE x=some y):=by
  intro x y hx;by_cases c:x=b
  .rw[Ps c]at hx;cases hx;exact .inl ⟨c,rfl⟩
  .rw[Ng c]at hx;exact .inr ⟨c,hx⟩
 refine⟨hle,It.congr (h:=λx=>if x=b then some (.HE n e)else h x) ⟨λx o hx=>?_,hr.KW,λx k e' hx=>?_,hr.Xp,λx B' hx=>?_,λx y hx=>?_,λx x' B' hx Ts d d'=>?_,λx x' B' n1 e1 t1 n2 e2 t2 hx Ts=>?_,λx B' hx d=>?_,hr.blt⟩ λx=>JT ..,λx B' n' e' t' hx=>?_⟩
 .by_cases c:x=b
  .exact AfQ
  .exact Ag1
 .by_cases c:x=b
  .rw[Ps c]at hx;cases hx;exact .inr ⟨hn,B,t,by show(if _ then _ else _)=_;rw[Ps c],ks,hk,hl,vs,ty,hw,ht⟩
  .rw[Ng c]at hx;rcases hr.HE x k e' hx with⟨h1,h2⟩|⟨h0,B',t',h1,h2⟩
   .exact AgX
   .exact .inr ⟨h0,B',t',by show(if _ then _ else _)=_;rw[Ng c];exact h1,h2⟩
 .obtain⟨cs,JK⟩:=hr.P6 x B' hx;exact⟨cs,by rw[Ng (Kk x B' hx)];exact JK⟩
 .rcases NH x y hx with⟨c,_⟩|⟨c,h1⟩
  .exact⟨n,e,by rw[Ps c]⟩
  .exact Agb
 .rw[Ng (Kk x B' hx)]at d;rw[Ng (Kk x' B' Ts)]at d';exact hr.LJ x x' B' hx Ts d d'
 .rcases NH x _ hx with⟨c,h1⟩|⟨c,h1⟩<;>rcases NH x' _ Ts with⟨c',h2⟩|⟨c',h2⟩
  .rw[c,c']
  .cases h1;exact Zq (.inr ⟨x',_,_,_,h2⟩) hi
  .cases h2;exact Zq (.inr ⟨x,_,_,_,h1⟩) hi
  .exact hr.Mi x x' B' _ _ _ _ _ _ h1 h2
 .rw[Ng (Kk x B' hx)]at d;exact hr.bK x B' hx d
 .rcases NH x _ hx with⟨_,h1⟩|⟨_,h1⟩
  .cases h1;exact .inr rfl
  .exact AgC
end
end
end Go.Vi
