/- Part of the proof of ClocksDeep (own work). -/
import Derived.Test.YtlonlfiaclacdaaGreatA1
set_option linter.all false
set_option maxRecDepth 100000
namespace Go.Vi
open Go.Ab (szOf bytesOf isAggO sliceElem fieldO)
inductive PV where
  | gone
  | int (k : IntKind) (n : Int)
  | bool (b : Bool)
  | str (s : ByteArray)
  | nil
  | lst (rows : List (List PV))
  | acc (b : Nat) (rows : List (List PV))
  | cap (rows : List (List PV))
  | emp
  | bsl (b n : Nat)
  | agg (l : List PV)
  | tuple (l : List PV)
  | ptr (b o : Nat)
  | eptr (row : List PV) (o : Nat)
  | nptr
  | map (b : Nat)
  | nmap
  | fn (f : FuncId) (caps : List PV)
  | bfn (f : FuncId) (bound : List PV)
  | nfn
  | yield (L : Nat)
  | iface (t : TypeId) (v : PV)
  | niface
abbrev PV.undef : PV := .tuple []
inductive MKey where
  | i (n : Int)
  | s (b : ByteArray)
def MKey.is : MKey → MKey → Bool
  | .i a, .i b => a == b
  | .s a, .s b => a.toList == b.toList
  | _, _ => false
def MKey.like : MKey → MKey → Bool
  | .i _, .i _ => true
  | .s _, .s _ => true
  | _, _ => false
def MKey.val : MKey → Value
  | .i n => .int .i64 n
  | .s b => .string b
abbrev ML := List (MKey × Int)
def mfind (k : MKey) : ML → Option Int
  | [] => none
  | (k', v) :: r => bif k.is k' then some v else mfind k r
def mput (k : MKey) (v : Int) : ML → ML
  | [] => [(k, v)]
  | (k', v') :: r => bif k.is k' then (k, v) :: r else (k', v') :: mput k v r
def mdel (k : MKey) : ML → ML
  | [] => []
  | (k', v') :: r => bif k.is k' then r else (k', v') :: mdel k r
abbrev MS := List (MKey × List (List PV))
def sfind (k : MKey) : MS → Option (List (List PV))
  | [] => none
  | (k', v) :: r => bif k.is k' then some v else sfind k r
def sput (k : MKey) (v : List (List PV)) : MS → MS
  | [] => [(k, v)]
  | (k', v') :: r => bif k.is k' then (k, v) :: r else (k', v') :: sput k v r
inductive Obj where
  | box (cells : List PV)
  | own (n e : Nat)
  | arr (e : Nat) (cells : List PV)
  | map (l : ML)
  | maps (l : MS)
  | dead
def Obj.isOwn : Obj → Bool
  | .own _ _ => true
  | _ => false
def Obj.isDead : Obj → Bool
  | .dead => true
  | _ => false
def Obj.asMS : Obj → Option MS
  | .maps l => some l
  | .map [] => some []
  | _ => none
structure St where
  heap : Nat → Option Obj
  next : Nat
abbrev Fr := Nat → PV
def Fr.set (fr : Fr) (d : Nat) (v : PV) : Fr := fun t => bif Nat.beq t d then v else fr t
def St.set (st : St) (b : Nat) (o : Obj) : St := { st with heap := fun x => bif Nat.beq x b then some o else st.heap x }
def St.new (st : St) (o : Obj) : St := { heap := fun x => bif Nat.beq x st.next then some o else st.heap x, next := st.next + 1 }
def PV.cells : PV → List PV
  | .agg l => l
  | v => [v]
def PV.data : PV → Option PV
  | .int k n => some (.int k n)
  | .bool b => some (.bool b)
  | .str s => some (.str s)
  | .nil => some (.lst [])
  | .emp => some (.lst [])
  | .cap rows => some (.lst rows)
  | .lst rows => some (.lst rows)
  | .acc _ rows => some (.lst rows)
  | _ => none
def datas : List PV → Option (List PV)
  | [] => some []
  | v :: r => match v.data with
    | some x => match datas r with
      | some l => some (x :: l)
      | none => none
    | none => none
def PV.dataN : PV → Option PV
  | .nil => some .nil
  | v => v.data
def datasN : List PV → Option (List PV)
  | [] => some []
  | v :: r => match v.dataN with
    | some x => match datasN r with
      | some l => some (x :: l)
      | none => none
    | none => none
def datasB (N : Bool) (l : List PV) : Option (List PV) := bif N then datasN l else datas l
def PV.rows : PV → Option (List (List PV))
  | .nil => some []
  | .emp => some []
  | .cap rows => some rows
  | .lst rows => some rows
  | .acc _ rows => some rows
  | _ => none
def PV.scalar : PV → Bool
  | .agg _ | .tuple _ | .gone => false
  | _ => true
def PV.solid : PV → Bool
  | .gone => false
  | _ => true
inductive Req where
  | val (v : PV)
  | load (b : Nat) (f : List PV → Option PV)
  | store (b : Nat) (f : List PV → Option (List PV))
  | box (cells : List PV) (f : Nat → PV)
  | push (b n e k : Nat) (v : PV)
  | own (n e : Nat) (f : Nat → PV)
  | arr (e : Nat) (cells : List PV) (f : Nat → PV)
  | grow (b e : Nat) (f : List PV → Option (List PV)) (k : Nat → PV)
  | map (l : ML) (f : Nat → PV)
  | look (b : Nat) (f : ML → Option PV)
  | upd (b : Nat) (f : ML → Option ML)
  | lookS (b : Nat) (f : MS → Option PV)
  | updS (b : Nat) (f : MS → Option MS)
def Req.run : Req → St → Option (PV × St)
  | .val v, st => some (v, st)
  | .load b f, st => match st.heap b with
    | some (.box cs) => match f cs with
      | some v => some (v, st)
      | none => none
    | some (.arr _ cs) => match f cs with
      | some v => some (v, st)
      | none => none
    | _ => none
  | .store b f, st => match st.heap b with
    | some (.box cs) => match f cs with
      | some cs' => some (.undef, st.set b (.box cs'))
      | none => none
    | some (.arr e cs) => match f cs with
      | some cs' => some (.undef, st.set b (.arr e cs'))
      | none => none
    | _ => none
  | .box cs f, st => some (f st.next, st.new (.box cs))
  | .push b n e k v, st => match st.heap b with
    | some (.own n' e') => bif Nat.beq n n' && (Nat.beq n 0 || Nat.beq e e') then some (v, st.set b (.own (n + k) e)) else none
    | _ => none
  | .own n e f, st => some (f st.next, st.new (.own n e))
  | .arr e cs f, st => some (f st.next, st.new (.arr e cs))
  | .grow b e f k, st => match st.heap b with
    | some (.arr e' cs) => bif Nat.beq e e' then (match f cs with
      | some cs' => some (k st.next, (st.set b .dead).new (.arr e cs'))
      | none => none) else none
    | _ => none
  | .map l f, st => some (f st.next, st.new (.map l))
  | .look b f, st => match st.heap b with
    | some (.map l) => match f l with
      | some v => some (v, st)
      | none => none
    | _ => none
  | .upd b f, st => match st.heap b with
    | some (.map l) => match f l with
      | some l' => some (.undef, st.set b (.map l'))
      | none => none
    | _ => none
  | .lookS b f, st => match (st.heap b).bind Obj.asMS with
    | some l => match f l with
      | some v => some (v, st)
      | none => none
    | none => none
  | .updS b f, st => match (st.heap b).bind Obj.asMS with
    | some l => match f l with
      | some l' => some (.undef, st.set b (.maps l'))
      | none => none
    | none => none
def Req.rd : Req → List Nat
  | .load b _ => [b]
  | .look b _ => [b]
  | .lookS b _ => [b]
  | _ => []
def Req.wr : Req → List Nat
  | .store b _ => [b]
  | .push b _ _ _ _ => [b]
  | .grow b _ _ _ => [b]
  | .upd b _ => [b]
  | .updS b _ => [b]
  | _ => []
def cst1 : Value → Option PV
  | .bool b => some (.bool b)
  | .int k n => some (.int k n)
  | .string s => some (.str s)
  | .slice none 0 0 => some .nil
  | .pointer none => some .nptr
  | .map none => some .nmap
  | .nilFunc => some .nfn
  | .func (.func f) b c => bif Nat.beq b.size 0 && Nat.beq c.size 0 then some (.fn f []) else none
  | .nilIface => some .niface
  | _ => none
def csts : List Value → Option (List PV)
  | [] => some []
  | v :: r => match cst1 v with
    | some a => match csts r with
      | some l => some (a :: l)
      | none => none
    | none => none
def cst : Value → Option PV
  | .agg cs => match csts cs.toList with
    | some l => some (.agg l)
    | none => none
  | .tuple cs => match csts cs.toList with
    | some l => some (.tuple l)
    | none => none
  | v => cst1 v
def natOf : PV → Option Nat
  | .int _ n => if 0 ≤ n then some n.toNat else none
  | _ => none
def spliceP (cs : List PV) (o : Nat) (xs : List PV) : Option (List PV) :=
  if o + xs.length ≤ cs.length then some (cs.take o ++ xs ++ cs.drop (o + xs.length)) else none
section
variable (P : Program)
def arrT (md : Bool) (t : TypeId) : Bool := md || (match P.info? t with
  | some i => match i.desc with
    | .named _ _ => true
    | _ => false
  | none => false) || (match sliceElem P t with
  | some e => match P.underlying e with
    | some (.slice _) => true
    | _ => false
  | none => false)
def zeroP (t : TypeId) : Option PV := match P.info? t with
  | some i => match i.zero with
    | some z => cst z
    | none => none
  | none => none
def evalO (fr : Fr) : Operand → Option PV
  | .tmp t => some (fr t)
  | .const v => cst v
  | .func f => some (.fn f [])
  | _ => none
def evalOs (fr : Fr) : List Operand → Option (List PV)
  | [] => some []
  | o :: r => match evalO fr o with
    | some a => match evalOs fr r with
      | some l => some (a :: l)
      | none => none
    | none => none
def cutP (t : TypeId) (cs : List PV) (o : Nat) : Option PV := match isAggO P t with
  | some true => match szOf P t with
    | some n => if o + n ≤ cs.length then some (.agg ((cs.drop o).take n)) else none
    | none => none
  | some false => cs[o]?
  | none => none
def loadQ (t : TypeId) : PV → Option Req
  | .ptr b o => some (.load b fun cs => cutP P t cs o)
  | .eptr row o => match cutP P t row o with
    | some v => some (.val v)
    | none => none
  | _ => none
def storeQ (t : TypeId) (x : PV) : PV → Option Req
  | .ptr b o => match szOf P t with
    | some n => bif Nat.beq x.cells.length n && x.cells.all PV.scalar then some (.store b fun cs => spliceP cs o x.cells) else none
    | none => none
  | _ => none
def fillP (place : Nat → Option (Nat × Nat)) (cells : List PV) : List (Nat × PV) → Option (List PV)
  | [] => some cells
  | (i, v) :: rest => match place i with
    | none => none
    | some (off, size) => bif Nat.beq v.cells.length size then (match spliceP cells off v.cells with
        | some cs => fillP place cs rest
        | none => none) else none
def placeP (fields : Array Field) (i : Nat) : Option (Nat × Nat) := match fields[i]? with
  | some f => match szOf P f.type with
    | some s => some (f.offset, s)
    | none => none
  | none => none
def buildP (t : TypeId) (parts : List (Nat × PV)) : Option PV :=
  match zeroP P t with
  | some z => match P.underlying t with
    | some (.struct fields) => bif Go.Ab.allSized P fields.toList then (match fillP (placeP P fields) z.cells parts with
        | some l => some (.agg l)
        | none => none) else none
    | _ => none
  | none => none
def rowsOf (size : Nat) : Nat → List PV → List (List PV)
  | 0, _ => []
  | n + 1, l => l.take size :: rowsOf size n (l.drop size)
def partsInOrder (N : Bool) (size : Nat) : Nat → List (Nat × PV) → Option (List (List PV))
  | _, [] => some []
  | k, (i, v) :: r => bif Nat.beq i k && Nat.beq v.cells.length size then (match datasB N v.cells with
      | some row => match partsInOrder N size (k + 1) r with
        | some l => some (row :: l)
        | none => none
      | none => none) else none
def lstP (rows : List (List PV)) : PV := match rows with
  | [] => .cap []
  | r :: l => .lst (r :: l)
def buildSliceP (N : Bool) (t : TypeId) (len : Nat) (parts : List (Nat × PV)) : Option PV :=
  match sliceElem P t with
  | some e => match szOf P e with
    | some (size + 1) => bif Nat.ble (len * (size + 1)) 16777216 && Nat.beq parts.length len then
        (match zeroP P e with
        | some z => bif Nat.beq z.cells.length (size + 1) then (match partsInOrder N (size + 1) 0 parts with
          | some rows => some (lstP rows)
          | none => none) else none
        | none => none)
      else none
    | _ => none
  | none => none
def buildSlice0 (t : TypeId) : Option Req :=
  match sliceElem P t with
  | some e => match szOf P e with
    | some (size + 1) => some (.arr (size + 1) [] fun b => .bsl b 0)
    | _ => none
  | none => none
def makeSliceQ (t : TypeId) (l c : PV) : Option Req :=
  match sliceElem P t with
  | some e => match szOf P e with
    | some (size + 1) => match bytesOf P e with
      | some bytes => match natOf l with
        | some l => match natOf c with
          | some c => bif Nat.beq l c && Go.Ab.sizeFits c bytes then
              (match zeroP P e with
              | some z => bif Nat.beq z.cells.length (size + 1) then some (.arr (size + 1) (List.replicate l z.cells).flatten fun b => .bsl b l) else none
              | none => none)
            else none
          | none => none
        | none => none
      | none => none
    | _ => none
  | none => none
def fieldAddrP (s : TypeId) (f : Nat) (x : PV) : Option PV :=
  match fieldO P s f with
  | some fd => match szOf P fd.type with
    | some (_ + 1) => match x with
      | .ptr b o => some (.ptr b (o + fd.offset))
      | .eptr row o => some (.eptr row (o + fd.offset))
      | _ => none
    | _ => none
  | none => none
def fieldP (s : TypeId) (f : Nat) (x : PV) : Option PV :=
  match fieldO P s f with
  | some fd => match x with
    | .agg l => cutP P fd.type l fd.offset
    | _ => none
  | none => none
def rowAt (size : Nat) (rows : List (List PV)) (i : Nat) : Option PV := match rows[i]? with
  | some row => bif Nat.beq row.length size then some (.eptr row 0) else none
  | none => none
def indexAddrP (t : TypeId) (x i : PV) : Option PV :=
  match natOf i with
  | some i => match P.underlying t with
    | some (.slice e) => match szOf P e with
      | some size => match x with
        | .bsl b n => if i < n then some (.ptr b (i * size)) else none
        | .lst rows => rowAt size rows i
        | .acc _ rows => rowAt size rows i
        | _ => none
      | none => none
    | some (.array n e) => match szOf P e with
      | some size => match x with
        | .ptr b o => if i < n then some (.ptr b (o + i * size)) else none
        | _ => none
      | none => none
    | _ => none
  | none => none
def indexP (t : TypeId) (x i : PV) : Option PV :=
  match natOf i with
  | some i => match P.underlying t with
    | some .string => match x with
      | .str s => match s[i]? with
        | some b => some (.int .u8 b.toNat)
        | none => none
      | _ => none
    | _ => none
  | none => none
def takeOptP (o : Option Operand) (l : List PV) : Option (Option Nat × List PV) :=
  match o with
  | none => some (none, l)
  | some _ => match l with
    | v :: r => match natOf v with
      | some n => some (some n, r)
      | none => none
    | [] => none
def sliceP (t : TypeId) (x : PV) (low high : Option Nat) : Option PV :=
  match P.underlying t with
  | some .string => match x with
    | .str s => if high.getD s.size ≤ s.size ∧ low.getD 0 ≤ high.getD s.size then some (.str (s.extract (low.getD 0) (high.getD s.size))) else none
    | _ => none
  | some (.slice e) => match szOf P e with
    | some size => match x with
      | .bsl b n => if low = none ∧ high.getD n ≤ n then some (.bsl b (high.getD n)) else none
      | x => match x.rows with
      | some rows => if high.getD rows.length ≤ rows.length ∧ low.getD 0 ≤ high.getD rows.length ∧ rows.all (fun r => Nat.beq r.length size) = true then some (.lst ((rows.drop (low.getD 0)).take (high.getD rows.length - low.getD 0))) else none
      | none => none
    | none => none
  | _ => none
def capP (t : TypeId) (x : PV) (high max : Nat) : Option PV :=
  match P.underlying t with
  | some (.slice e) => match szOf P e with
    | some size => match x.rows with
      | some rows => if high = rows.length ∧ max = rows.length ∧ rows.all (fun r => Nat.beq r.length size) = true then some (.cap rows) else none
      | none => none
    | none => none
  | _ => none
def lenP (t : TypeId) (x : PV) : Option PV := match P.underlying t with
  | some .string => match x with
    | .str s => some (.int .i64 s.size)
    | _ => none
  | some (.slice _) => match x with
    | .bsl _ n => some (.int .i64 n)
    | x => match x.rows with
    | some rows => some (.int .i64 rows.length)
    | none => none
  | _ => none
def appendQ (md : Bool) (t : TypeId) (s x : PV) : Option Req :=
  match sliceElem P t with
  | some e => match szOf P e with
    | some (size + 1) => match bytesOf P e with
      | some bytes => match zeroP P e with
        | some z => bif Nat.beq z.cells.length (size + 1) then (match x.rows with
          | some xs => bif xs.all (fun r => Nat.beq r.length (size + 1)) then (match s with
            | .nil => bif Go.Ab.sizeFits xs.length bytes then (bif arrT P md t then (match xs with
              | [] => some (.val .nil)
              | _ :: _ => some (.arr (size + 1) xs.flatten fun b => .bsl b xs.length)) else some (.own xs.length (size + 1) fun b => .acc b xs)) else none
            | .bsl b n => bif Go.Ab.sizeFits (n + xs.length) bytes then some (.grow b (size + 1) (fun cs => if n * (size + 1) ≤ cs.length then some (cs.take (n * (size + 1)) ++ xs.flatten) else none) fun b' => .bsl b' (n + xs.length)) else none
            | .acc b rows => bif Go.Ab.sizeFits (rows.length + xs.length) bytes && rows.all (fun r => Nat.beq r.length (size + 1)) then some (.push b rows.length (size + 1) xs.length (.acc b (rows ++ xs))) else none
            | .cap rows => bif Go.Ab.sizeFits (rows.length + xs.length) bytes && rows.all (fun r => Nat.beq r.length (size + 1)) then (match xs with
              | [] => some (.val (.cap rows))
              | _ :: _ => some (.own (rows.length + xs.length) (size + 1) fun b => .acc b (rows ++ xs))) else none
            | _ => none) else none
          | none => none) else none
        | none => none
      | none => none
    | _ => none
  | none => none
def intP (op : BinOp) (k : IntKind) (a b : Int) : Option PV :=
  match op with
  | .add => some (.int k (k.wrap (a + b)))
  | .sub => some (.int k (k.wrap (a - b)))
  | .mul => some (.int k (k.wrap (a * b)))
  | .quo => if b = 0 then none else some (.int k (k.wrap (a.tdiv b)))
  | .rem => if b = 0 then none else some (.int k (a.tmod b))
  | .eql => some (.bool (a == b))
  | .neq => some (.bool (a != b))
  | .lss => some (.bool (decide (a < b)))
  | .leq => some (.bool (decide (a ≤ b)))
  | .gtr => some (.bool (decide (a > b)))
  | .geq => some (.bool (decide (a ≥ b)))
  | _ => none
def eqP1 (d : Option TypeDesc) (x y : PV) : Option Bool := match d, x, y with
  | some (.int _), .int k a, .int k' b => if k = k' then some (a == b) else none
  | some .bool, .bool a, .bool b => some (a == b)
  | some .string, .str a, .str b => some (a.toList == b.toList)
  | _, _, _ => none
def eqFieldsP (xs ys : List PV) : List Field → Option Bool
  | [] => some true
  | f :: fs => if f.name = "_" then none else match isAggO P f.type with
    | some false => match xs[f.offset]? with
      | some x => match ys[f.offset]? with
        | some y => match eqP1 (P.underlying f.type) x y with
          | some b => match eqFieldsP xs ys fs with
            | some r => some (b && r)
            | none => none
          | none => none
        | none => none
      | none => none
    | _ => none
def nilP (x y : PV) : Option Bool := match x, y with
  | .ptr _ _, .nptr => some false
  | .eptr _ _, .nptr => some false
  | .nptr, .nptr => some true
  | _, _ => none
def nilS (x y : PV) : Option Bool := match x, y with
  | .nil, .nil => some true
  | .emp, .nil => some false
  | .lst (_ :: _), .nil => some false
  | .acc _ (_ :: _), .nil => some false
  | _, _ => none
def nilM (x y : PV) : Option Bool := match x, y with
  | .map _, .nmap => some false
  | .nmap, .nmap => some true
  | _, _ => none
def eqP (t : TypeId) (x y : PV) : Option Bool := match P.underlying t with
  | some (.pointer _) => nilP x y
  | some (.slice _) => nilS x y
  | some (.map _ _) => nilM x y
  | some (.struct fs) => match x, y with
    | .agg xs, .agg ys => bif P.stoodInHeld t || P.eqGuardType P.depth t then none else eqFieldsP P xs ys fs.toList
    | _, _ => none
  | d => eqP1 d x y
def strP (op : BinOp) (s t : ByteArray) : Option PV := match op with
  | .add => if s.size + t.size ≤ 9223372036854775807 then some (.str (s ++ t)) else none
  | .eql => some (.bool (s.toList == t.toList))
  | .neq => some (.bool (!(s.toList == t.toList)))
  | _ => none
def binP (op : BinOp) (t : TypeId) (x y : PV) : Option PV :=
  match x, y with
  | .int k a, .int k' b => if k = k' then intP op k a b else none
  | .str a, .str b => strP op a b
  | x, y => match op with
    | .eql => match eqP P t x y with
      | some b => some (.bool b)
      | none => none
    | .neq => match eqP P t x y with
      | some b => some (.bool !b)
      | none => none
    | _ => none
def unP (op : UnOp) (x : PV) : Option PV := match op, x with
  | .not, .bool b => some (.bool !b)
  | .neg, .int k n => some (.int k (k.wrap (0 - n)))
  | _, _ => none
def convertP (src dst : TypeId) (x : PV) : Option PV :=
  match P.underlying src with
  | some _ => match P.underlying dst with
    | some (.int k) => match x with
      | .int _ n => some (.int k (k.wrap n))
      | _ => none
    | _ => none
  | none => none
def keyOf : PV → Option MKey
  | .int .i64 n => some (.i n)
  | .str s => some (.s s)
  | _ => none
def mapT (t : TypeId) (k : MKey) : Bool := match P.underlying t with
  | some (.map kt e) => (match P.underlying kt, k with
    | some (.int .i64), .i _ => true
    | some .string, .s _ => true
    | _, _ => false) && (match zeroP P e with
    | some (.int .i64 0) => true
    | _ => false)
  | _ => false
def mapS (t : TypeId) (k : MKey) : Bool := match P.underlying t with
  | some (.map kt e) => (match P.underlying kt, k with
    | some (.int .i64), .i _ => true
    | some .string, .s _ => true
    | _, _ => false) && (match zeroP P e with
    | some .nil => true
    | _ => false)
  | _ => false
def lookupQ (t : TypeId) (m k : PV) (ok : Bool) : Option Req := match keyOf k with
  | some k => bif mapT P t k then (match m with
    | .map b => some (.look b fun l => bif l.all (fun p => k.like p.1) then (match mfind k l with
      | some v => some (bif ok then .tuple [.int .i64 v, .bool true] else .int .i64 v)
      | none => some (bif ok then .tuple [.int .i64 0, .bool false] else .int .i64 0)) else none)
    | _ => none) else bif mapS P t k then (match m with
    | .map b => bif ok then none else some (.lookS b fun l => bif l.all (fun p => k.like p.1) then some (.lst ((sfind k l).getD [])) else none)
    | _ => none) else none
  | none => none
def updateQ (t : TypeId) (m k x : PV) : Option Req := match keyOf k with
  | some k => bif mapT P t k then (match m, x with
    | .map b, .int .i64 v => some (.upd b fun l => bif l.all (fun p => k.like p.1) then some (mput k v l) else none)
    | _, _ => none) else bif mapS P t k then (match m, x.data with
    | .map b, some (.lst v) => some (.updS b fun l => bif l.all (fun p => k.like p.1) then some (sput k v l) else none)
    | _, _ => none) else none
  | none => none
def deleteQ (t : TypeId) (m k : PV) : Option Req := match keyOf k with
  | some k => bif mapT P t k then (match m with
    | .map b => some (.upd b fun l => bif l.all (fun p => k.like p.1) then some (mdel k l) else none)
    | _ => none) else none
  | none => none
def minP (x y : PV) : Option PV := match x, y with
  | .int k a, .int k' b => if k = k' then some (.int k (if b < a then b else a)) else none
  | _, _ => none
def isIface (t : TypeId) : Option Bool := match P.underlying t with
  | some (.interface _) => some true
  | some _ => some false
  | none => none
def mkIfaceP (t : TypeId) (x : PV) : Option PV := match isIface P t with
  | some false => bif x.scalar then some (.iface t x) else none
  | _ => none
def assertP (asserted : TypeId) (x : PV) : Option PV := match isIface P asserted with
  | some false => match x with
    | .iface t v => if t = asserted then some v else none
    | _ => none
  | _ => none
def zipPartsP : List (Nat × Operand) → List PV → List (Nat × PV)
  | (i, _) :: r, v :: l => (i, v) :: zipPartsP r l
  | _, _ => []
def opQ (md : Bool) (op : Op) (vs : List PV) : Option Req :=
  match op with
  | .move _ => (match vs with | [x] => some (.val x) | _ => none)
  | .assign _ => (match vs with
    | [.nil] => some (.own 0 0 fun b => .acc b [])
    | [x] => some (.val x)
    | _ => none)
  | .pick _ _ _ => (match vs with
    | [.bool c, a, b] => some (.val (bif c then a else b))
    | _ => none)
  | .alloc e => (match zeroP P e with
    | some z => some (.box z.cells fun b => .ptr b 0)
    | none => none)
  | .box _ _ => (match vs with
    | [x] => bif x.cells.all PV.scalar then some (.box x.cells fun b => .ptr b 0) else none
    | _ => none)
  | .build t parts => bif vs.all PV.solid then (match buildP P t (zipPartsP parts.toList vs) with
    | some v => some (.val v)
    | none => none) else none
  | .buildSlice t len parts => bif arrT P md t && (Nat.beq len 0 && Nat.beq parts.size 0) then buildSlice0 P t else (match buildSliceP P (arrT P md t) t len (zipPartsP parts.toList vs) with
    | some v => some (.val v)
    | none => none)
  | .makeSlice t _ _ => (match vs with | [l, c] => makeSliceQ P t l c | _ => none)
  | .makeInterface t _ => (match vs with
    | [x] => (match mkIfaceP P t x with
      | some v => some (.val v)
      | none => none)
    | _ => none)
  | .typeAssert _ _ asserted ok => (match ok, vs with
    | false, [x] => (match assertP P asserted x with
      | some v => some (.val v)
      | none => none)
    | _, _ => none)
  | .makeFunc fn first rest => (match fn with
    | .func f => bif Nat.beq first.size 0 then some (.val (.fn f vs)) else (bif Nat.beq rest.size 0 then some (.val (.bfn f vs)) else none)
    | _ => none)
  | .makeMap _ none => some (.map [] fun b => .map b)
  | .lookup t _ _ ok => (match vs with | [m, k] => lookupQ P t m k ok | _ => none)
  | .mapUpdate t _ _ _ => (match vs with | [m, k, x] => updateQ P t m k x | _ => none)
  | .load t _ => (match vs with | [a] => loadQ P t a | _ => none)
  | .store t _ _ => (match vs with | [a, x] => storeQ P t x a | _ => none)
  | .nilCheck _ => (match vs with
    | [.ptr b o] => some (.val (.ptr b o))
    | [.eptr r o] => some (.val (.eptr r o))
    | _ => none)
  | .binOp op t _ _ _ => (match vs with
    | [x, y] => (match binP P op t x y with
      | some v => some (.val v)
      | none => none)
    | _ => none)
  | .unOp op _ _ => (match vs with
    | [x] => (match unP op x with
      | some v => some (.val v)
      | none => none)
    | _ => none)
  | .convert src dst _ => (match vs with
    | [x] => (match convertP P src dst x with
      | some v => some (.val v)
      | none => none)
    | _ => none)
  | .slice t _ lo hi none => (match vs with
    | x :: r => (match takeOptP lo r with
      | some (lo', r) => match takeOptP hi r with
        | some (hi', _) => (match sliceP P t x lo' hi' with
          | some v => some (.val v)
          | none => none)
        | none => none
      | none => none)
    | [] => none)
  | .slice t _ none (some _) (some _) => (match vs with
    | [x, h, m] => (match natOf h with
      | some h => (match natOf m with
        | some m => (match capP P t x h m with
          | some v => some (.val v)
          | none => none)
        | none => none)
      | none => none)
    | _ => none)
  | .fieldAddr s _ f => (match vs with
    | [x] => (match fieldAddrP P s f x with
      | some v => some (.val v)
      | none => none)
    | _ => none)
  | .field s _ f => (match vs with
    | [x] => (match fieldP P s f x with
      | some v => some (.val v)
      | none => none)
    | _ => none)
  | .indexAddr t _ _ => (match vs with
    | [x, i] => (match indexAddrP P t x i with
      | some v => some (.val v)
      | none => none)
    | _ => none)
  | .index t _ _ => (match vs with
    | [x, i] => (match indexP P t x i with
      | some v => some (.val v)
      | none => none)
    | _ => none)
  | .extract _ ix => (match vs with
    | [.tuple l] => (match l[ix]? with
      | some v => some (.val v)
      | none => none)
    | _ => none)
  | .call ⟨.builtin .len, _, argTypes⟩ => (match argTypes.toList, vs with
    | [t], [x] => (match lenP P t x with
      | some v => some (.val v)
      | none => none)
    | _, _ => none)
  | .call ⟨.builtin .append, _, argTypes⟩ => (match argTypes.toList, vs with
    | [t, t'], [s, x] => (match P.underlying t' with
      | some (.slice _) => appendQ P md t s x
      | _ => none)
    | _, _ => none)
  | .call ⟨.builtin .min, _, _⟩ => (match vs with
    | [x, y] => (match minP x y with
      | some v => some (.val v)
      | none => none)
    | _ => none)
  | .call ⟨.builtin .delete, _, argTypes⟩ => (match argTypes.toList, vs with
    | [t, _], [m, k] => deleteQ P t m k
    | _, _ => none)
  | _ => none
end
end Go.Vi
namespace Go.Vi
def cellsB : Go.Obj → Bool
  | .cells .. => true
  | _ => false
structure J where
  box : Nat → Option Nat
  own : Nat → Option (Nat × Nat × Nat × Nat)
  K : Nat → Option (List Value)
  siz : Nat → Nat × Nat := fun _ => (0, 0)
  env : Nat → Option Go.Obj := fun _ => none
abbrev KK := Nat → Option (List Value)
mutual
inductive DR (K : KK) : PV → Value → Prop
  | int (k : IntKind) (n : Int) : DR K (.int k n) (.int k n)
  | bool (b : Bool) : DR K (.bool b) (.bool b)
  | str (s : ByteArray) : DR K (.str s) (.string s)
  | nil : DR K .nil (.slice Option.none 0 0)
  | emp (a : Addr) (c : Nat) : DR K .emp (.slice (some a) 0 c)
  | none (a : Option Addr) (c : Nat) : (a = Option.none → c = 0) → DR K (.lst []) (.slice a 0 c)
  | lst (rows : List (List PV)) (B o c sz : Nat) (ks : List Value) : K B = some ks → 0 < rows.length → rows.length ≤ c → o + rows.length * sz ≤ ks.length → (∀ (i : Nat) (row : List PV), rows[i]? = some row → row.length = sz) →
      (∀ (i : Nat) (row : List PV), rows[i]? = some row → DRs K row ((ks.drop (o + i * sz)).take sz)) → DR K (.lst rows) (.slice (some ⟨B, o, none⟩) rows.length c)
inductive DRs (K : KK) : List PV → List Value → Prop
  | nil : DRs K [] []
  | cons (a : PV) (v : Value) (l : List PV) (l' : List Value) : DR K a v → DRs K l l' → DRs K (a :: l) (v :: l')
end
mutual
inductive VR (m : J) : PV → Value → Prop
  | gone (v : Value) : VR m .gone v
  | data (a : PV) (v : Value) : DR m.K a v → VR m a v
  | nil : VR m .nil (.slice none 0 0)
  | acc0 (b : Nat) : VR m (.acc b []) (.slice none 0 0)
  | acc (b : Nat) (rows : List (List PV)) (B0 c B n e t : Nat) : m.own b = some (B, n, e, t) → 0 < rows.length → rows.length ≤ n → (n = rows.length → B = B0 ∧ c * e ≤ t) →
      DR m.K (.lst rows) (.slice (some ⟨B0, 0, none⟩) rows.length c) → VR m (.acc b rows) (.slice (some ⟨B0, 0, none⟩) rows.length c)
  | cap (rows : List (List PV)) (a : Option Addr) : DR m.K (.lst rows) (.slice a rows.length rows.length) → VR m (.cap rows) (.slice a rows.length rows.length)
  | bsl (b n B c : Nat) : m.box b = some B → n ≤ c → c * (m.siz b).1 ≤ (m.siz b).2 → VR m (.bsl b n) (.slice (some ⟨B, 0, none⟩) n c)
  | ptr (b o B : Nat) : m.box b = some B → VR m (.ptr b o) (.pointer (some ⟨B, o, none⟩))
  | eptr (row : List PV) (o B base : Nat) (ks : List Value) : m.K B = some ks → base + row.length ≤ ks.length → DRs m.K row ((ks.drop base).take row.length) → VR m (.eptr row o) (.pointer (some ⟨B, base + o, none⟩))
  | agg (l : List PV) (l' : List Value) : VRs m l l' → VR m (.agg l) (.agg l'.toArray)
  | tuple (l : List PV) (l' : List Value) : VRs m l l' → VR m (.tuple l) (.tuple l'.toArray)
  | nptr : VR m .nptr (.pointer none)
  | map (b B : Nat) : m.box b = some B → VR m (.map b) (.map (some B))
  | nmap : VR m .nmap (.map none)
  | fn (f : FuncId) (caps : List PV) (caps' : List Value) : VRs m caps caps' → VR m (.fn f caps) (.func (.func f) #[] caps'.toArray)
  | bfn (f : FuncId) (bd : List PV) (bd' : List Value) : VRs m bd bd' → VR m (.bfn f bd) (.func (.func f) bd'.toArray #[])
  | nfn : VR m .nfn .nilFunc
  | yield (L : Nat) : VR m (.yield L) (.func (.yield L) #[] #[])
  | iface (t : TypeId) (a : PV) (v : Value) : VR m a v → VR m (.iface t a) (.iface t v)
  | niface : VR m .niface .nilIface
inductive VRs (m : J) : List PV → List Value → Prop
  | nil : VRs m [] []
  | cons (a : PV) (v : Value) (l : List PV) (l' : List Value) : VR m a v → VRs m l l' → VRs m (a :: l) (v :: l')
end
def Kle (K K' : KK) : Prop := ∀ B ks, K B = some ks → ∃ ks', K' B = some ks' ∧ ks <+: ks'
theorem Kle.refl (K : KK) : Kle K K := fun _ ks h => ⟨ks, h, List.prefix_refl _⟩
theorem Kle.trans {K K' K'' : KK} (h : Kle K K') (h' : Kle K' K'') : Kle K K'' := fun B ks e => by
  obtain ⟨k1, e1, p1⟩ := h B ks e
  obtain ⟨k2, e2, p2⟩ := h' B k1 e1
  exact ⟨k2, e2, p1.trans p2⟩
theorem cut_prefix {ks ks' : List Value} (h : ks <+: ks') {a n : Nat} (hl : a + n ≤ ks.length) : (ks'.drop a).take n = (ks.drop a).take n := by
  obtain ⟨r, rfl⟩ := h
  rw [List.drop_append, List.take_append_of_le_length (by simp; omega)]
theorem row_le {n i sz o L : Nat} (hi : i < n) (h : o + n * sz ≤ L) : o + i * sz + sz ≤ L := by
  have : (i + 1) * sz ≤ n * sz := Nat.mul_le_mul_right _ hi
  rw [Nat.add_mul, Nat.one_mul] at this
  omega
mutual
theorem DR.mono {K K' : KK} (h : Kle K K') {a : PV} {v : Value} : DR K a v → DR K' a v
  | .int k n => .int k n
  | .bool b => .bool b
  | .str s => .str s
  | .nil => .nil
  | .emp a c => .emp a c
  | .none a c h0 => .none a c h0
  | .lst rows B o c sz ks hk h0 hc hl hr hd => by
    obtain ⟨ks', hk', hp⟩ := h B ks hk
    refine .lst rows B o c sz ks' hk' h0 hc (Nat.le_trans hl hp.length_le) hr fun i row hi => ?_
    rw [cut_prefix hp (row_le (List.getElem?_eq_some_iff.1 hi).1 hl)]
    exact DRs.mono h (hd i row hi)
theorem DRs.mono {K K' : KK} (h : Kle K K') {l : List PV} {l' : List Value} : DRs K l l' → DRs K' l l'
  | .nil => .nil
  | .cons a v l l' h1 h2 => .cons a v l l' (DR.mono h h1) (DRs.mono h h2)
end
structure J.le (m m' : J) : Prop where
  box : ∀ b B, m.box b = some B → m'.box b = some B
  K : Kle m.K m'.K
  own : ∀ b B n e t, m.own b = some (B, n, e, t) → ∃ B' n' t', m'.own b = some (B', n', e, t') ∧ n ≤ n' ∧ (n' = n → B' = B ∧ t' = t)
  siz : ∀ b B, m.box b = some B → m'.siz b = m.siz b
theorem J.le.refl (m : J) : m.le m := ⟨fun _ _ h => h, Kle.refl _, fun b B n e t h => ⟨B, n, t, h, Nat.le_refl _, fun _ => ⟨rfl, rfl⟩⟩, fun _ _ _ => rfl⟩
theorem J.le.trans {m m' m'' : J} (h : m.le m') (h' : m'.le m'') : m.le m'' :=
  ⟨fun b B e => h'.box b B (h.box b B e), h.K.trans h'.K, fun b B n e t hb => by
    obtain ⟨B1, n1, t1, e1, l1, c1⟩ := h.own b B n e t hb
    obtain ⟨B2, n2, t2, e2, l2, c2⟩ := h'.own b B1 n1 e t1 e1
    refine ⟨B2, n2, t2, e2, Nat.le_trans l1 l2, fun hn => ?_⟩
    have h1 : n1 = n := by omega
    obtain ⟨d1, d2⟩ := c1 h1
    obtain ⟨d3, d4⟩ := c2 (by omega)
    exact ⟨d3.trans d1, d4.trans d2⟩, fun b B hb => (h'.siz b B (h.box b B hb)).trans (h.siz b B hb)⟩
mutual
theorem VR.mono {m m' : J} (h : m.le m') {a : PV} {v : Value} : VR m a v → VR m' a v
  | .gone v => .gone v
  | .data a v hd => .data a v (hd.mono h.K)
  | .nil => .nil
  | .acc0 b => .acc0 b
  | .acc b rows B0 c B n e t ho h0 hn ht hd => by
    obtain ⟨B', n', t', e', hl, hc⟩ := h.own b B n e t ho
    refine .acc b rows B0 c B' n' e t' e' h0 (Nat.le_trans hn hl) (fun hh => ?_) (hd.mono h.K)
    have hnn : n' = n := by omega
    obtain ⟨c1, c2⟩ := hc hnn
    obtain ⟨d1, d2⟩ := ht (by omega)
    rw [c1, c2]; exact ⟨d1, d2⟩
  | .bsl b n B c hb hc hs => .bsl b n B c (h.box b B hb) hc (by rw [h.siz b B hb]; exact hs)
  | .ptr b o B hb => .ptr b o B (h.box b B hb)
  | .eptr row o B base ks hk hl hd => by
    obtain ⟨ks', hk', hp⟩ := h.K B ks hk
    refine .eptr row o B base ks' hk' (Nat.le_trans hl hp.length_le) ?_
    rw [cut_prefix hp hl]
    exact hd.mono h.K
  | .agg l l' hl => .agg l l' (VRs.mono h hl)
  | .tuple l l' hl => .tuple l l' (VRs.mono h hl)
  | .nptr => .nptr
  | .map b B hb => .map b B (h.box b B hb)
  | .nmap => .nmap
  | .fn f l l' hl => .fn f l l' (VRs.mono h hl)
  | .bfn f l l' hl => .bfn f l l' (VRs.mono h hl)
  | .cap rows a hd => .cap rows a (hd.mono h.K)
  | .nfn => .nfn
  | .yield L => .yield L
  | .iface t a v hv => .iface t a v (VR.mono h hv)
  | .niface => .niface
theorem VRs.mono {m m' : J} (h : m.le m') {l : List PV} {l' : List Value} : VRs m l l' → VRs m' l l'
  | .nil => .nil
  | .cons a v l l' h1 h2 => .cons a v l l' (VR.mono h h1) (VRs.mono h h2)
end
section
variable {K : KK} {m : J}
theorem DRs.length {l : List PV} {l' : List Value} (h : DRs K l l') : l.length = l'.length := by
  induction l generalizing l' with
  | nil => cases h; rfl
  | cons a l ih => cases h with | cons _ v _ l' h1 h2 => simp [ih h2]
theorem VRs.length {l : List PV} {l' : List Value} (h : VRs m l l') : l.length = l'.length := by
  induction l generalizing l' with
  | nil => cases h; rfl
  | cons a l ih => cases h with | cons _ v _ l' h1 h2 => simp [ih h2]
theorem DRs.vrs {l : List PV} {l' : List Value} (h : DRs m.K l l') : VRs m l l' := by
  induction l generalizing l' with
  | nil => cases h; exact .nil
  | cons a l ih => cases h with | cons _ v _ l' h1 h2 => exact .cons _ _ _ _ (.data _ _ h1) (ih h2)
theorem VRs.append {l : List PV} {l' : List Value} {k : List PV} {k' : List Value} (h : VRs m l l') (hk : VRs m k k') : VRs m (l ++ k) (l' ++ k') := by
  induction l generalizing l' with
  | nil => cases h; exact hk
  | cons a l ih => cases h with | cons _ v _ l' h1 h2 => exact .cons _ _ _ _ h1 (ih h2)
theorem DRs.append {l : List PV} {l' : List Value} {k : List PV} {k' : List Value} (h : DRs K l l') (hk : DRs K k k') : DRs K (l ++ k) (l' ++ k') := by
  induction l generalizing l' with
  | nil => cases h; exact hk
  | cons a l ih => cases h with | cons _ v _ l' h1 h2 => exact .cons _ _ _ _ h1 (ih h2)
theorem VRs.take {l : List PV} {l' : List Value} (h : VRs m l l') (n : Nat) : VRs m (l.take n) (l'.take n) := by
  induction l generalizing l' n with
  | nil => cases h; simp; exact .nil
  | cons a l ih =>
    cases h with
    | cons _ v _ l' h1 h2 =>
      cases n with
      | zero => exact .nil
      | succ n => exact .cons _ _ _ _ h1 (ih h2 n)
theorem VRs.drop {l : List PV} {l' : List Value} (h : VRs m l l') (n : Nat) : VRs m (l.drop n) (l'.drop n) := by
  induction l generalizing l' n with
  | nil => cases h; simp; exact .nil
  | cons a l ih =>
    cases h with
    | cons _ v _ l' h1 h2 =>
      cases n with
      | zero => exact .cons _ _ _ _ h1 h2
      | succ n => exact ih h2 n
theorem DRs.take {l : List PV} {l' : List Value} (h : DRs K l l') (n : Nat) : DRs K (l.take n) (l'.take n) := by
  induction l generalizing l' n with
  | nil => cases h; simp; exact .nil
  | cons a l ih =>
    cases h with
    | cons _ v _ l' h1 h2 =>
      cases n with
      | zero => exact .nil
      | succ n => exact .cons _ _ _ _ h1 (ih h2 n)
theorem DRs.drop {l : List PV} {l' : List Value} (h : DRs K l l') (n : Nat) : DRs K (l.drop n) (l'.drop n) := by
  induction l generalizing l' n with
  | nil => cases h; simp; exact .nil
  | cons a l ih =>
    cases h with
    | cons _ v _ l' h1 h2 =>
      cases n with
      | zero => exact .cons _ _ _ _ h1 h2
      | succ n => exact ih h2 n
theorem VRs.get {l : List PV} {l' : List Value} (h : VRs m l l') {i : Nat} {a : PV} (ha : l[i]? = some a) : ∃ v, l'[i]? = some v ∧ VR m a v := by
  induction l generalizing l' i with
  | nil => simp at ha
  | cons x l ih =>
    cases h with
    | cons _ v _ l' h1 h2 =>
      cases i with
      | zero => simp at ha; subst ha; exact ⟨v, rfl, h1⟩
      | succ i => simp at ha; simpa using ih h2 ha
theorem VRs.one {a : PV} {v : Value} (h : VR m a v) : VRs m [a] [v] := .cons _ _ _ _ h .nil
theorem VR.cells {a : PV} {v : Value} (h : VR m a v) (hg : a ≠ .gone) : VRs m a.cells v.cells.toList := by
  cases h with
  | gone => exact absurd rfl hg
  | agg l l' h => exact h
  | data _ _ h => cases h <;> exact .one (.data _ _ (by constructor <;> assumption))
  | nil => exact .one .nil
  | acc0 => exact .one (.acc0 _)
  | acc => exact .one (.acc _ _ _ _ _ _ _ _ ‹_› ‹_› ‹_› ‹_› ‹_›)
  | bsl => exact .one (.bsl _ _ _ _ ‹_› ‹_› ‹_›)
  | ptr => exact .one (.ptr _ _ _ ‹_›)
  | eptr => exact .one (.eptr _ _ _ _ _ ‹_› ‹_› ‹_›)
  | tuple => exact .one (.tuple _ _ ‹_›)
  | nptr => exact .one .nptr
  | map => exact .one (.map _ _ ‹_›)
  | nmap => exact .one .nmap
  | fn => exact .one (.fn _ _ _ ‹_›)
  | bfn => exact .one (.bfn _ _ _ ‹_›)
  | cap => exact .one (.cap _ _ ‹_›)
  | nfn => exact .one .nfn
  | yield => exact .one (.yield _)
  | iface => exact .one (.iface _ _ _ ‹_›)
  | niface => exact .one .niface
theorem VR.one {a : PV} {v : Value} (h : VR m a v) (ha : a.scalar = true) : v.oneCell' = true := by
  cases h with
  | gone => simp [PV.scalar] at ha
  | agg => simp [PV.scalar] at ha
  | tuple => simp [PV.scalar] at ha
  | data _ _ h => cases h <;> rfl
  | _ => rfl
theorem all_scalar {l : List PV} {l' : List Value} (h : VRs m l l') (ha : l.all PV.scalar = true) : ∀ v ∈ l', v.oneCell' = true := by
  induction l generalizing l' with
  | nil => cases h; simp
  | cons a l ih =>
    cases h with
    | cons _ v _ l' h1 h2 =>
      simp only [List.all_cons, Bool.and_eq_true] at ha
      intro x hx
      rcases List.mem_cons.1 hx with rfl | hx
      · exact h1.one ha.1
      · exact ih h2 ha.2 x hx
theorem DR.one {a : PV} {v : Value} (h : DR K a v) : v.oneCell' = true := by cases h <;> rfl
theorem DRs.one {l : List PV} {l' : List Value} (h : DRs K l l') : ∀ v ∈ l', v.oneCell' = true := by
  induction l generalizing l' with
  | nil => cases h; simp
  | cons a l ih =>
    cases h with
    | cons _ v _ l' h1 h2 =>
      intro x hx
      rcases List.mem_cons.1 hx with rfl | hx
      · exact h1.one
      · exact ih h2 x hx
theorem VR.rows {a : PV} {rows : List (List PV)} {v : Value} (h : VR m a v) (hr : a.rows = some rows) : DR m.K (.lst rows) v := by
  cases h with
  | nil => simp [PV.rows] at hr; subst hr; exact .none none 0 (fun _ => rfl)
  | acc0 => simp [PV.rows] at hr; subst hr; exact .none none 0 (fun _ => rfl)
  | acc _ _ _ _ _ _ _ _ _ _ _ _ hd => simp [PV.rows] at hr; subst hr; exact hd
  | cap _ _ hd => simp [PV.rows] at hr; subst hr; exact hd
  | data _ _ hd => cases hd <;> simp [PV.rows] at hr <;> subst hr <;> first | exact .none none 0 (fun _ => rfl) | (refine .none _ _ (fun e => ?_) <;> cases e <;> done) | (constructor <;> assumption)
  | _ => simp [PV.rows] at hr
theorem VR.toData {a x : PV} {v : Value} (h : VR m a v) (hr : a.data = some x) : DR m.K x v := by
  cases h with
  | nil => simp [PV.data] at hr; subst hr; exact .none none 0 (fun _ => rfl)
  | acc0 => simp [PV.data] at hr; subst hr; exact .none none 0 (fun _ => rfl)
  | acc _ _ _ _ _ _ _ _ _ _ _ _ hd => simp [PV.data] at hr; subst hr; exact hd
  | cap _ _ hd => simp [PV.data] at hr; subst hr; exact hd
  | data _ _ hd => cases hd <;> simp [PV.data] at hr <;> subst hr <;> first | exact .none none 0 (fun _ => rfl) | (refine .none _ _ (fun e => ?_) <;> cases e <;> done) | (constructor <;> assumption)
  | _ => simp [PV.data] at hr
theorem VRs.toData {l k : List PV} {l' : List Value} (h : VRs m l l') (hk : datas l = some k) : DRs m.K k l' := by
  induction l generalizing k l' with
  | nil => simp [datas] at hk; subst hk; cases h; exact .nil
  | cons a l ih =>
    cases h with
    | cons _ v _ l' h1 h2 =>
      simp only [datas] at hk
      cases hd : a.data with
      | none => simp [hd] at hk
      | some x =>
        cases hl : datas l with
        | none => simp [hd, hl] at hk
        | some k' => simp [hd, hl] at hk; subst hk; exact .cons _ _ _ _ (h1.toData hd) (ih h2 hl)
end
def MRel : ML → List MapEntry → Prop
  | [], [] => True
  | (k, v) :: l, e :: es => e.key = k.val ∧ e.val = .int .i64 v ∧ MRel l es
  | _, _ => False
def SRel (K : KK) : MS → List MapEntry → Prop
  | [], [] => True
  | (k, v) :: l, e :: es => e.key = k.val ∧ DR K (.lst v) e.val ∧ SRel K l es
  | _, _ => False
theorem SRel.mono {K K' : KK} (h : Kle K K') : ∀ {l : MS} {es : List MapEntry}, SRel K l es → SRel K' l es
  | [], [], _ => trivial
  | [], _ :: _, h' => h'.elim
  | _ :: _, [], h' => h'.elim
  | _ :: _, _ :: _, ⟨h1, h2, h3⟩ => ⟨h1, h2.mono h, h3.mono h⟩
def J.img (m : J) (B : Nat) : Prop := (∃ b, m.box b = some B) ∨ ∃ b n e t, m.own b = some (B, n, e, t)
def ORel (m : J) (w : World) (b : Nat) : Obj → Prop
  | .box cs => ∃ B vs ty, m.box b = some B ∧ w.heap[B]? = some (.cells vs ty (0, 0)) ∧ VRs m cs vs.toList
  | .arr e cs => ∃ B vs ty, m.box b = some B ∧ m.siz b = (e, vs.size) ∧ w.heap[B]? = some (.cells vs ty (0, 0)) ∧ VRs m cs (vs.toList.take cs.length)
  | .map l => ∃ B ents clock, m.box b = some B ∧ w.heap[B]? = some (.map ents clock) ∧ MRel l ents.toList
  | .maps l => ∃ B ents clock, m.box b = some B ∧ w.heap[B]? = some (.map ents clock) ∧ SRel m.K l ents.toList
  | _ => True
theorem ORel.keep {m m' : J} {w w' : World} {b : Nat} {o : Obj} (h : ORel m w b o) (le : m.le m') (hs : o.isDead = false → ∀ B, m.box b = some B → w'.heap[B]? = w.heap[B]?) : ORel m' w' b o := by
  cases o with
  | box cs =>
    obtain ⟨B, vs, ty, h1, h2, h3⟩ := h
    exact ⟨B, vs, ty, le.box b B h1, (hs rfl B h1).trans h2, h3.mono le⟩
  | arr e cs =>
    obtain ⟨B, vs, ty, h1, h0, h2, h3⟩ := h
    exact ⟨B, vs, ty, le.box b B h1, (le.siz b B h1).trans h0, (hs rfl B h1).trans h2, h3.mono le⟩
  | map l =>
    obtain ⟨B, es, c, h1, h2, h3⟩ := h
    exact ⟨B, es, c, le.box b B h1, (hs rfl B h1).trans h2, h3⟩
  | maps l =>
    obtain ⟨B, es, c, h1, h2, h3⟩ := h
    exact ⟨B, es, c, le.box b B h1, (hs rfl B h1).trans h2, h3.mono le.K⟩
  | own _ _ => trivial
  | dead => trivial
structure Rel (m : J) (h : Nat → Option Obj) (w : World) : Prop where
  obj : ∀ b o, h b = some o → ORel m w b o
  env : ∀ B o, m.env B = some o → w.heap[B]? = some o ∧ cellsB o = false ∧ (∀ l c, o ≠ .map l c)
  own : ∀ b n e, h b = some (.own n e) → (n = 0 ∧ m.own b = none) ∨ (0 < n ∧ ∃ B t, m.own b = some (B, n, e, t) ∧ ∃ ks, m.K B = some ks ∧ ks.length = n * e ∧ ∃ vs ty, w.heap[B]? = some (.cells vs ty (0, 0)) ∧ vs.size = t)
  fro : ∀ B ks, m.K B = some ks → ∃ vs ty fz, w.heap[B]? = some (.cells vs ty fz) ∧ ks <+: vs.toList
  bdom : ∀ b B, m.box b = some B → ∃ o, h b = some o ∧ o.isOwn = false
  odom : ∀ b x, m.own b = some x → ∃ n e, h b = some (.own n e)
  bapart : ∀ b b' B, m.box b = some B → m.box b' = some B → h b ≠ some .dead → h b' ≠ some .dead → b = b'
  oapart : ∀ b b' B n e t n' e' t', m.own b = some (B, n, e, t) → m.own b' = some (B, n', e', t') → b = b'
  bK : ∀ b B, m.box b = some B → h b ≠ some .dead → m.K B = none
  blt : ∀ b B, m.box b = some B → B < w.heap.size
structure Ext (m : J) (w : World) (m' : J) (w' : World) : Prop where
  le : m.le m'
  size : w.heap.size ≤ w'.heap.size
  bimg : ∀ b B, m'.box b = some B → (∃ b, m.box b = some B) ∨ w.heap.size ≤ B
  oimg : ∀ b B n e t, m'.own b = some (B, n, e, t) → (∃ b n e t, m.own b = some (B, n, e, t)) ∨ w.heap.size ≤ B
  knew : ∀ B ks, m'.K B = some ks → (∃ b n e t, m.own b = some (B, n, e, t)) ∨ m.K B = some ks ∨ w.heap.size ≤ B
  same : ∀ B, B < w.heap.size → ¬ m.img B → w'.heap[B]? = w.heap[B]?
  os : w'.os = w.os
  output : w'.output = w.output
  frozen : ∀ a : Addr, a.block < w.heap.size → w'.frozen? a = w.frozen? a
  env : m'.env = m.env
theorem Ext.refl (m : J) (w : World) : Ext m w m w :=
  ⟨J.le.refl m, Nat.le_refl _, fun b _ h => .inl ⟨b, h⟩, fun b B n e t h => .inl ⟨b, n, e, t, h⟩, fun _ _ h => .inr (.inl h), fun _ _ _ => rfl, rfl, rfl, fun _ _ => rfl, rfl⟩
theorem Ext.img {m m' : J} {w w' : World} (h : Ext m w m' w') {B : Nat} (hb : m'.img B) : m.img B ∨ w.heap.size ≤ B := by
  rcases hb with ⟨b, hb⟩ | ⟨b, n, e, t, hb⟩
  · exact (h.bimg b B hb).imp (fun h => .inl h) id
  · exact (h.oimg b B n e t hb).imp (fun h => .inr h) id
theorem Ext.trans {m m' m'' : J} {w w' w'' : World} (h : Ext m w m' w') (h' : Ext m' w' m'' w'') : Ext m w m'' w'' := by
  refine ⟨h.le.trans h'.le, Nat.le_trans h.size h'.size, fun b B hb => ?_, fun b B n e t hb => ?_, fun B ks hk => ?_, fun B hB hn => ?_, h'.os.trans h.os, h'.output.trans h.output, fun a ha => (h'.frozen a (Nat.lt_of_lt_of_le ha h.size)).trans (h.frozen a ha), h'.env.trans h.env⟩
  · rcases h'.bimg b B hb with ⟨b1, h1⟩ | h1
    · exact h.bimg b1 B h1
    · exact .inr (Nat.le_trans h.size h1)
  · rcases h'.oimg b B n e t hb with ⟨b1, n1, e1, t1, h1⟩ | h1
    · exact h.oimg _ _ _ _ _ h1
    · exact .inr (Nat.le_trans h.size h1)
  · rcases h'.knew B ks hk with ⟨b1, n1, e1, t1, h1⟩ | h1 | h1
    · rcases h.oimg _ _ _ _ _ h1 with h2 | h2
      · exact .inl h2
      · exact .inr (.inr h2)
    · exact h.knew B ks h1
    · exact .inr (.inr (Nat.le_trans h.size h1))
  · rw [h'.same B (Nat.lt_of_lt_of_le hB h.size) ?_, h.same B hB hn]
    intro hi
    rcases h.img hi with h1 | h1
    · exact hn h1
    · omega
theorem Ext.drew (m : J) (w : World) : Ext m w m { w with drawn := w.drawn + 1 } :=
  ⟨J.le.refl m, Nat.le_refl _, fun b _ h => .inl ⟨b, h⟩, fun b B n e t h => .inl ⟨b, n, e, t, h⟩, fun _ _ h => .inr (.inl h), fun _ _ _ => rfl, rfl, rfl, fun _ _ => rfl, rfl⟩
theorem Rel.congr {m : J} {h h' : Nat → Option Obj} {w : World} (hr : Rel m h w) (e : ∀ b, h' b = h b) : Rel m h' w := by
  have : h' = h := funext e
  rw [this]; exact hr
theorem Rel.drew {m : J} {h : Nat → Option Obj} {w : World} (hr : Rel m h w) : Rel m h { w with drawn := w.drawn + 1 } :=
  ⟨hr.obj, hr.env, hr.own, hr.fro, hr.bdom, hr.odom, hr.bapart, hr.oapart, hr.bK, hr.blt⟩
section
variable {m : J} {h : Nat → Option Obj} {w : World}
theorem Rel.lt_box (hr : Rel m h w) {b B : Nat} (hb : m.box b = some B) : B < w.heap.size := hr.blt b B hb
theorem Rel.box (hr : Rel m h w) (b : Nat) (cs : List PV) (hb : h b = some (.box cs)) : ∃ B vs ty, m.box b = some B ∧ w.heap[B]? = some (.cells vs ty (0, 0)) ∧ VRs m cs vs.toList := hr.obj b _ hb
theorem Rel.arr (hr : Rel m h w) (b e : Nat) (cs : List PV) (hb : h b = some (.arr e cs)) : ∃ B vs ty, m.box b = some B ∧ m.siz b = (e, vs.size) ∧ w.heap[B]? = some (.cells vs ty (0, 0)) ∧ VRs m cs (vs.toList.take cs.length) := hr.obj b _ hb
theorem Rel.map (hr : Rel m h w) (b : Nat) (l : ML) (hb : h b = some (.map l)) : ∃ B ents clock, m.box b = some B ∧ w.heap[B]? = some (.map ents clock) ∧ MRel l ents.toList := hr.obj b _ hb
theorem Rel.asMS (hr : Rel m h w) (b : Nat) (l : MS) (hb : (h b).bind Obj.asMS = some l) : ∃ B ents clock, m.box b = some B ∧ w.heap[B]? = some (.map ents clock) ∧ SRel m.K l ents.toList := by
  cases ho : h b with
  | none => rw [ho] at hb; cases hb
  | some o =>
    rw [ho] at hb
    have := hr.obj b o ho
    cases o with
    | maps l' => cases hb; exact this
    | map l' =>
      cases l' with
      | nil =>
        cases hb
        obtain ⟨B, es, c, h1, h2, h3⟩ := this
        refine ⟨B, es, c, h1, h2, ?_⟩
        cases hl : es.toList with
        | nil => trivial
        | cons _ _ => rw [hl] at h3; exact h3.elim
      | cons _ _ => cases hb
    | box _ => cases hb
    | own _ _ => cases hb
    | arr _ _ => cases hb
    | dead => cases hb
theorem not_dead {o : Obj} (h : o.isDead = false) : some o ≠ some Obj.dead := by
  intro e; cases e; cases h
theorem Rel.lt_K (hr : Rel m h w) {B : Nat} {ks : List Value} (hb : m.K B = some ks) : B < w.heap.size := by
  obtain ⟨vs, ty, _, h2, _⟩ := hr.fro B ks hb
  exact (Array.getElem?_eq_some_iff.1 h2).1
theorem Rel.lt_own (hr : Rel m h w) {b B n e t : Nat} (hb : m.own b = some (B, n, e, t)) : B < w.heap.size := by
  obtain ⟨n', e', ho⟩ := hr.odom b _ hb
  rcases hr.own b n' e' ho with ⟨_, h1⟩ | ⟨_, B', t', h1, ks, h2, _⟩
  · rw [hb] at h1; cases h1
  · rw [hb] at h1; cases h1
    exact hr.lt_K h2
theorem Rel.lt_img (hr : Rel m h w) {B : Nat} (hb : m.img B) : B < w.heap.size := by
  rcases hb with ⟨b, hb⟩ | ⟨b, n, e, t, hb⟩
  · exact hr.lt_box hb
  · exact hr.lt_own hb
theorem Rel.free_box (hr : Rel m h w) {b : Nat} (hb : h b = none) : m.box b = none := by
  cases hm : m.box b with
  | none => rfl
  | some B => obtain ⟨cs, hc, _⟩ := hr.bdom b B hm; rw [hb] at hc; cases hc
theorem Rel.free_own (hr : Rel m h w) {b : Nat} (hb : h b = none) : m.own b = none := by
  cases hm : m.own b with
  | none => rfl
  | some B => obtain ⟨n, e, hc⟩ := hr.odom b B hm; rw [hb] at hc; cases hc
theorem Rel.foreign (hr : Rel m h w) (o : Go.Obj) (hfro : ∀ a, (w.alloc o).frozen? a = w.frozen? a) : Ext m w m (w.alloc o) ∧ Rel m h (w.alloc o) := by
  have hold : ∀ B, B < w.heap.size → (w.alloc o).heap[B]? = w.heap[B]? := fun B hB => Go.heap_alloc_old w o B hB
  refine ⟨⟨J.le.refl m, by simp, fun b _ h => .inl ⟨b, h⟩, fun b B n e t h => .inl ⟨b, n, e, t, h⟩, fun _ _ h => .inr (.inl h), fun B hB _ => hold B hB, rfl, rfl, fun a _ => hfro a, rfl⟩, ⟨?_, ?_, ?_, ?_, hr.bdom, hr.odom, hr.bapart, hr.oapart, hr.bK, fun b B hb => by have := hr.blt b B hb; simp; omega⟩⟩
  · intro b o hb
    exact (hr.obj b o hb).keep (J.le.refl m) fun _ B hB => hold B (hr.blt b B hB)
  · intro B o ho
    obtain ⟨h1, h2⟩ := hr.env B o ho
    exact ⟨(hold B (Array.getElem?_eq_some_iff.1 h1).1).trans h1, h2⟩
  · intro b n e hb
    rcases hr.own b n e hb with h1 | ⟨h0, B, t, h1, ks, h2, h3, vs, ty, h4, h5⟩
    · exact .inl h1
    · exact .inr ⟨h0, B, t, h1, ks, h2, h3, vs, ty, by rw [hold B (hr.lt_own h1)]; exact h4, h5⟩
  · intro B ks hk
    obtain ⟨vs, ty, fz, h2, h3⟩ := hr.fro B ks hk
    exact ⟨vs, ty, fz, by rw [hold B (hr.lt_K hk)]; exact h2, h3⟩
theorem Rel.newK (hr : Rel m h w) (vs : Array Value) (ty : TypeId) (ks : List Value) (hp : ks <+: vs.toList) :
    ∃ m', Ext m w m' (w.alloc (.cells vs ty)) ∧ Rel m' h (w.alloc (.cells vs ty)) ∧ m'.K w.heap.size = some ks ∧ m'.box = m.box ∧ m'.own = m.own := by
  have hnew : m.K w.heap.size = none := by
    cases hk : m.K w.heap.size with
    | none => rfl
    | some ks => have := hr.lt_K hk; omega
  obtain ⟨e1, r1⟩ := hr.foreign (.cells vs ty) (Go.Ab.frozen_alloc w _ (fun c t fr e => by cases e; rfl))
  let m' : J := { m with K := fun B => if B = w.heap.size then some ks else m.K B }
  have hK : ∀ B k, m.K B = some k → m'.K B = some k := fun B k hk => by
    show (if _ then _ else _) = _
    rw [if_neg (by have := hr.lt_K hk; omega)]; exact hk
  have hKK : Kle m.K m'.K := fun B k hk => ⟨k, hK B k hk, List.prefix_refl _⟩
  have hle : m.le m' := ⟨fun _ _ h => h, hKK, fun b B n e t h => ⟨B, n, t, h, Nat.le_refl _, fun _ => ⟨rfl, rfl⟩⟩, fun _ _ _ => rfl⟩
  refine ⟨m', ⟨hle, e1.size, e1.bimg, e1.oimg, fun B k hk => ?_, e1.same, e1.os, e1.output, e1.frozen, e1.env⟩, ⟨fun b o hb => (r1.obj b o hb).keep hle fun _ _ _ => rfl, r1.env, fun b n e hb => ?_, fun B k hk => ?_, r1.bdom, r1.odom, r1.bapart, r1.oapart, fun b B hb hd => ?_, r1.blt⟩, ?_, rfl, rfl⟩
  · have hk' : (if B = w.heap.size then some ks else m.K B) = some k := hk
    by_cases c : B = w.heap.size
    · exact .inr (.inr (by omega))
    · rw [if_neg c] at hk'; exact .inr (.inl hk')
  · rcases r1.own b n e hb with h1 | ⟨h0, B, t, h1, ks', h2, h3⟩
    · exact .inl h1
    · exact .inr ⟨h0, B, t, h1, ks', hK B ks' h2, h3⟩
  · have hk' : (if B = w.heap.size then some ks else m.K B) = some k := hk
    by_cases c : B = w.heap.size
    · rw [if_pos c] at hk'; cases hk'
      subst c
      exact ⟨vs, ty, _, Go.heap_alloc_new w _, hp⟩
    · rw [if_neg c] at hk'; exact r1.fro B k hk'
  · show (if _ then _ else _) = _
    rw [if_neg (by have := hr.lt_box hb; omega)]
    exact hr.bK b B hb hd
  · show (if _ then _ else _) = _
    rw [if_pos rfl]
theorem Rel.newObj (hr : Rel m h w) {b : Nat} (hb : h b = none) (go : Go.Obj) (hfro : ∀ a, (w.alloc go).frozen? a = w.frozen? a) (ob : Obj) (hno : ob.isOwn = false) (e t : Nat)
    (hob : ∀ m' : J, m.le m' → m'.box b = some w.heap.size → m'.siz b = (e, t) → (w.alloc go).heap[w.heap.size]? = some go → ORel m' (w.alloc go) b ob) :
    ∃ m', Ext m w m' (w.alloc go) ∧ Rel m' (fun x => bif Nat.beq x b then some ob else h x) (w.alloc go) ∧ m'.box b = some w.heap.size ∧ m'.siz b = (e, t) := by
  obtain ⟨e1, r1⟩ := hr.foreign go hfro
  let m' : J := { m with box := fun x => if x = b then some w.heap.size else m.box x, siz := fun x => if x = b then (e, t) else m.siz x }
  have hbox : ∀ x B, m.box x = some B → m'.box x = some B := fun x B hx => by
    show (if _ then _ else _) = _
    rw [if_neg (by rintro rfl; rw [hr.free_box hb] at hx; cases hx)]; exact hx
  have hle : m.le m' := ⟨hbox, Kle.refl _, fun b B n e t h => ⟨B, n, t, h, Nat.le_refl _, fun _ => ⟨rfl, rfl⟩⟩, fun x B hx => by
    show (if _ then _ else _) = _
    rw [if_neg (by rintro rfl; rw [hr.free_box hb] at hx; cases hx)]⟩
  have hcase : ∀ x B, m'.box x = some B → (x = b ∧ B = w.heap.size) ∨ (x ≠ b ∧ m.box x = some B) := by
    intro x B hx
    have hx' : (if x = b then some w.heap.size else m.box x) = some B := hx
    by_cases c : x = b
    · rw [if_pos c] at hx'; cases hx'; exact .inl ⟨c, rfl⟩
    · rw [if_neg c] at hx'; exact .inr ⟨c, hx'⟩
  have hb1 : m'.box b = some w.heap.size := by show (if _ then _ else _) = _; rw [if_pos rfl]
  have hb2 : m'.siz b = (e, t) := by show (if _ then _ else _) = _; rw [if_pos rfl]
  have hh : ∀ x, (bif Nat.beq x b then some ob else h x) = if x = b then some ob else h x := fun x => by
    by_cases c : x = b
    · rw [(Nat.beq_eq ..).mpr c, if_pos c]; rfl
    · rw [Go.Ab.beq_ne c, if_neg c]; rfl
  refine ⟨m', ⟨hle, e1.size, fun x B hx => ?_, e1.oimg, e1.knew, e1.same, e1.os, e1.output, e1.frozen, e1.env⟩, Rel.congr (h := fun x => if x = b then some ob else h x) ⟨fun x o hx => ?_, r1.env, fun x n e hx => ?_, fun B k hk => r1.fro B k hk, fun x B hx => ?_, fun x y hx => ?_, fun x x' B hx hx' d1 d2 => ?_, hr.oapart, fun x B hx hd => ?_, fun x B hx => ?_⟩ hh, hb1, hb2⟩
  · rcases hcase x B hx with ⟨_, h1⟩ | ⟨_, h1⟩
    · exact .inr (by omega)
    · exact .inl ⟨x, h1⟩
  · by_cases c : x = b
    · rw [if_pos c] at hx; cases hx; subst c
      exact hob m' hle hb1 hb2 (Go.heap_alloc_new w _)
    · rw [if_neg c] at hx
      exact (r1.obj x o hx).keep hle fun _ _ _ => rfl
  · by_cases c : x = b
    · rw [if_pos c] at hx; cases hx; cases hno
    · rw [if_neg c] at hx; exact r1.own x n e hx
  · rcases hcase x B hx with ⟨c, _⟩ | ⟨c, h1⟩
    · exact ⟨ob, by simp only [if_pos c], hno⟩
    · obtain ⟨ds, hd⟩ := hr.bdom x B h1
      exact ⟨ds, by simp only [if_neg c]; exact hd⟩
  · have hx1 : m.own x = some y := hx
    obtain ⟨n, e, hd⟩ := hr.odom x y hx1
    refine ⟨n, e, ?_⟩
    rw [if_neg (by rintro rfl; rw [hb] at hd; cases hd)]; exact hd
  · rcases hcase x B hx with ⟨c, e⟩ | ⟨c, h1⟩ <;> rcases hcase x' B hx' with ⟨c', e'⟩ | ⟨c', h2⟩
    · rw [c, c']
    · have := hr.lt_box h2; omega
    · have := hr.lt_box h1; omega
    · rw [if_neg c] at d1; rw [if_neg c'] at d2
      exact hr.bapart x x' B h1 h2 d1 d2
  · rcases hcase x B hx with ⟨c, e⟩ | ⟨c, h1⟩
    · show m.K B = none
      cases hk : m.K B with
      | none => rfl
      | some ks => have := hr.lt_K hk; omega
    · rw [if_neg c] at hd
      exact hr.bK x B h1 hd
  · rcases hcase x B hx with ⟨c, e⟩ | ⟨c, h1⟩
    · rw [e]; simp
    · exact r1.blt x B h1
theorem Rel.newBox (hr : Rel m h w) {b : Nat} (hb : h b = none) {cs : List PV} (vs : Array Value) (ty : TypeId) (hc : VRs m cs vs.toList) :
    ∃ m', Ext m w m' (w.alloc (.cells vs ty)) ∧ Rel m' (fun x => bif Nat.beq x b then some (.box cs) else h x) (w.alloc (.cells vs ty)) ∧ m'.box b = some w.heap.size := by
  obtain ⟨m', h1, h2, h3, _⟩ := hr.newObj hb (.cells vs ty) (Go.Ab.frozen_alloc w _ (fun c t fr e => by cases e; rfl)) (.box cs) rfl 0 0 fun m' hle hb1 _ hw => ⟨w.heap.size, vs, ty, hb1, hw, hc.mono hle⟩
  exact ⟨m', h1, h2, h3⟩
theorem Rel.newArr (hr : Rel m h w) {b : Nat} (hb : h b = none) {e : Nat} {cs : List PV} (vs : Array Value) (ty : TypeId) (hc : VRs m cs (vs.toList.take cs.length)) :
    ∃ m', Ext m w m' (w.alloc (.cells vs ty)) ∧ Rel m' (fun x => bif Nat.beq x b then some (.arr e cs) else h x) (w.alloc (.cells vs ty)) ∧ m'.box b = some w.heap.size ∧ m'.siz b = (e, vs.size) :=
  hr.newObj hb (.cells vs ty) (Go.Ab.frozen_alloc w _ (fun c t fr e => by cases e; rfl)) (.arr e cs) rfl e vs.size fun m' hle hb1 hb2 hw => ⟨w.heap.size, vs, ty, hb1, hb2, hw, hc.mono hle⟩
theorem Rel.newMap (hr : Rel m h w) {b : Nat} (hb : h b = none) {l : ML} (ents : Array MapEntry) (clock : Nat) (hc : MRel l ents.toList) :
    ∃ m', Ext m w m' (w.alloc (.map ents clock)) ∧ Rel m' (fun x => bif Nat.beq x b then some (.map l) else h x) (w.alloc (.map ents clock)) ∧ m'.box b = some w.heap.size := by
  obtain ⟨m', h1, h2, h3, _⟩ := hr.newObj hb (.map ents clock) (Go.Ab.frozen_alloc w _ (fun c t fr e => by cases e)) (.map l) rfl 0 0 fun m' hle hb1 _ hw => ⟨w.heap.size, ents, clock, hb1, hw, hc⟩
  exact ⟨m', h1, h2, h3⟩
end
end Go.Vi
namespace Go.Vi
section
variable {m : J} {h : Nat → Option Obj} {w : World}
theorem beq_if {α : Type} (x b : Nat) (p q : α) : (bif Nat.beq x b then p else q) = if x = b then p else q := by
  by_cases c : x = b
  · rw [(Nat.beq_eq ..).mpr c, if_pos c]; rfl
  · rw [Go.Ab.beq_ne c, if_neg c]; rfl
theorem Rel.newOwn0 (hr : Rel m h w) {b : Nat} (hb : h b = none) (e : Nat) : Rel m (fun x => bif Nat.beq x b then some (.own 0 e) else h x) w := by
  have hne : ∀ x B, m.box x = some B → x ≠ b := by rintro x B hx rfl; rw [hr.free_box hb] at hx; cases hx
  refine Rel.congr (h := fun x => if x = b then some (.own 0 e) else h x) ⟨fun x o hx => ?_, hr.env, fun x n e' hx => ?_, hr.fro, fun x B hx => ?_, fun x y hx => ?_, fun x x' B hx hx' d d' => ?_, hr.oapart, fun x B hx d => ?_, hr.blt⟩ (fun x => beq_if ..)
  · by_cases c : x = b
    · rw [if_pos c] at hx; cases hx; trivial
    · rw [if_neg c] at hx; exact hr.obj x o hx
  · by_cases c : x = b
    · rw [if_pos c] at hx; cases hx; subst c; exact .inl ⟨rfl, hr.free_own hb⟩
    · rw [if_neg c] at hx; exact hr.own x n e' hx
  · obtain ⟨cs, hc⟩ := hr.bdom x B hx
    refine ⟨cs, ?_⟩
    rw [if_neg (hne x B hx)]; exact hc
  · obtain ⟨n, e', hc⟩ := hr.odom x y hx
    refine ⟨n, e', ?_⟩
    rw [if_neg (by rintro rfl; rw [hb] at hc; cases hc)]; exact hc
  · rw [if_neg (hne x B hx)] at d; rw [if_neg (hne x' B hx')] at d'
    exact hr.bapart x x' B hx hx' d d'
  · rw [if_neg (hne x B hx)] at d
    exact hr.bK x B hx d
theorem Rel.grow (hr : Rel m h w) {b n e0 : Nat} (hb : h b = some (.own n e0)) {w' : World} {B' n' e t' : Nat} {ks' : List Value} (he : n = 0 ∨ e0 = e) (hn : n < n')
    (hB : w.heap.size ≤ B' ∨ ∃ ks, m.own b = some (B', n, e, t') ∧ m.K B' = some ks ∧ ks <+: ks') {vs : Array Value} {ty : TypeId} (hw' : w'.heap[B']? = some (.cells vs ty (0, 0))) (ht : vs.size = t') (hp : ks' <+: vs.toList) (hl : ks'.length = n' * e)
    (hsame : ∀ B, B ≠ B' → B < w.heap.size → w'.heap[B]? = w.heap[B]?) (hsz : w.heap.size ≤ w'.heap.size) (hos : w'.os = w.os) (hout : w'.output = w.output) (hfro : ∀ a, w'.frozen? a = w.frozen? a) :
    ∃ m', Ext m w m' w' ∧ Rel m' (fun x => bif Nat.beq x b then some (.own n' e) else h x) w' ∧ m'.own b = some (B', n', e, t') ∧ m'.K B' = some ks' ∧ m'.box = m.box := by
  let m' : J := { m with own := fun x => if x = b then some (B', n', e, t') else m.own x, K := fun B => if B = B' then some ks' else m.K B }
  have hK : Kle m.K m'.K := by
    intro B k hk
    show ∃ ks'', (if B = B' then some ks' else m.K B) = some ks'' ∧ _
    by_cases c : B = B'
    · rw [if_pos c]
      refine ⟨ks', rfl, ?_⟩
      rcases hB with hB | ⟨ks, h1, h2, h3⟩
      · have := hr.lt_K hk; omega
      · rw [c, h2] at hk; cases hk; exact h3
    · rw [if_neg c]; exact ⟨k, hk, List.prefix_refl _⟩
  have hcur : ∀ x, m.own b = some x → x.2.1 = n ∧ x.2.2.1 = e := by
    intro x hx
    rcases hr.own b n e0 hb with ⟨_, h1⟩ | ⟨h0, B, t, h1, _⟩
    · rw [hx] at h1; cases h1
    · rw [hx] at h1; cases h1
      exact ⟨rfl, he.resolve_left (by omega)⟩
  have hle : m.le m' := by
    refine ⟨fun _ _ h => h, hK, fun x B k e1 t hx => ?_, fun _ _ _ => rfl⟩
    by_cases c : x = b
    · subst c
      obtain ⟨h1, h2⟩ := hcur _ hx
      simp only at h1 h2
      subst h1 h2
      exact ⟨B', n', t', by show (if _ then _ else _) = _; rw [if_pos rfl], by omega, fun h => by omega⟩
    · exact ⟨B, k, t, by show (if _ then _ else _) = _; rw [if_neg c]; exact hx, Nat.le_refl _, fun _ => ⟨rfl, rfl⟩⟩
  have himg : ∀ B, B < w.heap.size → B = B' → ∃ t, m.own b = some (B, n, e, t) := by
    rintro B hlt rfl
    rcases hB with hB | ⟨ks, h1, _⟩
    · omega
    · exact ⟨t', h1⟩
  have hbox : ∀ x B, m.box x = some B → h x ≠ some .dead → B ≠ B' := by
    rintro x B hx hd rfl
    obtain ⟨t, h1⟩ := himg B (hr.lt_box hx) rfl
    rcases hr.own b n e0 hb with ⟨_, h2⟩ | ⟨_, B2, t2, h2, ks, h3, _⟩
    · rw [h1] at h2; cases h2
    · rw [h1] at h2; cases h2
      rw [hr.bK x _ hx hd] at h3; cases h3
  have hne : ∀ x B, m.box x = some B → x ≠ b := by
    rintro x B hx rfl
    obtain ⟨o, h1, h2⟩ := hr.bdom x B hx
    rw [hb] at h1; cases h1; cases h2
  have henv : ∀ B o, m.env B = some o → B ≠ B' := by
    rintro B o ho rfl
    obtain ⟨h1, h2, _⟩ := hr.env B o ho
    obtain ⟨t, h3⟩ := himg B (Array.getElem?_eq_some_iff.1 h1).1 rfl
    rcases hr.own b n e0 hb with ⟨_, h4⟩ | ⟨_, B2, t2, h4, ks, h5, _, vs, ty, h6, _⟩
    · rw [h3] at h4; cases h4
    · rw [h3] at h4; cases h4
      rw [h1] at h6; cases h6; cases h2
  have hoth : ∀ x B k e1 t, x ≠ b → m.own x = some (B, k, e1, t) → B ≠ B' := by
    rintro x B k e1 t hxb hx rfl
    obtain ⟨t2, h1⟩ := himg B (hr.lt_own hx) rfl
    exact hxb (hr.oapart x b B k e1 t n e t2 hx h1)
  have hocase : ∀ x y, m'.own x = some y → (x = b ∧ y = (B', n', e, t')) ∨ (x ≠ b ∧ m.own x = some y) := by
    intro x y hx
    have hx' : (if x = b then some (B', n', e, t') else m.own x) = some y := hx
    by_cases c : x = b
    · rw [if_pos c] at hx'; cases hx'; exact .inl ⟨c, rfl⟩
    · rw [if_neg c] at hx'; exact .inr ⟨c, hx'⟩
  refine ⟨m', ⟨hle, hsz, fun x B hx => .inl ⟨x, hx⟩, fun x B k e1 t hx => ?_, fun B k hk => ?_, fun B hlt hn => ?_, hos, hout, fun a _ => hfro a, rfl⟩, Rel.congr (h := fun x => if x = b then some (.own n' e) else h x) ⟨fun x o hx => ?_, fun B o ho => ?_, fun x k e1 hx => ?_, fun B k hk => ?_, fun x B hx => ?_, fun x y hx => ?_, fun x x' B hx hx' d d' => ?_, fun x x' B k e1 t k' e1' t1' hx hx' => ?_, fun x B hx hd => ?_, fun x B hx => Nat.lt_of_lt_of_le (hr.blt x B hx) hsz⟩ (fun x => beq_if ..), ?_, ?_, rfl⟩
  · rcases hocase x _ hx with ⟨_, h1⟩ | ⟨_, h1⟩
    · cases h1
      rcases hB with hB | ⟨ks, h2, _⟩
      · exact .inr hB
      · exact .inl ⟨b, _, _, _, h2⟩
    · exact .inl ⟨x, _, _, _, h1⟩
  · have hk' : (if B = B' then some ks' else m.K B) = some k := hk
    by_cases c : B = B'
    · rcases hB with hB | ⟨ks, h2, _⟩
      · exact .inr (.inr (by omega))
      · exact .inl ⟨b, _, _, _, by rw [c]; exact h2⟩
    · rw [if_neg c] at hk'; exact .inr (.inl hk')
  · refine hsame B (fun c => hn (.inr ?_)) hlt
    obtain ⟨t, h1⟩ := himg B hlt c
    exact ⟨b, _, _, _, h1⟩
  · by_cases c : x = b
    · rw [if_pos c] at hx; cases hx; trivial
    · rw [if_neg c] at hx
      exact (hr.obj x o hx).keep hle fun hd B hB => hsame B (hbox x B hB (by rw [hx]; exact not_dead hd)) (hr.lt_box hB)
  · obtain ⟨h1, h2⟩ := hr.env B o ho
    exact ⟨(hsame B (henv B o ho) (Array.getElem?_eq_some_iff.1 h1).1).trans h1, h2⟩
  · by_cases c : x = b
    · rw [if_pos c] at hx; cases hx
      exact .inr ⟨by omega, B', t', by show (if _ then _ else _) = _; rw [if_pos c], ks', by show (if _ then _ else _) = _; rw [if_pos rfl], hl, vs, ty, hw', ht⟩
    · rw [if_neg c] at hx
      rcases hr.own x k e1 hx with ⟨h1, h2⟩ | ⟨h0, B, t, h1, ks, h2, h3, vs', ty', h4, h5⟩
      · exact .inl ⟨h1, by show (if _ then _ else _) = _; rw [if_neg c]; exact h2⟩
      · have hne := hoth x B k e1 t c h1
        exact .inr ⟨h0, B, t, by show (if _ then _ else _) = _; rw [if_neg c]; exact h1, ks, by show (if _ then _ else _) = _; rw [if_neg hne]; exact h2, h3, vs', ty', by rw [hsame B hne (hr.lt_own h1)]; exact h4, h5⟩
  · have hk' : (if B = B' then some ks' else m.K B) = some k := hk
    by_cases c : B = B'
    · rw [if_pos c] at hk'; cases hk'; subst c
      exact ⟨vs, ty, _, hw', hp⟩
    · rw [if_neg c] at hk'
      obtain ⟨vs', ty', fz, h2, h3⟩ := hr.fro B k hk'
      exact ⟨vs', ty', fz, by rw [hsame B c (hr.lt_K hk')]; exact h2, h3⟩
  · obtain ⟨cs, hc⟩ := hr.bdom x B hx
    refine ⟨cs, ?_⟩
    rw [if_neg (hne x B hx)]; exact hc
  · rcases hocase x y hx with ⟨c, _⟩ | ⟨c, h1⟩
    · exact ⟨n', e, by rw [if_pos c]⟩
    · obtain ⟨k, e1, hc⟩ := hr.odom x y h1
      exact ⟨k, e1, by rw [if_neg c]; exact hc⟩
  · rw [if_neg (hne x B hx)] at d; rw [if_neg (hne x' B hx')] at d'
    exact hr.bapart x x' B hx hx' d d'
  · rcases hocase x _ hx with ⟨c, h1⟩ | ⟨c, h1⟩ <;> rcases hocase x' _ hx' with ⟨c', h2⟩ | ⟨c', h2⟩
    · rw [c, c']
    · cases h1; exact absurd rfl (hoth x' _ _ _ _ c' h2)
    · cases h2; exact absurd rfl (hoth x _ _ _ _ c h1)
    · exact hr.oapart x x' B _ _ _ _ _ _ h1 h2
  · show (if _ then _ else _) = _
    rw [if_neg (hne x B hx)] at hd
    rw [if_neg (hbox x B hx hd)]; exact hr.bK x B hx hd
  · show (if _ then _ else _) = _
    rw [if_pos rfl]
  · show (if _ then _ else _) = _
    rw [if_pos rfl]
theorem Rel.turnObj (hr : Rel m h w) {b : Nat} {o0 : Obj} (hb : h b = some o0) (hlive : o0.isDead = false) {B : Nat} (hB : m.box b = some B) (hcells : ∃ o, w.heap[B]? = some o ∧ (cellsB o = true ∨ ∃ l c, o = .map l c)) {w' : World} {ob : Obj} (hno : ob.isOwn = false)
    (hob : ORel m w' b ob) (hsame : ∀ k, k ≠ B → w'.heap[k]? = w.heap[k]?) (hsz : w'.heap.size = w.heap.size) (hos : w'.os = w.os) (hout : w'.output = w.output) (hfro : ∀ a, w'.frozen? a = w.frozen? a) :
    Ext m w m w' ∧ Rel m (fun x => bif Nat.beq x b then some ob else h x) w' := by
  have hd0 : h b ≠ some .dead := by rw [hb]; exact not_dead hlive
  have hK : ∀ B' ks, m.K B' = some ks → B' ≠ B := by
    rintro B' ks hk rfl; rw [hr.bK b _ hB hd0] at hk; cases hk
  have hO : ∀ x B' n e t, m.own x = some (B', n, e, t) → B' ≠ B := by
    intro x B' n e t hx
    obtain ⟨n', e', ho⟩ := hr.odom x _ hx
    rcases hr.own x n' e' ho with ⟨_, h1⟩ | ⟨_, B2, t2, h1, ks, h2, _⟩
    · rw [hx] at h1; cases h1
    · rw [hx] at h1; cases h1; exact hK _ ks h2
  have hE : ∀ B' o, m.env B' = some o → B' ≠ B := by
    rintro B' o ho rfl
    obtain ⟨h1, h2, h3⟩ := hr.env B' o ho
    obtain ⟨o', h4, h5⟩ := hcells
    rw [h1] at h4; cases h4
    rcases h5 with h5 | ⟨l, c, h5⟩
    · rw [h2] at h5; cases h5
    · exact h3 l c h5
  refine ⟨⟨J.le.refl m, by rw [hsz]; exact Nat.le_refl _, fun b _ h => .inl ⟨b, h⟩, fun b B n e t h => .inl ⟨b, n, e, t, h⟩, fun _ _ h => .inr (.inl h), fun B' _ hn => hsame B' (fun c => hn (.inl ⟨b, by rw [c]; exact hB⟩)), hos, hout, fun a _ => hfro a, rfl⟩,
    Rel.congr (h := fun x => if x = b then some ob else h x) ⟨fun x o hx => ?_, fun B' o ho => ?_, fun x n e hx => ?_, fun B' ks hk => ?_, fun x B' hx => ?_, fun x y hx => ?_, fun x x' B hx hx' d d' => ?_, hr.oapart, fun x B' hx d => ?_, fun x B hx => by rw [hsz]; exact hr.blt x B hx⟩ (fun x => beq_if ..)⟩
  · by_cases c : x = b
    · rw [if_pos c] at hx; cases hx; subst c; exact hob
    · rw [if_neg c] at hx
      exact (hr.obj x o hx).keep (J.le.refl m) fun hd B' h1 => hsame B' (fun e => c (hr.bapart x b B' h1 (by rw [e]; exact hB) (by rw [hx]; exact not_dead hd) hd0))
  · obtain ⟨h1, h2⟩ := hr.env B' o ho
    exact ⟨(hsame B' (hE B' o ho)).trans h1, h2⟩
  · by_cases c : x = b
    · rw [if_pos c] at hx; cases hx; cases hno
    · rw [if_neg c] at hx
      rcases hr.own x n e hx with h1 | ⟨h0, B', t, h1, ks, h2, h3, vs', ty', h4, h5⟩
      · exact .inl h1
      · exact .inr ⟨h0, B', t, h1, ks, h2, h3, vs', ty', by rw [hsame B' (hO x B' n e t h1)]; exact h4, h5⟩
  · obtain ⟨vs', ty', fz, h2, h3⟩ := hr.fro B' ks hk
    exact ⟨vs', ty', fz, by rw [hsame B' (hK B' ks hk)]; exact h2, h3⟩
  · by_cases c : x = b
    · exact ⟨ob, by rw [if_pos c], hno⟩
    · obtain ⟨ds, hd⟩ := hr.bdom x B' hx
      exact ⟨ds, by rw [if_neg c]; exact hd⟩
  · obtain ⟨n, e, hd⟩ := hr.odom x y hx
    refine ⟨n, e, ?_⟩
    rw [if_neg (by
      rintro rfl
      obtain ⟨o, h1, h2⟩ := hr.bdom x B hB
      rw [hd] at h1; cases h1; cases h2)]; exact hd
  · have key : ∀ x B, m.box x = some B → (if x = b then some ob else h x) ≠ some .dead → h x ≠ some .dead := fun x B hx d => by
      by_cases c : x = b
      · rw [c]; exact hd0
      · rwa [if_neg c] at d
    exact hr.bapart x x' B hx hx' (key x B hx d) (key x' B hx' d')
  · by_cases c : x = b
    · subst c; exact hr.bK x B' hx hd0
    · rw [if_neg c] at d; exact hr.bK x B' hx d
theorem Rel.turnBox (hr : Rel m h w) {b : Nat} {cs0 : List PV} (hb : h b = some (.box cs0)) {B : Nat} (hB : m.box b = some B) {w' : World} {cs : List PV} {vs : Array Value} {ty : TypeId}
    (hw' : w'.heap[B]? = some (.cells vs ty (0, 0))) (hc : VRs m cs vs.toList) (hsame : ∀ k, k ≠ B → w'.heap[k]? = w.heap[k]?) (hsz : w'.heap.size = w.heap.size) (hos : w'.os = w.os) (hout : w'.output = w.output) (hfro : ∀ a, w'.frozen? a = w.frozen? a) :
    Ext m w m w' ∧ Rel m (fun x => bif Nat.beq x b then some (.box cs) else h x) w' := by
  obtain ⟨B0, vs0, ty0, h1, h2, _⟩ := hr.box b cs0 hb
  rw [hB] at h1; cases h1
  exact hr.turnObj hb rfl hB ⟨_, h2, .inl rfl⟩ rfl ⟨B, vs, ty, hB, hw', hc⟩ hsame hsz hos hout hfro
theorem Rel.turnArr (hr : Rel m h w) {b e : Nat} {cs0 : List PV} (hb : h b = some (.arr e cs0)) {B : Nat} (hB : m.box b = some B) {w' : World} {cs : List PV} {vs : Array Value} {ty : TypeId} (hs : m.siz b = (e, vs.size))
    (hw' : w'.heap[B]? = some (.cells vs ty (0, 0))) (hc : VRs m cs (vs.toList.take cs.length)) (hsame : ∀ k, k ≠ B → w'.heap[k]? = w.heap[k]?) (hsz : w'.heap.size = w.heap.size) (hos : w'.os = w.os) (hout : w'.output = w.output) (hfro : ∀ a, w'.frozen? a = w.frozen? a) :
    Ext m w m w' ∧ Rel m (fun x => bif Nat.beq x b then some (.arr e cs) else h x) w' := by
  obtain ⟨B0, vs0, ty0, h1, _, h2, _⟩ := hr.arr b e cs0 hb
  rw [hB] at h1; cases h1
  exact hr.turnObj hb rfl hB ⟨_, h2, .inl rfl⟩ rfl ⟨B, vs, ty, hB, hs, hw', hc⟩ hsame hsz hos hout hfro
theorem Rel.turnMap (hr : Rel m h w) {b : Nat} {l0 : ML} (hb : h b = some (.map l0)) {B : Nat} (hB : m.box b = some B) {w' : World} {l : ML} {ents : Array MapEntry} {clock : Nat}
    (hw' : w'.heap[B]? = some (.map ents clock)) (hc : MRel l ents.toList) (hsame : ∀ k, k ≠ B → w'.heap[k]? = w.heap[k]?) (hsz : w'.heap.size = w.heap.size) (hos : w'.os = w.os) (hout : w'.output = w.output) (hfro : ∀ a, w'.frozen? a = w.frozen? a) :
    Ext m w m w' ∧ Rel m (fun x => bif Nat.beq x b then some (.map l) else h x) w' := by
  obtain ⟨B0, es, c, h1, h2, _⟩ := hr.map b l0 hb
  rw [hB] at h1; cases h1
  exact hr.turnObj hb rfl hB ⟨_, h2, .inr ⟨_, _, rfl⟩⟩ rfl ⟨B, ents, clock, hB, hw', hc⟩ hsame hsz hos hout hfro
theorem Rel.turnMaps (hr : Rel m h w) {b : Nat} {l0 : MS} (hb : (h b).bind Obj.asMS = some l0) {B : Nat} (hB : m.box b = some B) {w' : World} {l : MS} {ents : Array MapEntry} {clock : Nat}
    (hw' : w'.heap[B]? = some (.map ents clock)) (hc : SRel m.K l ents.toList) (hsame : ∀ k, k ≠ B → w'.heap[k]? = w.heap[k]?) (hsz : w'.heap.size = w.heap.size) (hos : w'.os = w.os) (hout : w'.output = w.output) (hfro : ∀ a, w'.frozen? a = w.frozen? a) :
    Ext m w m w' ∧ Rel m (fun x => bif Nat.beq x b then some (.maps l) else h x) w' := by
  obtain ⟨B0, es, c, h1, h2, _⟩ := hr.asMS b l0 hb
  rw [hB] at h1; cases h1
  cases ho : h b with
  | none => rw [ho] at hb; cases hb
  | some o =>
    have hd : o.isDead = false := by
      rw [ho] at hb
      cases o <;> first | rfl | cases hb
    exact hr.turnObj ho hd hB ⟨_, h2, .inr ⟨_, _, rfl⟩⟩ rfl ⟨B, ents, clock, hB, hw', hc⟩ hsame hsz hos hout hfro
theorem Rel.kill (hr : Rel m h w) {b : Nat} {o : Obj} (hb : h b = some o) (ho : o.isOwn = false) : Rel m (fun x => bif Nat.beq x b then some .dead else h x) w := by
  have key : ∀ x, (if x = b then some Obj.dead else h x) ≠ some .dead → x ≠ b ∧ h x ≠ some .dead := fun x d => by
    by_cases c : x = b
    · rw [if_pos c] at d; exact absurd rfl d
    · rw [if_neg c] at d; exact ⟨c, d⟩
  refine Rel.congr (h := fun x => if x = b then some .dead else h x) ⟨fun x o' hx => ?_, hr.env, fun x n e hx => ?_, hr.fro, fun x B' hx => ?_, fun x y hx => ?_, fun x x' B hx hx' d d' => hr.bapart x x' B hx hx' (key x d).2 (key x' d').2, hr.oapart, fun x B' hx d => hr.bK x B' hx (key x d).2, hr.blt⟩ (fun x => beq_if ..)
  · by_cases c : x = b
    · rw [if_pos c] at hx; cases hx; trivial
    · rw [if_neg c] at hx; exact hr.obj x o' hx
  · by_cases c : x = b
    · rw [if_pos c] at hx; cases hx
    · rw [if_neg c] at hx; exact hr.own x n e hx
  · by_cases c : x = b
    · exact ⟨.dead, by rw [if_pos c], rfl⟩
    · obtain ⟨ds, hd⟩ := hr.bdom x B' hx
      exact ⟨ds, by rw [if_neg c]; exact hd⟩
  · obtain ⟨n, e, hd⟩ := hr.odom x y hx
    refine ⟨n, e, ?_⟩
    rw [if_neg (by rintro rfl; rw [hb] at hd; cases hd; cases ho)]; exact hd
theorem Rel.lay (hr : Rel m h w) {b : Nat} (hb : h b = none) {B e t : Nat} {ob : Obj} (hno : ob.isOwn = false) (hlt : B < w.heap.size) (hfree : ∀ x, m.box x = some B → h x = some .dead) (hK : m.K B = none)
    (hob : ∀ m' : J, m.le m' → m'.box b = some B → m'.siz b = (e, t) → ORel m' w b ob) :
    ∃ m', m.le m' ∧ Rel m' (fun x => bif Nat.beq x b then some ob else h x) w ∧ m'.box b = some B ∧ m'.siz b = (e, t) ∧ m'.K = m.K ∧ m'.own = m.own ∧ m'.env = m.env ∧ ∀ x B', m'.box x = some B' → m.box x = some B' ∨ B' = B := by
  let m' : J := { m with box := fun x => if x = b then some B else m.box x, siz := fun x => if x = b then (e, t) else m.siz x }
  have hbox : ∀ x B, m.box x = some B → m'.box x = some B := fun x B hx => by
    show (if _ then _ else _) = _
    rw [if_neg (by rintro rfl; rw [hr.free_box hb] at hx; cases hx)]; exact hx
  have hle : m.le m' := ⟨hbox, Kle.refl _, fun b B n e t h => ⟨B, n, t, h, Nat.le_refl _, fun _ => ⟨rfl, rfl⟩⟩, fun x B hx => by
    show (if _ then _ else _) = _
    rw [if_neg (by rintro rfl; rw [hr.free_box hb] at hx; cases hx)]⟩
  have hcase : ∀ x B', m'.box x = some B' → (x = b ∧ B' = B) ∨ (x ≠ b ∧ m.box x = some B') := by
    intro x B' hx
    have hx' : (if x = b then some B else m.box x) = some B' := hx
    by_cases c : x = b
    · rw [if_pos c] at hx'; cases hx'; exact .inl ⟨c, rfl⟩
    · rw [if_neg c] at hx'; exact .inr ⟨c, hx'⟩
  have hb1 : m'.box b = some B := by show (if _ then _ else _) = _; rw [if_pos rfl]
  have hb2 : m'.siz b = (e, t) := by show (if _ then _ else _) = _; rw [if_pos rfl]
  refine ⟨m', hle, Rel.congr (h := fun x => if x = b then some ob else h x) ⟨fun x o hx => ?_, hr.env, fun x n e hx => ?_, hr.fro, fun x B' hx => ?_, fun x y hx => ?_, fun x x' B' hx hx' d1 d2 => ?_, hr.oapart, fun x B' hx hd => ?_, fun x B' hx => ?_⟩ (fun x => beq_if ..), hb1, hb2, rfl, rfl, rfl, fun x B' hx => ?_⟩
  · by_cases c : x = b
    · rw [if_pos c] at hx; cases hx; subst c
      exact hob m' hle hb1 hb2
    · rw [if_neg c] at hx
      exact (hr.obj x o hx).keep hle fun _ _ _ => rfl
  · by_cases c : x = b
    · rw [if_pos c] at hx; cases hx; cases hno
    · rw [if_neg c] at hx; exact hr.own x n e hx
  · rcases hcase x B' hx with ⟨c, _⟩ | ⟨c, h1⟩
    · exact ⟨ob, by simp only [if_pos c], hno⟩
    · obtain ⟨ds, hd⟩ := hr.bdom x B' h1
      exact ⟨ds, by simp only [if_neg c]; exact hd⟩
  · have hx1 : m.own x = some y := hx
    obtain ⟨n, e, hd⟩ := hr.odom x y hx1
    refine ⟨n, e, ?_⟩
    rw [if_neg (by rintro rfl; rw [hb] at hd; cases hd)]; exact hd
  · rcases hcase x B' hx with ⟨c, e⟩ | ⟨c, h1⟩ <;> rcases hcase x' B' hx' with ⟨c', e'⟩ | ⟨c', h2⟩
    · rw [c, c']
    · rw [if_neg c'] at d2; rw [e] at h2; exact absurd (hfree x' h2) d2
    · rw [if_neg c] at d1; rw [e'] at h1; exact absurd (hfree x h1) d1
    · rw [if_neg c] at d1; rw [if_neg c'] at d2
      exact hr.bapart x x' B' h1 h2 d1 d2
  · rcases hcase x B' hx with ⟨c, e⟩ | ⟨c, h1⟩
    · rw [e]; exact hK
    · rw [if_neg c] at hd
      exact hr.bK x B' h1 hd
  · rcases hcase x B' hx with ⟨c, e⟩ | ⟨c, h1⟩
    · rw [e]; exact hlt
    · exact hr.blt x B' h1
  · rcases hcase x B' hx with ⟨_, h1⟩ | ⟨_, h1⟩
    · exact .inr h1
    · exact .inl h1
theorem Rel.own0 (hr : Rel m h w) {b e0 : Nat} (hb : h b = some (.own 0 e0)) (e : Nat) : Rel m (fun x => bif Nat.beq x b then some (.own 0 e) else h x) w := by
  have h0 : m.own b = none := by
    rcases hr.own b 0 e0 hb with ⟨_, h1⟩ | ⟨h0, _⟩
    · exact h1
    · omega
  have hne : ∀ x B, m.box x = some B → x ≠ b := by
    rintro x B hx rfl
    obtain ⟨o, h1, h2⟩ := hr.bdom x B hx
    rw [hb] at h1; cases h1; cases h2
  refine Rel.congr (h := fun x => if x = b then some (.own 0 e) else h x) ⟨fun x o hx => ?_, hr.env, fun x n e' hx => ?_, hr.fro, fun x B hx => ?_, fun x y hx => ?_, fun x x' B hx hx' d d' => ?_, hr.oapart, fun x B hx d => ?_, hr.blt⟩ (fun x => beq_if ..)
  · by_cases c : x = b
    · rw [if_pos c] at hx; cases hx; trivial
    · rw [if_neg c] at hx; exact hr.obj x o hx
  · by_cases c : x = b
    · rw [if_pos c] at hx; cases hx; subst c; exact .inl ⟨rfl, h0⟩
    · rw [if_neg c] at hx; exact hr.own x n e' hx
  · obtain ⟨cs, hc⟩ := hr.bdom x B hx
    refine ⟨cs, ?_⟩
    rw [if_neg (hne x B hx)]; exact hc
  · obtain ⟨n, e', hc⟩ := hr.odom x y hx
    refine ⟨n, e', ?_⟩
    rw [if_neg (by rintro rfl; rw [h0] at hx; cases hx)]; exact hc
  · rw [if_neg (hne x B hx)] at d; rw [if_neg (hne x' B hx')] at d'
    exact hr.bapart x x' B hx hx' d d'
  · rw [if_neg (hne x B hx)] at d
    exact hr.bK x B hx d
end
end Go.Vi
namespace Go.Vi
open Go.Ab (szOf bytesOf isAggO sliceElem fieldO szOf_some bytesOf_some run_sizeOf' sliceElem_some fieldO_some run_isAgg' foldl_set splice_get splice_length setRow_facts bounds_sim)
section
variable {P : Program} {m : J} {h : Nat → Option Obj} {w : World}
theorem fro_cell (hr : Rel m h w) {B j : Nat} {ks : List Value} {v : Value} (hk : m.K B = some ks) (hv : ks[j]? = some v) : w.cell? ⟨B, j, none⟩ = some v := by
  obtain ⟨vs, ty, fz, h1, r, h2⟩ := hr.fro B ks hk
  rw [cell_of_row w B j vs ty fz h1, ← Array.getElem?_toList, ← h2, List.getElem?_append_left (List.getElem?_eq_some_iff.1 hv).1]
  exact hv
theorem cst_fn {f : FuncId} {b c : Array Value} {a : PV} (h : (bif Nat.beq b.size 0 && Nat.beq c.size 0 then some (PV.fn f []) else none) = some a) : VR m a (.func (.func f) b c) := by
  cases h1 : Nat.beq b.size 0 with
  | false => rw [h1] at h; cases h
  | true =>
    cases h2 : Nat.beq c.size 0 with
    | false => rw [h1, h2] at h; cases h
    | true =>
      rw [h1, h2] at h
      cases h
      rw [Array.eq_empty_of_size_eq_zero (Nat.eq_of_beq_eq_true h1), Array.eq_empty_of_size_eq_zero (Nat.eq_of_beq_eq_true h2)]
      exact .fn f [] [] .nil
theorem cst1_rel {v : Value} {a : PV} (h : cst1 v = some a) : VR m a v := by
  unfold cst1 at h
  split at h <;> first | (cases h; done) | skip
  all_goals first | exact cst_fn h | (simp at h; subst h)
  · exact .data _ _ (.bool _)
  · exact .data _ _ (.int _ _)
  · exact .data _ _ (.str _)
  · exact .nil
  · exact .nptr
  · exact .nmap
  · exact .nfn
  · exact .niface
theorem csts_rel : ∀ {l : List Value} {k : List PV}, csts l = some k → VRs m k l
  | [], k, h => by simp [csts] at h; subst h; exact .nil
  | v :: r, k, h => by
    simp only [csts] at h
    cases h1 : cst1 v with
    | none => simp [h1] at h
    | some a =>
      cases h2 : csts r with
      | none => simp [h1, h2] at h
      | some l => simp [h1, h2] at h; subst h; exact .cons _ _ _ _ (cst1_rel h1) (csts_rel h2)
theorem cst_rel {v : Value} {a : PV} (h : cst v = some a) : VR m a v := by
  unfold cst at h
  split at h
  · rename_i cs
    cases h2 : csts cs.toList with
    | none => simp [h2] at h
    | some l => simp [h2] at h; subst h; exact .agg _ cs.toList (csts_rel h2)
  · rename_i cs
    cases h2 : csts cs.toList with
    | none => simp [h2] at h
    | some l => simp [h2] at h; subst h; exact .tuple _ cs.toList (csts_rel h2)
  · exact cst1_rel h
theorem cst_fn_gone {f : FuncId} {x : Bool} (h : (bif x then some (PV.fn f []) else none) = some PV.gone) : False := by cases x <;> cases h
theorem cst_gone {v : Value} : cst v ≠ some .gone := by
  intro h
  unfold cst at h
  split at h
  · split at h <;> simp at h
  · split at h <;> simp at h
  · unfold cst1 at h
    split at h <;> first | (simp at h; done) | skip
    exact cst_fn_gone h
theorem zeroP_some {t : TypeId} {z : PV} (h : zeroP P t = some z) : ∃ i v, P.info? t = some i ∧ i.zero = some v ∧ cst v = some z := by
  unfold zeroP at h
  cases hi : P.info? t with
  | none => simp [hi] at h
  | some i =>
    cases hz : i.zero with
    | none => simp [hi, hz] at h
    | some v => simp [hi, hz] at h; exact ⟨i, v, rfl, hz, h⟩
theorem run_zero {t : TypeId} {z : PV} (h : zeroP P t = some z) (w : World) : ∃ v, (zeroValue t).run P w = .ok v w ∧ (∀ m, VR m z v) ∧ z ≠ .gone := by
  obtain ⟨i, v, hi, hz, hc⟩ := zeroP_some h
  exact ⟨v, by simp [zeroValue, typeInfo, hi, hz], fun m => cst_rel hc, fun e => by rw [e] at hc; exact cst_gone hc⟩
theorem natOf_some {a : PV} {n : Nat} (h : natOf a = some n) {v : Value} (hv : VR m a v) : ∃ k, v = .int k (n : Int) := by
  unfold natOf at h
  split at h
  · rename_i k i
    split at h
    · simp at h; subst h
      cases hv with
      | data _ _ hd => cases hd; exact ⟨k, by rw [Int.toNat_of_nonneg ‹_›]⟩
    · cases h
  · cases h
theorem cut_sim {t : TypeId} {cs : List PV} {o : Nat} {x : PV} (hx : cutP P t cs o = some x) {vs : List Value} (hc : VRs m cs vs) {B base : Nat}
    (hcell : ∀ j v, vs[j]? = some v → w.cell? ⟨B, base + j, none⟩ = some v) : ∃ v', (Instr.loadAt t (.pointer (some ⟨B, base + o, none⟩))).run P w = .ok v' w ∧ VR m x v' := by
  unfold cutP at hx
  split at hx
  · rename_i hag
    split at hx
    · rename_i n hs
      split at hx
      · rename_i hle
        simp at hx; subst hx
        have hl := hc.length
        have hlen : ((vs.drop o).take n).length = n := by simp; omega
        refine ⟨.agg ((vs.drop o).take n).toArray, ?_, .agg _ _ ((hc.drop o).take n)⟩
        have := run_loadCells_list (P := P) w ⟨B, base + o, none⟩ ((vs.drop o).take n) (fun j v hv => by
          rw [Addr.add_lit, Nat.add_assoc]
          apply hcell
          rw [List.getElem?_take] at hv
          split at hv
          · rw [List.getElem?_drop] at hv; exact hv
          · cases hv)
        rw [hlen] at this
        simp [Instr.loadAt, Instr.sureAddr, loadVar, run_isAgg' hag, run_sizeOf' hs, this]
      · cases hx
    · cases hx
  · rename_i hag
    obtain ⟨v, hv, hvr⟩ := hc.get hx
    exact ⟨v, by simp [Instr.loadAt, Instr.sureAddr, loadVar, run_isAgg' hag, hcell o v hv], hvr⟩
  · cases hx
theorem part_sim {t : TypeId} {l : List PV} {cs : Array Value} {off : Nat} {y : PV} (h : cutP P t l off = some y) (hl : VRs m l cs.toList) (w : World) :
    ∃ v, (part t cs off).run P w = .ok v w ∧ VR m y v := by
  unfold cutP at h
  split at h
  · rename_i hag
    split at h
    · rename_i n hs
      split at h
      · simp at h; subst h
        refine ⟨.agg (cs.extract off (off + n)), by simp [part, run_isAgg' hag, run_sizeOf' hs], ?_⟩
        have := VR.agg (m := m) _ _ ((hl.drop off).take n)
        have e : (List.take n (List.drop off cs.toList)).toArray = cs.extract off (off + n) := by
          apply Array.ext'
          simp [Array.toList_extract, List.extract_eq_take_drop]
        rw [e] at this; exact this
      · cases h
    · cases h
  · rename_i hag
    obtain ⟨v, hv, hvr⟩ := hl.get h
    exact ⟨v, by simp [part, run_isAgg' hag]; rw [show cs[off]? = some v by simpa using hv]; rfl, hvr⟩
  · cases h
theorem field_sim {t : TypeId} {x y : PV} {f : Nat} (h : fieldP P t f x = some y) {v : Value} (hx : VR m x v) (w : World) :
    ∃ v', (Instr.field t v f).run P w = .ok v' w ∧ VR m y v' := by
  unfold fieldP at h
  split at h
  · rename_i fd hfd
    obtain ⟨fs, hu, hf⟩ := fieldO_some hfd
    split at h
    · rename_i l
      cases hx with
      | data _ _ hd => cases hd
      | agg _ l' hl =>
        obtain ⟨v', h1, h2⟩ := part_sim (cs := l'.toArray) h (by simpa using hl) w
        exact ⟨v', by simp [Instr.field, run_underlying hu, hf, asAgg, h1], h2⟩
    · cases h
  · cases h
theorem fieldAddr_sim {t : TypeId} {x y : PV} {f : Nat} (h : fieldAddrP P t f x = some y) {v : Value} (hx : VR m x v) (w : World) :
    ∃ v', (Instr.fieldAt t v f).run P w = .ok v' w ∧ VR m y v' := by
  unfold fieldAddrP at h
  split at h
  · rename_i fd hfd
    obtain ⟨fs, hu, hf⟩ := fieldO_some hfd
    split at h
    · rename_i n hs
      split at h
      · rename_i b o
        simp at h; subst h
        cases hx with
        | data _ _ hd => cases hd
        | ptr _ _ B hm =>
          refine ⟨.pointer (some ⟨B, o + fd.offset, none⟩), ?_, .ptr _ _ _ hm⟩
          simp [Instr.fieldAt, run_underlying hu, hf, Instr.sureAddr, fieldPlace, run_sizeOf' hs, Addr.add_lit]
      · rename_i row o
        simp at h; subst h
        cases hx with
        | data _ _ hd => cases hd
        | eptr _ _ B base ks hk hl hd =>
          refine ⟨.pointer (some ⟨B, base + (o + fd.offset), none⟩), ?_, .eptr _ _ _ _ _ hk hl hd⟩
          simp [Instr.fieldAt, run_underlying hu, hf, Instr.sureAddr, fieldPlace, run_sizeOf' hs, Addr.add_lit, Nat.add_assoc]
      · cases h
    · cases h
  · cases h
theorem rowAt_sim {rows : List (List PV)} {i size : Nat} {y : PV} (h : rowAt size rows i = some y) {v : Value} (hd : DR m.K (.lst rows) v) :
    ∃ B o c, v = .slice (some ⟨B, o, none⟩) rows.length c ∧ i < rows.length ∧ VR m y (.pointer (some ⟨B, o + i * size, none⟩)) := by
  unfold rowAt at h
  split at h
  · rename_i row hrow
    cases hb : Nat.beq row.length size with
    | false => simp [hb] at h
    | true =>
      simp [hb] at h; subst h
      have hsz := Nat.eq_of_beq_eq_true hb
      have hi := (List.getElem?_eq_some_iff.1 hrow).1
      cases hd with
      | none => simp at hi
      | lst _ B o c sz ks hk h0 hc hl hr hd =>
        have h1 := hr i row hrow
        have h2 := hd i row hrow
        have hsz2 : sz = size := by omega
        subst hsz2
        refine ⟨B, o, c, rfl, hi, ?_⟩
        have := VR.eptr (m := m) row 0 B (o + i * sz) ks hk (by rw [h1]; exact row_le hi hl) (by rw [h1]; exact h2)
        simpa using this
  · cases h
theorem indexAddr_sim {t : TypeId} {x i y : PV} (h : indexAddrP P t x i = some y) {v u : Value} (hx : VR m x v) (hi : VR m i u) (w : World) :
    ∃ v', (Instr.indexAt t v u).run P w = .ok v' w ∧ VR m y v' := by
  unfold indexAddrP at h
  split at h
  · rename_i n hn
    obtain ⟨k, rfl⟩ := natOf_some hn hi
    split at h
    · rename_i e hu
      split at h
      · rename_i size hs
        have key : ∀ rows, x.rows = some rows → rowAt size rows n = some y → ∃ v', (Instr.indexAt t v (.int k n)).run P w = .ok v' w ∧ VR m y v' := by
          intro rows hrow hat
          obtain ⟨B, o, c, rfl, hlt, hvr⟩ := rowAt_sim hat (hx.rows hrow)
          refine ⟨_, ?_, hvr⟩
          simp [Instr.indexAt, asIntOf, run_underlying hu, run_sizeOf' hs, Addr.add_lit, hlt]
        split at h
        · rename_i b len
          split at h
          · rename_i hlt
            simp at h; subst h
            cases hx with
            | data _ _ hd => cases hd
            | bsl _ _ B c hm hc =>
              refine ⟨.pointer (some ⟨B, n * size, none⟩), ?_, .ptr _ _ _ hm⟩
              simp [Instr.indexAt, asIntOf, run_underlying hu, run_sizeOf' hs, Addr.add_lit, hlt]
          · cases h
        · exact key _ rfl h
        · exact key _ rfl h
        · cases h
      · cases h
    · rename_i len e hu
      split at h
      · rename_i size hs
        split at h
        · rename_i b o
          split at h
          · rename_i hlt
            simp at h; subst h
            cases hx with
            | data _ _ hd => cases hd
            | ptr _ _ B hm =>
              refine ⟨.pointer (some ⟨B, o + n * size, none⟩), ?_, .ptr _ _ _ hm⟩
              simp [Instr.indexAt, asIntOf, run_underlying hu, Instr.sureAddr, run_sizeOf' hs, Addr.add_lit, hlt]
          · cases h
        · cases h
      · cases h
    · cases h
  · cases h
theorem index_sim {t : TypeId} {x i y : PV} (h : indexP P t x i = some y) {v u : Value} (hx : VR m x v) (hi : VR m i u) (w : World) :
    ∃ v', (Instr.index t v u).run P w = .ok v' w ∧ VR m y v' := by
  unfold indexP at h
  split at h
  · rename_i n hn
    obtain ⟨k, rfl⟩ := natOf_some hn hi
    split at h
    · rename_i hu
      split at h
      · rename_i s
        split at h
        · rename_i b hb
          simp at h; subst h
          cases hx with
          | data _ _ hd =>
            cases hd
            exact ⟨.int .u8 b.toNat, by simp [Instr.index, asIntOf, run_underlying hu, hb], .data _ _ (.int _ _)⟩
        · cases h
      · cases h
    · cases h
  · cases h
def ORelNat (o : Option Nat) (v : Option Value) : Prop := Go.Ab.ORelNat o v
theorem rows_cut {K : KK} {rows : List (List PV)} {B o c : Nat} {lo n : Nat} (h : DR K (.lst rows) (.slice (some ⟨B, o, none⟩) rows.length c)) (hn : lo + n ≤ rows.length) (hpos : 0 < n) :
    ∃ sz, (∀ row, row ∈ rows → row.length = sz) ∧ ∀ c', n ≤ c' → DR K (.lst ((rows.drop lo).take n)) (.slice (some ⟨B, o + lo * sz, none⟩) n c') := by
  have hne : rows ≠ [] := by rintro rfl; simp at hn; omega
  cases h with
  | none => exact absurd rfl hne
  | lst _ _ _ _ sz ks hk h0 hc hl hr hd =>
    refine ⟨sz, fun row hm => ?_, fun c' hc' => ?_⟩
    · obtain ⟨i, hi⟩ := List.getElem?_of_mem hm
      exact hr i row hi
    · have hlen : ((rows.drop lo).take n).length = n := by simp; omega
      have hget : ∀ i row, ((rows.drop lo).take n)[i]? = some row → rows[lo + i]? = some row := by
        intro i row hi
        rw [List.getElem?_take] at hi
        split at hi
        · rw [List.getElem?_drop] at hi; exact hi
        · cases hi
      have hle : o + lo * sz + n * sz ≤ ks.length := by
        have : (lo + n) * sz ≤ rows.length * sz := Nat.mul_le_mul_right _ hn
        rw [Nat.add_mul] at this
        omega
      have := DR.lst (K := K) ((rows.drop lo).take n) B (o + lo * sz) c' sz ks hk (by omega) (by omega) (by rw [hlen]; exact hle) (fun i row hi => hr _ row (hget i row hi)) (fun i row hi => by
        rw [show o + lo * sz + i * sz = o + (lo + i) * sz by rw [Nat.add_mul]; omega]
        exact hd _ row (hget i row hi))
      rw [hlen] at this
      exact this
theorem cap_sim {t : TypeId} {x y : PV} {high max : Nat} (h : capP P t x high max = some y) {v : Value} {hi mx : Value} (hx : VR m x v)
    (h1 : Go.Ab.ORelNat (some high) (some hi)) (h2 : Go.Ab.ORelNat (some max) (some mx)) (w : World) :
    ∃ v', (Instr.sliceAt t v none (some hi) (some mx)).run P w = .ok v' w ∧ VR m y v' := by
  unfold capP at h
  split at h
  · rename_i e hu
    split at h
    · rename_i size hs
      split at h
      · rename_i rows hrows
        split at h
        · rename_i hb
          obtain ⟨rfl, rfl, hb3⟩ := hb
          simp only [Option.some.injEq] at h; subst h
          have hd := hx.rows hrows
          have fin : ∀ (a : Option Addr) (c : Nat), v = .slice a rows.length c → rows.length ≤ c → ∃ a', (Instr.sliceAt t v none (some hi) (some mx)).run P w = .ok (.slice a' rows.length rows.length) w ∧ (a' = a ∨ ∃ x, a = some x ∧ a' = some (x.add 0)) := by
            rintro a c rfl hc
            have hB := bounds_sim (P := P) (isSlice := true) (len := rows.length) (cap := c) (low := none) (lo := none) trivial h1 (max := some rows.length) (mx := some mx) h2 (by simpa using hc) (.inl (by simp)) (by simp) (.inr (by simp)) w
            by_cases h0 : rows.length = 0
            · refine ⟨a, ?_, .inl rfl⟩
              simp only [Instr.sliceAt, Sem.run_bind, run_underlying hu, Result.andThen_ok, Instr.slice, hB, run_sizeOf' hs, Sem.run_pure, Option.getD_none, Option.getD_some]
              rw [if_pos h0, Nat.sub_zero]
            · refine ⟨a.map fun x => x.add 0, ?_, ?_⟩
              · simp only [Instr.sliceAt, Sem.run_bind, run_underlying hu, Result.andThen_ok, Instr.slice, hB, run_sizeOf' hs, Sem.run_pure, Option.getD_none, Option.getD_some]
                rw [if_neg h0, Nat.sub_zero, Nat.zero_mul]
              · cases a with
                | none => exact .inl rfl
                | some x => exact .inr ⟨x, rfl, rfl⟩
          cases hd with
          | none a c ha =>
            obtain ⟨a', g1, g2⟩ := fin a c rfl (Nat.zero_le _)
            exact ⟨_, g1, .cap [] a' (.none a' 0 fun _ => rfl)⟩
          | lst _ B o c sz ks hk h0 hc hl hr hdd =>
            obtain ⟨a', g1, g2⟩ := fin _ c rfl hc
            refine ⟨_, g1, .cap rows a' ?_⟩
            rcases g2 with rfl | ⟨x, hx, rfl⟩
            · exact .lst rows B o _ sz ks hk h0 (Nat.le_refl _) hl hr hdd
            · cases hx
              rw [Addr.add_lit]
              exact .lst rows B o _ sz ks hk h0 (Nat.le_refl _) hl hr hdd
        · cases h
      · cases h
    · cases h
  · cases h
theorem slice_sim {t : TypeId} {x y : PV} {low high : Option Nat} (h : sliceP P t x low high = some y) {v : Value} {lo hi : Option Value} (hx : VR m x v)
    (h1 : Go.Ab.ORelNat low lo) (h2 : Go.Ab.ORelNat high hi) (w : World) :
    ∃ v', (Instr.sliceAt t v lo hi none).run P w = .ok v' w ∧ VR m y v' := by
  unfold sliceP at h
  split at h
  · rename_i hu
    split at h
    · rename_i s
      split at h
      · rename_i hb
        obtain ⟨hb1, hb2⟩ := hb
        simp at h; subst h
        cases hx with
        | data _ _ hd =>
          cases hd
          have hB := bounds_sim (P := P) (isSlice := false) (len := s.size) (cap := s.size) h1 h2 (max := none) (mx := none) trivial (by simp) (.inl (by simpa using hb1)) hb2 (.inl rfl) w
          refine ⟨.string (s.extract (low.getD 0) (high.getD s.size)), ?_, .data _ _ (.str _)⟩
          simp only [Instr.sliceAt, Sem.run_bind, run_underlying hu, Result.andThen_ok, Instr.slice]
          simp
          rw [hB]; rfl
      · cases h
    · cases h
  · rename_i e hu
    split at h
    · rename_i size hs
      split at h
      · rename_i b n
        split at h
        · rename_i hb
          obtain ⟨rfl, hb1⟩ := hb
          simp only [Option.some.injEq] at h; subst h
          cases hx with
          | data _ _ hd => cases hd
          | bsl _ _ B c hB hc hsz =>
            have hB1 := bounds_sim (P := P) (isSlice := true) (len := n) (cap := c) h1 h2 (max := none) (mx := none) trivial (by simp) (.inl (by simp; omega)) (by simp) (.inl rfl) w
            refine ⟨_, ?_, .bsl b _ B c hB (by omega) hsz⟩
            simp only [Instr.sliceAt, Sem.run_bind, run_underlying hu, Result.andThen_ok, Instr.slice, hB1, run_sizeOf' hs, Sem.run_pure, Option.getD_none]
            simp [Addr.add_lit]
        · cases h
      split at h
      · rename_i rows hrows
        split at h
        · rename_i hb
          obtain ⟨hb1, hb2, hb3⟩ := hb
          simp at h; subst h
          have hd := hx.rows hrows
          have hrow' : ∀ row ∈ rows, row.length = size := fun row hm => Nat.eq_of_beq_eq_true (List.all_eq_true.1 hb3 row hm)
          have fin : ∀ (a : Option Addr) (c : Nat), v = .slice a rows.length c → rows.length ≤ c → (Instr.sliceAt t v lo hi none).run P w =
              .ok (.slice (if c = low.getD 0 then a else a.map fun a => a.add (low.getD 0 * size)) (high.getD rows.length - low.getD 0) (c - low.getD 0)) w := by
            rintro a c rfl hc
            have hB := bounds_sim (P := P) (isSlice := true) (len := rows.length) (cap := c) h1 h2 (max := none) (mx := none) trivial (by simp) (.inl (by simp; omega)) hb2 (.inl rfl) w
            simp only [Instr.sliceAt, Sem.run_bind, run_underlying hu, Result.andThen_ok, Instr.slice, hB, run_sizeOf' hs, Sem.run_pure, Option.getD_none]
          by_cases hpos : 0 < high.getD rows.length - low.getD 0
          · have hd0 := hd
            cases hd with
            | none => simp only [List.length_nil] at hb1 hpos; omega
            | lst _ B o c sz ks hk h0 hc hl hr hdd =>
              obtain ⟨sz', hsz', hcut⟩ := rows_cut hd0 (lo := low.getD 0) (n := high.getD rows.length - low.getD 0) (by omega) hpos
              have hsz : sz' = size := by
                obtain ⟨row, hm⟩ : ∃ row, row ∈ rows := ⟨rows[0]'h0, by simp⟩
                rw [← hsz' row hm, hrow' row hm]
              subst hsz
              refine ⟨_, fin _ c rfl hc, ?_⟩
              rw [if_neg (by omega)]
              simp only [Option.map_some, Addr.add_lit]
              exact .data _ _ (hcut _ (by omega))
          · have h0 : high.getD rows.length - low.getD 0 = 0 := by omega
            rw [h0]
            simp only [List.take_zero]
            cases hd with
            | none a c ha =>
              refine ⟨_, fin a c rfl (Nat.zero_le _), ?_⟩
              simp only [List.length_nil] at *
              rw [h0]
              refine .data _ _ (.none _ _ fun hn => ?_)
              split at hn
              · rename_i hcl; omega
              · cases a with
                | none => rw [ha rfl]; simp
                | some a => simp at hn
            | lst _ B o c sz ks hk h0' hc hl hr hdd =>
              refine ⟨_, fin _ c rfl hc, ?_⟩
              rw [h0]
              refine .data _ _ (.none _ _ fun hn => ?_)
              split at hn <;> simp at hn
        · cases h
      · cases h
    · cases h
  · cases h
end
end Go.Vi
namespace Go.Vi
open Go.Ab (szOf bytesOf isAggO sliceElem fieldO szOf_some bytesOf_some run_sizeOf' sliceElem_some fieldO_some run_isAgg' foldl_set splice_get splice_length zipIdx_toList)
section
variable {P : Program} {m : J} {h : Nat → Option Obj} {w : World}
def PRels (m : J) : List (Nat × PV) → List (Nat × Value) → Prop
  | [], [] => True
  | (i, a) :: r, (j, v) :: r' => i = j ∧ VR m a v ∧ PRels m r r'
  | _, _ => False
theorem splice_rel {cs k xs : List PV} {vs ys : List Value} {o : Nat} (h : spliceP cs o xs = some k) (hc : VRs m cs vs) (hx : VRs m xs ys) :
    o + ys.length ≤ vs.length ∧ VRs m k (vs.take o ++ ys ++ vs.drop (o + ys.length)) := by
  unfold spliceP at h
  split at h
  · rename_i hle
    simp at h; subst h
    rw [hx.length, hc.length] at hle
    refine ⟨hle, ?_⟩
    rw [hx.length, ← List.append_assoc]
    exact ((hc.take o).append hx).append (hc.drop _)
  · cases h
theorem fill_sim {place placeA : Nat → Option (Nat × Nat)} (hp : ∀ i p, placeA i = some p → place i = some p) : ∀ {parts : List (Nat × PV)} {parts' : List (Nat × Value)} {l k : List PV} {cs : Array Value},
    PRels m parts parts' → (∀ p ∈ parts, p.2 ≠ .gone) → VRs m l cs.toList → fillP placeA l parts = some k → ∃ cs', Instr.fill place cs parts' = some cs' ∧ VRs m k cs'.toList
  | [], [], l, k, cs, _, _, hl, h => by simp [fillP] at h; subst h; exact ⟨cs, rfl, hl⟩
  | (i, a) :: r, (j, v) :: r', l, k, cs, hpr, hg, hl, h => by
    obtain ⟨rfl, hav, hrest⟩ := hpr
    simp only [fillP] at h
    cases hpl : placeA i with
    | none => simp [hpl] at h
    | some p =>
      obtain ⟨off, size⟩ := p
      simp only [hpl] at h
      cases hc : Nat.beq a.cells.length size with
      | false => simp [hc] at h
      | true =>
        simp only [hc, cond_true] at h
        have hc := Nat.eq_of_beq_eq_true hc
        split at h
        · rename_i cs2 hsp
          have hac := hav.cells (hg _ List.mem_cons_self)
          obtain ⟨g1, g2⟩ := splice_rel hsp hl hac
          have hfold := foldl_set v.cells.toList cs off 0 (by simp at g1 ⊢; omega)
          simp only [Nat.add_zero] at hfold
          have hrel : VRs m cs2 ((v.cells.zipIdx.foldl (fun cs (x : Value × Nat) => cs.setIfInBounds (off + x.2) x.1) cs)).toList := by
            rw [← Array.foldl_toList, zipIdx_toList, hfold]
            exact g2
          obtain ⟨cs', g3, g4⟩ := fill_sim hp hrest (fun p hp => hg p (List.mem_cons_of_mem _ hp)) hrel h
          refine ⟨cs', ?_, g4⟩
          simp only [Instr.fill, hp _ _ hpl]
          rw [if_neg]
          · exact g3
          · have := hac.length
            simp at this g1 ⊢; omega
        · cases h
  | [], _ :: _, _, _, _, h, _, _, _ => h.elim
  | (_, _) :: _, [], _, _, _, h, _, _, _ => h.elim
theorem build_sim {t : TypeId} {parts : List (Nat × PV)} {parts' : Array (Nat × Value)} (hp : PRels m parts parts'.toList) (hg : ∀ p ∈ parts, p.2 ≠ .gone) {a : PV} (h : buildP P t parts = some a) (w : World) :
    ∃ v, (Instr.build t parts').run P w = .ok v w ∧ VR m a v := by
  unfold buildP at h
  cases hz : zeroP P t with
  | none => simp [hz] at h
  | some z =>
    obtain ⟨zv, hzv, hzr, hzg⟩ := run_zero hz w
    simp only [hz] at h
    split at h
    · rename_i fields hu
      cases hall : Go.Ab.allSized P fields.toList with
      | false => simp [hall] at h
      | true =>
        simp only [hall, cond_true] at h
        split at h
        · rename_i l hl
          simp at h; subst h
          have hplaces : ∃ places : Array (Nat × Nat), (fields.mapM (m := Sem) fun f => do pure (f.offset, ← sizeOf f.type)).run P w = .ok places w ∧ ∀ i p, placeP P fields i = some p → places[i]? = some p := by
            have hgen : ∀ (fs : List Field), Go.Ab.allSized P fs = true → ∃ ps : List (Nat × Nat), (fs.mapM (m := Sem) fun f => do pure (f.offset, ← sizeOf f.type)).run P w = .ok ps w ∧
                ∀ (i : Nat) (f : Field) (s : Nat), fs[i]? = some f → szOf P f.type = some s → ps[i]? = some (f.offset, s) := by
              intro fs
              induction fs with
              | nil => intro _; exact ⟨[], by simp, fun i f s h => by simp at h⟩
              | cons f fs ih =>
                intro hall
                simp only [Go.Ab.allSized, List.all_cons, Bool.and_eq_true] at hall
                obtain ⟨ps, h1, h2⟩ := ih (by simpa [Go.Ab.allSized] using hall.2)
                obtain ⟨inf, hinf⟩ := Option.isSome_iff_exists.1 hall.1
                refine ⟨(f.offset, inf.size) :: ps, ?_, ?_⟩
                · have hsz : (sizeOf f.type).run P w = .ok inf.size w := run_sizeOf' (by simp [szOf, hinf]) w
                  simp only [List.mapM_cons, Sem.run_bind, hsz, Result.andThen_ok, Sem.run_pure]
                  rw [h1]; rfl
                · intro i f' s hf hs
                  cases i with
                  | zero => simp at hf; subst hf; simp [szOf, hinf] at hs; simp [hs]
                  | succ i => simp at hf; simpa using h2 i f' s hf hs
            obtain ⟨ps, h1, h2⟩ := hgen fields.toList hall
            refine ⟨ps.toArray, ?_, ?_⟩
            · rw [← Array.toArray_toList (xs := fields), List.mapM_toArray, Sem.run_map, h1]
              rfl
            · intro i p hip
              unfold placeP at hip
              split at hip
              · rename_i f hf
                split at hip
                · rename_i s hs
                  simp at hip; subst hip
                  simpa using h2 i f s (by simpa using hf) hs
                · cases hip
              · cases hip
          obtain ⟨places, hpl1, hpl2⟩ := hplaces
          obtain ⟨cs', g1, g2⟩ := fill_sim (place := (places[·]?)) hpl2 hp hg ((hzr m).cells hzg) hl
          refine ⟨.agg cs', ?_, ?_⟩
          · simp only [Instr.build, Sem.run_bind, hzv, Result.andThen_ok, run_underlying hu, hpl1, g1]
            rfl
          · have := VR.agg (m := m) l cs'.toList g2
            simpa using this
        · cases h
    · cases h
theorem datas_gone {a : PV} {row : List PV} (h : datas a.cells = some row) : a ≠ .gone := by
  rintro rfl
  simp [PV.cells, datas, PV.data] at h
theorem datasN_gone : ∀ {a : PV} {row : List PV}, datasN a.cells = some row → a ≠ .gone := by
  rintro a row h rfl
  simp [PV.cells, datasN, PV.dataN, PV.data] at h
theorem datasB_gone {N : Bool} {a : PV} {row : List PV} (h : datasB N a.cells = some row) : a ≠ .gone := by
  cases N
  · exact datas_gone h
  · exact datasN_gone h
theorem VR.toDataN {a x : PV} {v : Value} (h : VR m a v) (hr : a.dataN = some x) : DR m.K x v := by
  unfold PV.dataN at hr
  split at hr
  · simp only [Option.some.injEq] at hr; subst hr
    cases h with
    | data _ _ hd => exact hd
    | nil => exact .nil
  · exact h.toData hr
theorem VRs.toDataN {l k : List PV} {l' : List Value} (h : VRs m l l') (hk : datasN l = some k) : DRs m.K k l' := by
  induction l generalizing k l' with
  | nil => simp [datasN] at hk; subst hk; cases h; exact .nil
  | cons a l ih =>
    cases h with
    | cons _ v _ l' h1 h2 =>
      simp only [datasN] at hk
      cases hd : a.dataN with
      | none => simp [hd] at hk
      | some x =>
        cases hl : datasN l with
        | none => simp [hd, hl] at hk
        | some k' => simp [hd, hl] at hk; subst hk; exact .cons _ _ _ _ (h1.toDataN hd) (ih h2 hl)
theorem VRs.toDataB {N : Bool} {l k : List PV} {l' : List Value} (h : VRs m l l') (hk : datasB N l = some k) : DRs m.K k l' := by
  cases N
  · exact h.toData hk
  · exact h.toDataN hk
theorem fill_rows {N : Bool} {size : Nat} : ∀ {parts : List (Nat × PV)} {parts' : List (Nat × Value)} {k : Nat} {rows : List (List PV)} {cs : Array Value},
    PRels m parts parts' → partsInOrder N size k parts = some rows → (k + parts.length) * size ≤ cs.size →
    ∃ cs' : Array Value, Instr.fill (fun i => some (i * size, size)) cs parts' = some cs' ∧ cs'.size = cs.size ∧ (∀ j, j < k * size → cs'[j]? = cs[j]?) ∧ (∀ j, (k + parts.length) * size ≤ j → cs'[j]? = cs[j]?) ∧ rows.length = parts.length ∧
      ∀ i row, rows[i]? = some row → row.length = size ∧ DRs m.K row ((cs'.toList.drop ((k + i) * size)).take size)
  | [], [], k, rows, cs, _, h, _ => by
    simp [partsInOrder] at h; subst h
    exact ⟨cs, rfl, rfl, fun _ _ => rfl, fun _ _ => rfl, rfl, fun i row hi => by simp at hi⟩
  | (i, a) :: r, (j, v) :: r', k, rows, cs, hpr, h, hsz => by
    obtain ⟨rfl, hav, hrest⟩ := hpr
    simp only [partsInOrder] at h
    cases hc : Nat.beq i k && Nat.beq a.cells.length size with
    | false => simp [hc] at h
    | true =>
      simp only [hc, cond_true] at h
      obtain ⟨hc1, hc2⟩ := Go.Ab.and_true hc
      have hik := Nat.eq_of_beq_eq_true hc1
      have hl := Nat.eq_of_beq_eq_true hc2
      subst hik
      split at h
      · rename_i row hrow
        split at h
        · rename_i l hl2
          simp at h; subst h
          have hac := hav.cells (datasB_gone hrow)
          have hd := hac.toDataB hrow
          have hlen := hac.length
          simp only [Array.length_toList] at hlen
          have hmul : (i + (r.length + 1)) * size = i * size + size + r.length * size := by rw [Nat.add_mul, Nat.add_mul, Nat.one_mul]; omega
          simp only [List.length_cons] at hsz
          rw [hmul] at hsz
          have hle : i * size + v.cells.toList.length ≤ cs.toList.length := by simp; omega
          have hfold := foldl_set v.cells.toList cs (i * size) 0 (by simp; omega)
          simp only [Nat.add_zero] at hfold
          let cs1 := (v.cells.zipIdx.foldl (fun cs (x : Value × Nat) => cs.setIfInBounds (i * size + x.2) x.1) cs)
          have hcs1 : cs1.toList = cs.toList.take (i * size) ++ v.cells.toList ++ cs.toList.drop (i * size + v.cells.toList.length) := by
            show (v.cells.zipIdx.foldl _ cs).toList = _
            rw [← Array.foldl_toList, zipIdx_toList, hfold]
          have hs1 : cs1.size = cs.size := by
            have := splice_length cs.toList (i * size) v.cells.toList hle
            rw [← hcs1] at this
            simpa using this
          have hg1 : ∀ j, cs1[j]? = if i * size ≤ j ∧ j < i * size + v.cells.toList.length then v.cells.toList[j - i * size]? else cs[j]? := by
            intro j
            rw [← Array.getElem?_toList, hcs1, splice_get _ _ _ hle]
            simp
          obtain ⟨cs', g1, g2, g3, g4, g5, g6⟩ := fill_rows (N := N) (size := size) (k := i + 1) (cs := cs1) hrest hl2 (by rw [hs1, Nat.add_assoc, Nat.add_comm 1, hmul]; exact hsz)
          have hm1 : (i + 1) * size = i * size + size := by rw [Nat.add_mul, Nat.one_mul]
          refine ⟨cs', ?_, g2.trans hs1, fun j hj => ?_, fun j hj => ?_, by simp [g5], fun p row' hp => ?_⟩
          · simp only [Instr.fill]
            rw [if_neg]
            · exact g1
            · simp; omega
          · rw [g3 j (by omega), hg1, if_neg (by omega)]
          · simp only [List.length_cons] at hj
            rw [hmul] at hj
            rw [g4 j (by rw [Nat.add_assoc, Nat.add_comm 1, hmul]; exact hj), hg1, if_neg (by simp; omega)]
          · cases p with
            | zero =>
              simp at hp; subst hp
              refine ⟨by rw [hd.length]; simp; omega, ?_⟩
              have : (cs'.toList.drop ((i + 0) * size)).take size = v.cells.toList := by
                apply List.ext_getElem?
                intro j
                rw [Nat.add_zero, List.getElem?_take]
                by_cases hj : j < size
                · rw [if_pos hj, List.getElem?_drop, Array.getElem?_toList, g3 _ (by omega), hg1, if_pos (by simp; omega)]
                  congr 1; omega
                · rw [if_neg hj, List.getElem?_eq_none (by simp; omega)]
              rw [this]; exact hd
            | succ p =>
              simp at hp
              have := g6 p row' hp
              rw [show i + (p + 1) = i + 1 + p by omega]
              exact this
        · cases h
      · cases h
  | [], _ :: _, _, _, _, h, _, _ => h.elim
  | (_, _) :: _, [], _, _, _, h, _, _ => h.elim
theorem buildSlice_sim (hr : Rel m h w) {t : TypeId} {len : Nat} {parts : List (Nat × PV)} {parts' : Array (Nat × Value)} (hp : PRels m parts parts'.toList) {N : Bool} {a : PV} (ha : buildSliceP P N t len parts = some a) :
    ∃ v w' m', (Instr.buildSlice t len parts').run P w = .ok v w' ∧ Ext m w m' w' ∧ Rel m' h w' ∧ VR m' a v := by
  unfold buildSliceP at ha
  split at ha
  · rename_i e he
    split at ha
    · rename_i size hs
      cases hb : Nat.ble (len * (size + 1)) 16777216 && Nat.beq parts.length len with
      | false => simp [hb] at ha
      | true =>
        simp only [hb, cond_true] at ha
        obtain ⟨hb1, hb2⟩ := Go.Ab.and_true hb
        have hb1 := Go.Ab.ble_le hb1
        have hb2 := Nat.eq_of_beq_eq_true hb2
        split at ha
        · rename_i z hz
          cases hl : Nat.beq z.cells.length (size + 1) with
          | false => simp [hl] at ha
          | true =>
            simp only [hl, cond_true] at ha
            split at ha
            · rename_i rows hrows
              simp at ha; subst ha
              obtain ⟨zv, hzv, hzr, hzg⟩ := run_zero hz w
              have hzl : zv.cells.size = size + 1 := by
                have := ((hzr m).cells hzg).length
                rw [Nat.eq_of_beq_eq_true hl] at this
                simpa using this.symm
              let Z : Array Value := if len * (size + 1) = 0 then (Array.range (len * (size + 1))).map (fun i => (#[] : Array Value)[i % 0]!) else (Array.range (len * (size + 1))).map (fun i => zv.cells[i % zv.cells.size]!)
              have hZs : Z.size = len * (size + 1) := by
                show (if _ then _ else _ : Array Value).size = _
                split <;> simp
              obtain ⟨cs', g1, g2, g3, g4, g5, g6⟩ := fill_rows (N := N) (size := size + 1) (k := 0) (cs := Z) hp hrows (by rw [hZs, hb2, Nat.zero_add]; exact Nat.le_refl _)
              have hcs : cs'.size = rows.length * (size + 1) := by rw [g2, hZs, g5, hb2]
              obtain ⟨m', k1, k2, k3, k4, k5⟩ := hr.newK cs' e cs'.toList (List.prefix_refl _)
              have hlen : rows.length = len := by omega
              refine ⟨.slice (some ⟨w.heap.size, 0, none⟩) len len, _, m', ?_, k1, k2, ?_⟩
              · have hb' : ¬ (len * (size + 1) > 2 ^ 24) := by omega
                by_cases h0 : len * (size + 1) = 0
                · have hZ0 : Z = (Array.range (len * (size + 1))).map (fun i => (#[] : Array Value)[i % 0]!) := by
                    show (if _ then _ else _ : Array Value) = _
                    rw [if_pos h0]
                  rw [hZ0] at g1
                  simp only [Instr.buildSlice, Sem.run_bind, run_underlying (sliceElem_some he), Result.andThen_ok, run_sizeOf' hs, if_neg hb', if_pos h0, Sem.run_pure, pure_bind]
                  simp only [List.size_toArray, List.length_nil, g1, Go.Ab.run_newRow]
                  simp only [Sem.run_bind, Go.Ab.run_newRow, Result.andThen_ok, Sem.run_pure]
                · have hZ0 : Z = (Array.range (len * (size + 1))).map (fun i => zv.cells[i % zv.cells.size]!) := by
                    show (if _ then _ else _ : Array Value) = _
                    rw [if_neg h0]
                  rw [hZ0] at g1
                  simp only [Instr.buildSlice, Sem.run_bind, run_underlying (sliceElem_some he), Result.andThen_ok, run_sizeOf' hs, if_neg hb', if_neg h0, hzv, Sem.run_pure, pure_bind]
                  simp only [g1]
                  simp only [Sem.run_bind, Go.Ab.run_newRow, Result.andThen_ok, Sem.run_pure]
              · by_cases h0 : len = 0
                · have : rows = [] := List.eq_nil_of_length_eq_zero (by omega)
                  subst this
                  rw [h0]
                  exact .cap [] _ (.none _ _ fun hn => by cases hn)
                · have := DR.lst (K := m'.K) rows w.heap.size 0 len (size + 1) cs'.toList k3 (by omega) (by omega) (by simp [hcs]) (fun i row hi => (g6 i row hi).1) (fun i row hi => by
                    have := ((g6 i row hi).2).mono k1.le.K
                    simpa using this)
                  rw [hlen] at this
                  have hne : lstP rows = .lst rows := by
                    cases rows with
                    | nil => exact absurd hlen.symm h0
                    | cons _ _ => rfl
                  rw [hne]
                  exact .data _ _ this
            · cases ha
        · cases ha
    · cases ha
  · cases ha
theorem map_range0 {α : Type} (f : Nat → α) : (Array.range 0).map f = #[] := by
  apply Array.ext <;> simp
theorem buildSlice0_sim (hr : Rel m h w) {t : TypeId} {parts' : Array (Nat × Value)} (hp : parts' = #[]) {st st' : St} (hst : st.heap = h) {q : Req} (hq : buildSlice0 P t = some q) {y : PV} (hrun : q.run st = some (y, st')) (hf : ∀ b, st.next ≤ b → b < st'.next → st.heap b = none) :
    ∃ v w' m', (Instr.buildSlice t 0 parts').run P w = .ok v w' ∧ Ext m w m' w' ∧ Rel m' st'.heap w' ∧ VR m' y v := by
  subst hp
  unfold buildSlice0 at hq
  split at hq
  · rename_i e he
    split at hq
    · rename_i size hs
      simp only [Option.some.injEq] at hq; subst hq
      simp only [Req.run, Option.some.injEq, Prod.mk.injEq] at hrun
      obtain ⟨rfl, rfl⟩ := hrun
      have hfree : h st.next = none := by rw [← hst]; exact hf _ (Nat.le_refl _) (by simp [St.new])
      obtain ⟨m', k1, k2, k3, k4⟩ := hr.newArr (e := size + 1) (cs := []) hfree #[] e (by simp; exact .nil)
      refine ⟨.slice (some ⟨w.heap.size, 0, none⟩) 0 0, _, m', ?_, k1, k2.congr fun x => by simp only [St.new, hst], .bsl _ _ _ _ k3 (Nat.le_refl _) (by rw [Nat.zero_mul]; exact Nat.zero_le _)⟩
      simp only [Instr.buildSlice, Sem.run_bind, run_underlying (sliceElem_some he), Result.andThen_ok, run_sizeOf' hs, Nat.zero_mul, Sem.run_pure, pure_bind]
      simp [Instr.fill, Go.Ab.run_newRow, map_range0]
    · cases hq
  · cases hq
theorem replicate_rel {z : List PV} {zc : List Value} (hz : VRs m z zc) : ∀ n, VRs m (List.replicate n z).flatten (List.replicate n zc).flatten
  | 0 => .nil
  | n + 1 => by
    simp only [List.replicate_succ, List.flatten_cons]
    exact hz.append (replicate_rel hz n)
theorem flat_get (zc : List Value) (hpos : 0 < zc.length) : ∀ (n i : Nat), i < n * zc.length → (List.replicate n zc).flatten[i]? = zc[i % zc.length]?
  | 0, i, hi => by simp at hi
  | n + 1, i, hi => by
    simp only [List.replicate_succ, List.flatten_cons]
    by_cases h : i < zc.length
    · rw [List.getElem?_append_left h, Nat.mod_eq_of_lt h]
    · rw [List.getElem?_append_right (by omega), flat_get zc hpos n (i - zc.length) (by rw [Nat.add_mul, Nat.one_mul] at hi; omega)]
      congr 1
      exact (Nat.mod_eq_sub_mod (by omega)).symm
theorem makeSlice_sim (hr : Rel m h w) {t : TypeId} {l c : PV} {st st' : St} (hst : st.heap = h) {q : Req} (hq : makeSliceQ P t l c = some q) {y : PV} (hrun : q.run st = some (y, st')) (hf : ∀ b, st.next ≤ b → b < st'.next → st.heap b = none) {u v : Value} (hl : VR m l u) (hc : VR m c v) :
    ∃ r w' m', (Instr.makeSlice t u v).run P w = .ok r w' ∧ Ext m w m' w' ∧ Rel m' st'.heap w' ∧ VR m' y r := by
  unfold makeSliceQ at hq
  split at hq
  · rename_i e he
    split at hq
    · rename_i size hs
      split at hq
      · rename_i bytes hby
        split at hq
        · rename_i ln hln
          split at hq
          · rename_i cn hcn
            cases hb : Nat.beq ln cn && Go.Ab.sizeFits cn bytes with
            | false => simp [hb] at hq
            | true =>
              simp only [hb, cond_true] at hq
              obtain ⟨hb1, hb2⟩ := Go.Ab.and_true hb
              obtain ⟨hb3, hb4⟩ := Go.Ab.and_true hb2
              have c1 := Nat.eq_of_beq_eq_true hb1
              subst c1
              have c3 := Go.Ab.ble_le hb3
              have c4 := Go.Ab.ble_le hb4
              split at hq
              · rename_i z hz
                cases hzl : Nat.beq z.cells.length (size + 1) with
                | false => simp [hzl] at hq
                | true =>
                  simp only [hzl, cond_true, Option.some.injEq] at hq; subst hq
                  simp only [Req.run, Option.some.injEq, Prod.mk.injEq] at hrun
                  obtain ⟨rfl, rfl⟩ := hrun
                  have hfree : h st.next = none := by rw [← hst]; exact hf _ (Nat.le_refl _) (by simp [St.new])
                  obtain ⟨zv, hzv, hzr, hzg⟩ := run_zero hz w
                  have hzc := (hzr m).cells hzg
                  have hzlen : zv.cells.size = size + 1 := by
                    have := hzc.length
                    rw [Nat.eq_of_beq_eq_true hzl] at this
                    simpa using this.symm
                  obtain ⟨kl, rfl⟩ := natOf_some hln hl
                  obtain ⟨kc, rfl⟩ := natOf_some hcn hc
                  obtain ⟨inf, hinf, rfl⟩ := Go.Ab.bytesOf_some hby
                  have hw64 : ∀ n : Nat, n ≤ 140737488355328 → IntKind.i64.wrap (n : Int) = (n : Int) := by
                    intro n hn
                    have hw : IntKind.i64.wrap (n : Int) = if (n : Int) % 18446744073709551616 ≥ 9223372036854775808 then (n : Int) % 18446744073709551616 - 18446744073709551616 else (n : Int) % 18446744073709551616 := by
                      simp [IntKind.wrap, IntKind.bits, IntKind.signed]
                    rw [hw]
                    split <;> omega
                  have e1 := hw64 ln (by omega)
                  have htl : ¬ ((inf.bytes : Int) * (ln : Int) > 2 ^ 48) := by
                    have : inf.bytes * ln ≤ 140737488355328 := by rw [Nat.mul_comm]; exact c3
                    have : ((inf.bytes * ln : Nat) : Int) ≤ 140737488355328 := by omega
                    rw [Int.natCast_mul] at this
                    omega
                  have hcond : (decide ((ln : Int) < 0) || decide ((inf.bytes : Int) * (ln : Int) > 2 ^ 48)) = false := by
                    rw [decide_eq_false (by omega : ¬ ((ln : Int) < 0)), decide_eq_false htl]; rfl
                  obtain ⟨vs, hvs, hvsz, hvl⟩ : ∃ vs : Array Value, (Instr.makeSlice t (.int kl ln) (.int kc ln)).run P w = .ok (.slice (some ⟨w.heap.size, 0, none⟩) ln ln) (w.alloc (.cells vs e)) ∧ vs.size = ln * (size + 1) ∧ vs.toList = (List.replicate ln zv.cells.toList).flatten := by
                    by_cases h0 : ln * (size + 1) = 0
                    · have hl0 : ln = 0 := by
                        rcases Nat.mul_eq_zero.1 h0 with h | h
                        · exact h
                        · omega
                      subst hl0
                      refine ⟨#[], ?_, by simp, by simp⟩
                      simp only [Instr.makeSlice, Sem.run_bind, run_underlying (sliceElem_some he), Result.andThen_ok, asInt, asIntOf, Sem.run_pure, typeInfo, run_program, hinf, e1, hcond, Bool.false_or,
                        Int.toNat_natCast, pure_bind]
                      rw [if_neg (by simp)]
                      simp only [Sem.run_bind, run_askRoom, Result.andThen_ok, run_sizeOf' hs, if_pos h0, Go.Ab.run_newRow, Sem.run_pure]
                      simp [map_range0]
                    · refine ⟨(Array.range (ln * (size + 1))).map (fun i => zv.cells[i % zv.cells.size]!), ?_, by simp, ?_⟩
                      · simp only [Instr.makeSlice, Sem.run_bind, run_underlying (sliceElem_some he), Result.andThen_ok, asInt, asIntOf, Sem.run_pure, typeInfo, run_program, hinf, e1, hcond, Bool.false_or,
                          Int.toNat_natCast, pure_bind]
                        rw [if_neg (by simp)]
                        simp only [Sem.run_bind, run_askRoom, Result.andThen_ok, run_sizeOf' hs, if_neg h0, hzv, Go.Ab.run_newRow, Sem.run_pure]
                      · apply List.ext_getElem?
                        intro i
                        by_cases hi : i < ln * (size + 1)
                        · rw [flat_get _ (by simp; omega) ln i (by simp [hzlen]; exact hi)]
                          have hm : i % (size + 1) < zv.cells.size := by rw [hzlen]; exact Nat.mod_lt _ (by omega)
                          simp [hi, hzlen, getElem!_def, Array.getElem?_eq_getElem hm]
                        · rw [List.getElem?_eq_none (by simp; omega), List.getElem?_eq_none (by simp [hzlen]; omega)]
                  have hrep := replicate_rel hzc ln
                  obtain ⟨m', k1, k2, k3, k4⟩ := hr.newArr (e := size + 1) (cs := (List.replicate ln z.cells).flatten) hfree vs e (by
                    rw [hrep.length, ← hvl, List.take_length, hvl]; exact hrep)
                  refine ⟨_, _, m', hvs, k1, k2.congr fun x => by simp only [St.new, hst], .bsl _ _ _ _ k3 (Nat.le_refl _) ?_⟩
                  rw [k4, hvsz]; exact Nat.le_refl _
              · cases hq
          · cases hq
        · cases hq
      · cases hq
    · cases hq
  · cases hq
end
end Go.Vi
