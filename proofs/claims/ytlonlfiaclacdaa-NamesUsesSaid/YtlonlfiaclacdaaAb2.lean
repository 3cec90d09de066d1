/-
  THE EVALUATOR: operations, regions, code, calls, rounds (own work).
-/
import Derived.Test.YtlonlfiaclacdaaAb1
namespace Go.Ab

def bigLow : Nat := 18446744073709551616

def fillTr : List AV → Nat → Tr AV → Tr AV
  | [], _, t => t
  | x :: r, i, t => fillTr r (i + 1) (t.set i x)

def Cs.of (xs : List AV) : Cs := bif Nat.ble xs.length 16 then .list xs else .tree (fillTr xs 0 .nil)
def Cs.fill (xs : List AV) (i : Nat) : Cs → Cs
  | .tree t => .tree (fillTr xs i t)
  | .list l => bif Nat.ble (i + xs.length) l.length then .list (l.take i ++ (xs ++ l.drop (i + xs.length))) else .tree (fillTr xs i (fillTr l 0 .nil))

def mkRow (cells : List AV) : Obj := .row { n := cells.length, cells := Cs.of cells, cur := 0, nv := 1, low := bigLow, esz := 0 }

def newRow (cells : List AV) : M Nat := newObj (mkRow cells)

/-- May version v read (or write) all cells below 'upto'? -/
def Row.fits (r : Row) (v upto : Nat) : Bool := Nat.ble upto r.n && (Nat.beq v r.cur || (Nat.blt v r.nv && Nat.ble upto r.low))

def readList (t : Cs) : Nat → Nat → Option (List AV)
  | _, 0 => some []
  | i, n + 1 => match t.get i with
    | some x => match readList t (i + 1) n with
      | some l => some (x :: l)
      | none => none
    | none => none

def readRow (v i n : Nat) : Obj → Option (List AV)
  | .row r => bif r.fits v (i + n) then readList r.cells i n else none
  | _ => none

def readOne (v i : Nat) : Obj → Option AV
  | .row r => bif r.fits v (i + 1) then r.cells.get i else none
  | _ => none

def AV.scalar : AV → Bool
  | .agg _ | .tuple _ => false
  | _ => true

def writeRow (v i : Nat) (xs : List AV) : Obj → Option (Unit × Obj)
  | .row r => bif r.fits v (i + xs.length) && xs.all AV.scalar then
      some ((), .row { r with cells := Cs.fill xs i r.cells, n := bif Nat.beq v r.cur then r.n else min r.n r.low, cur := v, low := bif Nat.beq r.nv 1 then r.low else min r.low i })
    else none
  | _ => none

def readCells (b v i n : Nat) : M (List AV) := look b (readRow v i n)
def readCell (b v i : Nat) : M AV := look b (readOne v i)
def writeCells (b v i : Nat) (xs : List AV) : M Unit := match xs with
  | [] => pure ()
  | _ => upd b (writeRow v i xs)

def getMapO : Obj → Option (List (AV × AV))
  | .map es _ => some es
  | _ => none
def getMapGO : Obj → Option (List (AV × AV) × MG)
  | .map es g => some (es, g)
  | _ => none
def getMap (b : Nat) : M (List (AV × AV)) := look b getMapO
def updMapO (f : List (AV × AV) → MG → Option (List (AV × AV) × MG)) : Obj → Option (Unit × Obj)
  | .map es g => match f es g with
    | some p => some ((), .map p.1 p.2)
    | none => none
  | _ => none

def AV.cells : AV → List AV
  | .agg l => l
  | v => [v]

def undefA : AV := .tuple []

/-! strings -/
def encB : List UInt8 → Nat
  | [] => 0
  | b :: r => b.toNat + 256 * encB r

def absConst1 : Value → Option AV
  | .bool b => some (.bool b)
  | .int k n => some (.int k n)
  | .string s => some (.str s.size (encB s.data.toList))
  | .pointer none => some .nilptr
  | .slice none 0 0 => some .nilslice
  | .map none => some .nilmap
  | .nilFunc => some .nilfunc
  | .nilIface => some .niliface
  | _ => none

def absList : List Value → Option (List AV)
  | [] => some []
  | v :: r => match absConst1 v with
    | some a => match absList r with
      | some l => some (a :: l)
      | none => none
    | none => none

def absConst : Value → Option AV
  | .agg cs => match absList cs.toList with
    | some l => some (.agg l)
    | none => none
  | .tuple cs => match absList cs.toList with
    | some l => some (.tuple l)
    | none => none
  | v => absConst1 v

/-! types -/
section
variable (P : Program)
def szOf (t : TypeId) : Option Nat := match P.info? t with
  | some i => some i.size
  | none => none
def bytesOf (t : TypeId) : Option Nat := match P.info? t with
  | some i => some i.bytes
  | none => none
def isAggO (t : TypeId) : Option Bool := match P.underlying t with
  | some (.struct _) => some true
  | some (.array _ _) => some true
  | some _ => some false
  | none => none
def sliceElem (t : TypeId) : Option TypeId := match P.underlying t with
  | some (.slice e) => some e
  | _ => none
def mapElem (t : TypeId) : Option (TypeId × TypeId) := match P.underlying t with
  | some (.map k e) => some (k, e)
  | _ => none
def zeroO (t : TypeId) : Option AV := match P.info? t with
  | some i => match i.zero with
    | some z => absConst z
    | none => none
  | none => none
def fieldO (s : TypeId) (f : Nat) : Option Field := match P.underlying s with
  | some (.struct fs) => fs[f]?
  | _ => none

def evalO (fr : Tr AV) : Operand → Option AV
  | .tmp t => some ((fr.get t).getD undefA)
  | .const v => absConst v
  | .global _ => none
  | .func f => some (.func (.func f) [] [])

def evalOs (fr : Tr AV) : List Operand → Option (List AV)
  | [] => some []
  | o :: r => match evalO fr o with
    | some a => match evalOs fr r with
      | some l => some (a :: l)
      | none => none
    | none => none

def AV.nat : AV → Option Nat
  | .int _ (.ofNat n) => some n
  | _ => none

def loadA (t : TypeId) (a : AV) : M AV :=
  match a with
  | .ptr b v o => match isAggO P t with
    | some true => match szOf P t with
      | some n => do
        let l ← readCells b v o n
        pure (.agg l)
      | none => failM
    | some false => readCell b v o
    | none => failM
  | _ => failM

def storeA (t : TypeId) (a x : AV) : M AV :=
  match a with
  | .ptr b v o => match szOf P t with
    | some n => bif Nat.beq x.cells.length n then do
        writeCells b v o x.cells
        pure undefA
      else failM
    | none => failM
  | _ => failM

def setRange (l : List AV) (off : Nat) (xs : List AV) : List AV := l.take off ++ xs ++ l.drop (off + xs.length)

def fillA (place : Nat → Option (Nat × Nat)) (cells : List AV) : List (Nat × AV) → Option (List AV)
  | [] => some cells
  | (i, v) :: rest => match place i with
    | none => none
    | some (off, size) =>
      bif Nat.beq v.cells.length size && Nat.ble (off + v.cells.length) cells.length then fillA place (setRange cells off v.cells) rest else none

def fieldPlaceA (fields : Array Field) (i : Nat) : Option (Nat × Nat) := match fields[i]? with
  | some f => match szOf P f.type with
    | some s => some (f.offset, s)
    | none => none
  | none => none

def allSized (fs : List Field) : Bool := fs.all fun f => (P.info? f.type).isSome

def buildA (t : TypeId) (parts : List (Nat × AV)) : Option AV :=
  match zeroO P t with
  | some z => match P.underlying t with
    | some (.struct fields) => bif allSized P fields.toList then (match fillA (fieldPlaceA P fields) z.cells parts with
        | some l => some (.agg l)
        | none => none) else none
    | some (.array _ e) => match szOf P e with
      | some size => match fillA (fun i => some (i * size, size)) z.cells parts with
        | some l => some (.agg l)
        | none => none
      | none => none
    | _ => none
  | none => none

def genCells (n : Nat) (z : List AV) : List AV := (List.range n).map fun i => z.getD (i % z.length) undefA

/-- The cells of an element's zero value, where they are as many as its size says. -/
def zeroCells (e : TypeId) (size : Nat) : Option (List AV) := match zeroO P e with
  | some z => bif Nat.beq z.cells.length size then some z.cells else none
  | none => none

def buildSliceA (t : TypeId) (len : Nat) (parts : List (Nat × AV)) : M AV :=
  match sliceElem P t with
  | some e => match szOf P e with
    | some size => bif Nat.ble (len * size) 16777216 then
        match (bif Nat.beq (len * size) 0 then some [] else zeroCells P e size) with
        | some z => match fillA (fun i => some (i * size, size)) (genCells (len * size) z) parts with
          | some l => do
            let b ← newRow l
            pure (.slice b 0 0 len (some len))
          | none => failM
        | none => failM
      else failM
    | none => failM
  | none => failM

def fieldAddrA (s : TypeId) (x : AV) (f : Nat) : Option AV :=
  match fieldO P s f with
  | some fd => match szOf P fd.type with
    | some (_ + 1) => match x with
      | .ptr b v o => some (.ptr b v (o + fd.offset))
      | _ => none
    | _ => none
  | none => none

def partA (t : TypeId) (l : List AV) (off : Nat) : Option AV :=
  match isAggO P t with
  | some true => match szOf P t with
    | some n => some (.agg ((l.drop off).take n))
    | none => none
  | some false => l[off]?
  | none => none

def fieldA (s : TypeId) (x : AV) (f : Nat) : Option AV :=
  match fieldO P s f with
  | some fd => match x with
    | .agg l => partA P fd.type l fd.offset
    | _ => none
  | none => none

def indexAddrA (t : TypeId) (x i : AV) : Option AV :=
  match i.nat with
  | some i => match P.underlying t with
    | some (.slice e) => match x with
      | .slice b v o len _ => match szOf P e with
        | some size => bif Nat.blt i len then some (.ptr b v (o + i * size)) else none
        | none => none
      | _ => none
    | some (.array len e) => match x with
      | .ptr b v o => match szOf P e with
        | some size => bif Nat.blt i len then some (.ptr b v (o + i * size)) else none
        | none => none
      | _ => none
    | _ => none
  | none => none

def indexA (t : TypeId) (x i : AV) : Option AV :=
  match i.nat with
  | some i => match P.underlying t with
    | some .string => match x with
      | .str len code => bif Nat.blt i len then some (.int .u8 (Int.ofNat ((code >>> (8 * i)) % 256))) else none
      | _ => none
    | some (.array len e) => match x with
      | .agg cs => match szOf P e with
        | some size => bif Nat.blt i len then partA P e cs (i * size) else none
        | none => none
      | _ => none
    | _ => none
  | none => none

/-- An optional operand's value off the list of values. -/
def takeOpt (o : Option Operand) (l : List AV) : Option (Option Nat × List AV) :=
  match o with
  | none => some (none, l)
  | some _ => match l with
    | v :: r => match v.nat with
      | some n => some (some n, r)
      | none => none
    | [] => none

def sliceA (t : TypeId) (x : AV) (low high max : Option Nat) : Option AV :=
  match P.underlying t with
  | some .string => match x with
    | .str len code => match max with
      | some _ => none
      | none =>
        let h := high.getD len
        let l := low.getD 0
        bif Nat.ble h len && Nat.ble l h then some (.str (h - l) ((code >>> (8 * l)) % 1 <<< (8 * (h - l)))) else none
    | _ => none
  | some (.slice e) => match x with
    | .slice b v o len cap => match szOf P e with
      | some size => match cap, max with
        | none, none =>
          let h := high.getD len
          let l := low.getD 0
          bif Nat.ble h len && Nat.ble l h && (Nat.beq l 0 || Nat.blt l len) then some (.slice b v (o + l * size) (h - l) none) else none
        | _, _ =>
          let c := cap.getD len
          let m := max.getD c
          let h := high.getD len
          let l := low.getD 0
          bif Nat.ble m c && Nat.ble h m && Nat.ble l h && (max.isNone || high.isSome) then some (.slice b v (bif Nat.beq m l then o else o + l * size) (h - l) (some (m - l))) else none
      | none => none
    | .nilslice => match szOf P e with
      | some _ => bif Nat.beq (max.getD 0) 0 && Nat.beq (high.getD 0) 0 && Nat.beq (low.getD 0) 0 && (max.isNone || high.isSome) then some .nilslice else none
      | none => none
    | _ => none
  | some (.array n e) => match x with
    | .ptr b v o => match szOf P e with
      | some size =>
        let m := max.getD n
        let h := high.getD n
        let l := low.getD 0
        bif Nat.ble m n && Nat.ble h m && Nat.ble l h && (max.isNone || high.isSome) then some (.slice b v (bif Nat.beq m l then o else o + l * size) (h - l) (some (m - l))) else none
      | none => none
    | _ => none
  | _ => none

/-- An append to a slice whose capacity is not known: a new version of its block. -/
def growRow (v st size : Nat) (news : List AV) : Obj → Option (Nat × Obj)
  | .row r => bif r.fits v st && Nat.beq r.esz size && news.all AV.scalar then
      some (r.nv, .row { r with n := st + news.length, cells := Cs.fill news st r.cells, cur := r.nv, nv := r.nv + 1, low := min r.low st })
    else none
  | _ => none

def grownRow (size : Nat) (cells : List AV) : Obj := .row { n := cells.length, cells := Cs.of cells, cur := 0, nv := 1, low := bigLow, esz := size }

def sizeFits (n bytes : Nat) : Bool := Nat.ble (n * bytes) 140737488355328 && Nat.ble n 140737488355328

def appendTo (size bytes : Nat) (s : AV) (k : Nat) (news : List AV) : M AV :=
  match s with
  | .nilslice =>
    bif sizeFits k bytes then do
      let b ← newObj (grownRow size news)
      pure (.slice b 0 0 k none)
    else failM
  | .slice b v o len cap =>
    bif sizeFits (len + k) bytes then
      match cap with
      | some c =>
        bif Nat.ble (len + k) c then do
          writeCells b v (o + len * size) news
          pure (.slice b v o (len + k) (some c))
        else do
          let old ← readCells b v o (len * size)
          let b' ← newObj (grownRow size (old ++ news))
          pure (.slice b' 0 0 (len + k) none)
      | none =>
        bif Nat.beq o 0 then do
          let v' ← upd b (growRow v (len * size) size news)
          pure (.slice b v' 0 (len + k) none)
        else failM
    else failM
  | _ => failM

def keepA (s : AV) : Option AV := match s with
  | .nilslice => some s
  | .slice .. => some s
  | _ => none

def appendA (t : TypeId) (s x : AV) : M AV :=
  match sliceElem P t with
  | some e => match szOf P e with
    | some (size + 1) => match bytesOf P e with
      | some bytes => match zeroO P e with
        | some z => bif Nat.beq z.cells.length (size + 1) then (match x with
            | .nilslice => ofO (keepA s)
            | .slice _ _ _ 0 _ => ofO (keepA s)
            | .slice b v o (k + 1) _ => do
              let news ← readCells b v o ((k + 1) * (size + 1))
              appendTo (size + 1) bytes s (k + 1) news
            | _ => failM) else failM
        | none => failM
      | none => failM
    | _ => failM
  | none => failM

def cmpInt (op : BinOp) (a b : Int) : Option Bool :=
  match op with
  | .eql => some (a == b)
  | .neq => some (a != b)
  | .lss => some (decide (a < b))
  | .leq => some (decide (a ≤ b))
  | .gtr => some (decide (a > b))
  | .geq => some (decide (a ≥ b))
  | _ => none

def cmpRng (op : BinOp) (lo hi b : Int) : Option Bool :=
  match op with
  | .lss => if hi < b then some true else if b ≤ lo then some false else none
  | .leq => if hi ≤ b then some true else if b < lo then some false else none
  | .gtr => if b < lo then some true else if hi ≤ b then some false else none
  | .geq => if b ≤ lo then some true else if hi < b then some false else none
  | .eql => if hi < b ∨ b < lo then some false else none
  | .neq => if hi < b ∨ b < lo then some true else none
  | _ => none

def intOp (op : BinOp) (k : IntKind) (a b : Int) : Option AV :=
  match op with
  | .add => some (.int k (k.wrap (a + b)))
  | .sub => some (.int k (k.wrap (a - b)))
  | .mul => some (.int k (k.wrap (a * b)))
  | .quo => if b = 0 then none else some (.int k (k.wrap (a.tdiv b)))
  | .rem => if b = 0 then none else some (.int k (a.tmod b))
  | .and => some (.int k (k.wrap (BitVec.ofInt k.bits a &&& BitVec.ofInt k.bits b).toNat))
  | .or => some (.int k (k.wrap (BitVec.ofInt k.bits a ||| BitVec.ofInt k.bits b).toNat))
  | .xor => some (.int k (k.wrap (BitVec.ofInt k.bits a ^^^ BitVec.ofInt k.bits b).toNat))
  | .shl => if b < 0 then none else some (.int k (k.wrap (a * 2 ^ (min b.toNat k.bits))))
  | .shr => if b < 0 then none else some (.int k (a.fdiv (2 ^ (min b.toNat k.bits))))
  | op => match cmpInt op a b with
    | some r => some (.bool r)
    | none => none

def strOp (op : BinOp) (n a m b : Nat) : Option AV :=
  match op with
  | .eql => some (.bool (Nat.beq n m && Nat.beq a b))
  | .neq => some (.bool !(Nat.beq n m && Nat.beq a b))
  | .add => bif Nat.ble (n + m) 140737488355328 then some (.str (n + m) (a + b <<< (8 * n))) else none
  | _ => none

def eqS (d : Option TypeDesc) (x y : AV) : Option Bool :=
  match d with
  | some (.int _) => match x, y with
    | .int k a, .int k' b => if k = k' then some (a == b) else none
    | _, _ => none
  | some .bool => match x, y with
    | .bool a, .bool b => some (a == b)
    | _, _ => none
  | some .string => match x, y with
    | .str n a, .str m b => some (Nat.beq n m && Nat.beq a b)
    | _, _ => none
  | some (.pointer _) => match x, y with
    | .ptr .., .nilptr => some false
    | .nilptr, .ptr .. => some false
    | .nilptr, .nilptr => some true
    | _, _ => none
  | some (.slice _) => match x, y with
    | .slice .., .nilslice => some false
    | .nilslice, .slice .. => some false
    | .nilslice, .nilslice => some true
    | _, _ => none
  | some (.map _ _) => match x, y with
    | .map _, .nilmap => some false
    | .nilmap, .map _ => some false
    | .nilmap, .nilmap => some true
    | _, _ => none
  | some (.func _ _ _) => match x, y with
    | .func .., .nilfunc => some false
    | .nilfunc, .func .. => some false
    | .nilfunc, .nilfunc => some true
    | _, _ => none
  | some (.interface _) => match x, y with
    | .iface .., .niliface => some false
    | .niliface, .iface .. => some false
    | _, _ => none
  | _ => none

def eqFields (xs ys : List AV) : List Field → Option Bool
  | [] => some true
  | f :: r => if f.name = "_" then none else
    match isAggO P f.type with
    | some false => match xs[f.offset]? with
      | some x => match ys[f.offset]? with
        | some y => match eqS (P.underlying f.type) x y with
          | some true => eqFields xs ys r
          | some false => some false
          | none => none
        | none => none
      | none => none
    | _ => none

def eqA (t : TypeId) (x y : AV) : Option Bool :=
  match P.underlying t with
  | some (.struct fs) => match x, y with
    | .agg xs, .agg ys => bif P.stoodInHeld t || P.eqGuardType P.depth t then none else eqFields P xs ys fs.toList
    | _, _ => none
  | d => eqS d x y

def binA (op : BinOp) (t : TypeId) (x y : AV) : Option AV :=
  match x, y with
  | .int k a, .int k' b => match op with
    | .shl => intOp op k a b
    | .shr => intOp op k a b
    | _ => if k = k' then intOp op k a b else none
  | .rng k lo hi, .int k' b => if k = k' then (match cmpRng op lo hi b with
      | some r => some (.bool r)
      | none => none) else none
  | .str n a, .str m b => strOp op n a m b
  | x, y => match op with
    | .eql => match eqA P t x y with
      | some r => some (.bool r)
      | none => none
    | .neq => match eqA P t x y with
      | some r => some (.bool !r)
      | none => none
    | _ => none

def unA (op : UnOp) (x : AV) : Option AV := match op, x with
  | .not, .bool b => some (.bool !b)
  | .neg, .int k n => some (.int k (k.wrap (0 - n)))
  | _, _ => none

def keyEq (d : Option TypeDesc) (x y : AV) : Option Bool :=
  match d with
  | some (.int _) => match x, y with
    | .int k a, .int k' b => if k = k' then some (a == b) else none
    | _, _ => none
  | some .string => match x, y with
    | .str n a, .str m b => some (Nat.beq n m && Nat.beq a b)
    | _, _ => none
  | _ => none

def findA (d : Option TypeDesc) (k : AV) : List (AV × AV) → Option (Option AV)
  | [] => some none
  | (k', v) :: r => match keyEq d k k' with
    | some true => some (some v)
    | some false => findA d k r
    | none => none

def putA (d : Option TypeDesc) (k x : AV) : List (AV × AV) → Option (List (AV × AV))
  | [] => some [(k, x)]
  | (k', v) :: r => match keyEq d k k' with
    | some true => some ((k, x) :: r)
    | some false => match putA d k x r with
      | some r' => some ((k', v) :: r')
      | none => none
    | none => none

def delA (d : Option TypeDesc) (k : AV) : List (AV × AV) → Option (List (AV × AV))
  | [] => some []
  | (k', v) :: r => match keyEq d k k' with
    | some true => some r
    | some false => match delA d k r with
      | some r' => some ((k', v) :: r')
      | none => none
    | none => none

/-- The same with when the entries were laid in. -/
def putG (d : Option TypeDesc) (k x : AV) (es : List (AV × AV)) (g : MG) : Option (List (AV × AV) × MG) := match putA d k x es with
  | some es' => some (es', bif Nat.beq es'.length es.length then g else ⟨g.bs ++ [g.clk], g.clk + 1⟩)
  | none => none

def delI (d : Option TypeDesc) (k : AV) : List (AV × AV) → List Nat → List Nat
  | (k', _) :: r, b :: bs => match keyEq d k k' with
    | some true => bs
    | _ => b :: delI d k r bs
  | _, bs => bs

def delG (d : Option TypeDesc) (k : AV) (es : List (AV × AV)) (g : MG) : Option (List (AV × AV) × MG) := match delA d k es with
  | some es' => some (es', ⟨delI d k es g.bs, g.clk⟩)
  | none => none

/-- Is it a key of that type (so that an empty map asks nothing more)? -/
def keyOf (d : Option TypeDesc) (k : AV) : Bool := (keyEq d k k).isSome

def lookupA (t : TypeId) (m k : AV) (ok : Bool) : M AV :=
  match mapElem P t with
  | some (kt, e) => bif keyOf (P.underlying kt) k then (match zeroO P e with
      | some z => do
        let r ← (match m with
          | .nilmap => pure none
          | .map r => look r fun o => match getMapO o with
            | some es => findA (P.underlying kt) k es
            | none => none
          | _ => failM)
        match r with
        | some v => pure (if ok then .tuple [v, .bool true] else v)
        | none => pure (if ok then .tuple [z, .bool false] else z)
      | none => failM) else failM
  | none => failM

inductive Task where
  | call (f : FuncId) (args : List AV)
  | round (l : Nat) (args : List AV)

variable (ev : Task → M AV)

def externA (name : String) (args : List AV) : M AV := match args with
  | [.iface t (.map r)] => bif name == "maps.clone" then do
      let p ← look r getMapGO
      let r' ← newObj (.map p.1 p.2)
      pure (.iface t (.map r'))
    else failM
  | _ => failM

def enterA (f : FuncId) (args : List AV) : M AV := match P.funcs[f]? with
  | some fn => match fn.body with
    | some _ => bif fn.name == "runtime.NumGoroutine" then failM else ev (.call f args)
    | none => externA fn.name args
  | none => failM

def callVal (f : AV) (args : List AV) : M AV := match f with
  | .func (.func f) first captured => enterA P ev f (first ++ args ++ captured)
  | .func (.yield l) [] [] => ev (.round l args)
  | _ => failM

/-- A method's function, whether its receiver is a pointer, and (where the type is one) the type pointed to. -/
def methodA (t : TypeId) (name : String) : Option (FuncId × Bool × Option TypeId) :=
  match P.info? t with
  | some i => match i.methods.find? (·.name == name) with
    | some m => bif m.path.isEmpty then (match m.func with
        | some (f, pr) => match P.underlying t with
          | some (.pointer e) => some (f, pr, some e)
          | some _ => some (f, pr, none)
          | none => none
        | none => none)
      else none
    | none => none
  | none => none

def invokeA (recv : AV) (name : String) (args : List AV) : M AV :=
  match recv with
  | .iface t v => match methodA P t name with
    | some (f, true, some _) => enterA P ev f (v :: args)
    | some (f, false, none) => enterA P ev f (v :: args)
    | some (f, false, some e) => do
      let x ← loadA P e v
      enterA P ev f (x :: args)
    | _ => failM
  | _ => failM

def lenA (t : TypeId) (v : AV) : M AV :=
  match P.underlying t with
  | some .string => match v with
    | .str n _ => pure (.int .i64 (Int.ofNat n))
    | _ => failM
  | some (.slice _) => match v with
    | .slice _ _ _ n _ => pure (.int .i64 (Int.ofNat n))
    | .nilslice => pure (.int .i64 0)
    | _ => failM
  | some (.map _ _) => match v with
    | .nilmap => pure (.int .i64 0)
    | .map r => do
      let es ← getMap r
      pure (.int .i64 (Int.ofNat es.length))
    | _ => failM
  | _ => failM

def builtinA (b : Builtin) (argTypes : Array TypeId) (vs : List AV) : M AV :=
  match b, vs with
  | .len, [v] => (match argTypes[0]? with
    | some t => lenA P t v
    | none => failM)
  | .append, [s, x] => (match argTypes.toList with
    | [t, t'] => (match P.underlying t' with
        | some (.slice _) => appendA P t s x
        | _ => failM)
    | _ => failM)
  | .min, [.int k x, .int k' y] => if k = k' then pure (.int k (if y < x then y else x)) else failM
  | .delete, [.map r, k] => (match argTypes[0]? with
    | some t => match mapElem P t with
      | some (kt, _) => bif keyOf (P.underlying kt) k then do
          upd r (updMapO (delG (P.underlying kt) k))
          pure undefA
        else failM
      | none => failM
    | none => failM)
  | _, _ => failM

def callA (c : Call) (vs : List AV) : M AV :=
  match c.callee with
  | .value _ => match vs with
    | f :: args => callVal P ev f args
    | [] => failM
  | .invoke _ name => match vs with
    | r :: args => invokeA P ev r name args
    | [] => failM
  | .builtin b => builtinA P b c.argTypes vs

def zipParts : List (Nat × Operand) → List AV → List (Nat × AV)
  | (i, _) :: r, v :: l => (i, v) :: zipParts r l
  | _, _ => []

def convertA (src dst : TypeId) (x : AV) : Option AV :=
  match P.underlying src with
  | some _ => match P.underlying dst with
    | some (.int k) => match x with
      | .int _ n => some (.int k (k.wrap n))
      | _ => none
    | _ => none
  | none => none

def makeSliceA (t : TypeId) (l c : AV) : M AV :=
  match sliceElem P t with
  | some e => match szOf P e with
    | some size => match bytesOf P e with
      | some bytes => match l.nat with
        | some l => match c.nat with
          | some c => bif Nat.ble l c && sizeFits c bytes then
              (match (bif Nat.beq (c * size) 0 then some [] else zeroCells P e size) with
              | some z => do
                let b ← newRow (genCells (c * size) z)
                pure (.slice b 0 0 l (some c))
              | none => failM)
            else failM
          | none => failM
        | none => failM
      | none => failM
    | none => failM
  | none => failM

def assertA (asserted : TypeId) (ok : Bool) (x : AV) : Option AV :=
  match P.underlying asserted with
  | some (.interface _) => none
  | some _ => match x with
    | .iface t v => if t = asserted then some (if ok then .tuple [v, .bool true] else v) else none
    | _ => none
  | none => none

def mkIfaceA (t : TypeId) (x : AV) : Option AV :=
  match P.underlying t with
  | some (.interface _) => none
  | some _ => some (.iface t x)
  | none => none

def nilCheckA (x : AV) : Option AV :=
  match x with
  | .ptr .. => some x
  | .func (.func _) _ _ => some x
  | .func (.yield _) _ _ => some x
  | .iface .. => some x
  | _ => none

def extractA (ix : Nat) (t : AV) : Option AV :=
  match t with
  | .tuple l => l[ix]?
  | _ => none

def pickA (c a b : AV) : Option AV :=
  match c with
  | .bool true => some a
  | .bool false => some b
  | _ => none

/-! loops over maps -/
def getIterO : Obj → Option AIter
  | .iter i => some i
  | _ => none
def setIterO (i : AIter) : Obj → Option (Unit × Obj)
  | .iter _ => some ((), .iter i)
  | _ => none

def rangeA (t : TypeId) (x : AV) : M AV := match P.underlying t with
  | some (.map _ _) => match x with
    | .map r => do
      let p ← look r getMapGO
      let b ← newObj (.iter ⟨some r, p.2.clk, [], p.2.clk⟩)
      pure (.ptr b 0 0)
    | .nilmap => do
      let b ← newObj (.iter ⟨none, 0, [], 0⟩)
      pure (.ptr b 0 0)
    | _ => failM
  | _ => failM

/-- What is left of a map's entries. -/
def leftE : List (AV × AV) → List Nat → List Nat → List (AV × AV × Nat)
  | (k, x) :: es, b :: bs, seen => bif seen.contains b then leftE es bs seen else (k, x, b) :: leftE es bs seen
  | _, _, _ => []

/-- The next entry, where it is sure which: none: it cannot be told; some none: it is over. -/
def nextE (i : AIter) (es : List (AV × AV)) (g : MG) : Option (Option (AV × AV × Nat)) :=
  bif !i.seen.isEmpty && !es.isEmpty && g.bs.all (fun b => Nat.ble i.last b) then none else match leftE es g.bs i.seen with
  | [] => some none
  | [(k, x, b)] => bif Nat.blt b i.since then some (some (k, x, b)) else none
  | _ => none

def nextA (x : AV) (isString : Bool) : M AV := match x with
  | .ptr b 0 0 => bif isString then failM else do
    let i ← look b getIterO
    match i.r with
    | none => pure (.tuple [.bool false])
    | some r => do
      let p ← look r getMapGO
      match nextE i p.1 p.2 with
      | none => failM
      | some none => pure (.tuple [.bool false])
      | some (some e) => do
        upd b (setIterO { i with seen := i.seen ++ [e.2.2], last := p.2.clk })
        pure (.tuple [.bool true, e.1, e.2.1])
  | _ => failM

def findE (stamp : Nat) : List (AV × AV) → List Nat → Option (AV × AV)
  | (k, x) :: es, b :: bs => bif Nat.beq b stamp then some (k, x) else findE stamp es bs
  | _, _ => none

/-- The entry that the last step handed out. -/
def entryA (x : AV) : M AV := match x with
  | .ptr b 0 0 => do
    let i ← look b getIterO
    match i.r with
    | none => failM
    | some r => do
      let p ← look r getMapGO
      match i.seen.getLast? with
      | none => failM
      | some stamp => bif Nat.beq p.2.clk i.last then (match findE stamp p.1 p.2.bs with
          | some e => pure (.tuple [e.1, e.2])
          | none => failM)
        else failM
  | _ => failM

/-- One operation on its operands' values. -/
def opV (op : Op) (vs : List AV) : M AV :=
  match op with
  | .move _ => (match vs with | [x] => pure x | _ => failM)
  | .assign _ => (match vs with | [x] => pure x | _ => failM)
  | .pick _ _ _ => (match vs with | [c, a, b] => ofO (pickA c a b) | _ => failM)
  | .alloc e => (match zeroO P e with
    | some z => do
      let b ← newRow z.cells
      pure (.ptr b 0 0)
    | none => failM)
  | .box _ _ => (match vs with
    | [x] => do
      let b ← newRow x.cells
      pure (.ptr b 0 0)
    | _ => failM)
  | .build t parts => ofO (buildA P t (zipParts parts.toList vs))
  | .buildSlice t len parts => buildSliceA P t len (zipParts parts.toList vs)
  | .load t _ => (match vs with | [a] => loadA P t a | _ => failM)
  | .store t _ _ => (match vs with | [a, x] => storeA P t a x | _ => failM)
  | .nilCheck _ => (match vs with | [x] => ofO (nilCheckA x) | _ => failM)
  | .binOp op t _ _ _ => (match vs with | [x, y] => ofO (binA P op t x y) | _ => failM)
  | .unOp op _ _ => (match vs with | [x] => ofO (unA op x) | _ => failM)
  | .convert src dst _ => (match vs with | [x] => ofO (convertA P src dst x) | _ => failM)
  | .makeInterface t _ => (match vs with | [x] => ofO (mkIfaceA P t x) | _ => failM)
  | .makeFunc fn first _ => (match fn with
    | .yield _ => failM
    | _ => pure (.func fn (vs.take first.size) (vs.drop first.size)))
  | .makeMap _ none => do
    let r ← newObj (.map [] ⟨[], 0⟩)
    pure (.map r)
  | .makeSlice t _ _ => (match vs with | [l, c] => makeSliceA P t l c | _ => failM)
  | .slice t _ lo hi mx => (match vs with
    | x :: r => match takeOpt lo r with
      | some (lo', r) => match takeOpt hi r with
        | some (hi', r) => match takeOpt mx r with
          | some (mx', _) => ofO (sliceA P t x lo' hi' mx')
          | none => failM
        | none => failM
      | none => failM
    | [] => failM)
  | .fieldAddr s _ f => (match vs with | [x] => ofO (fieldAddrA P s x f) | _ => failM)
  | .field s _ f => (match vs with | [x] => ofO (fieldA P s x f) | _ => failM)
  | .indexAddr t _ _ => (match vs with | [x, i] => ofO (indexAddrA P t x i) | _ => failM)
  | .index t _ _ => (match vs with | [x, i] => ofO (indexA P t x i) | _ => failM)
  | .lookup t _ _ ok => (match vs with | [m, k] => lookupA P t m k ok | _ => failM)
  | .mapUpdate t _ _ _ => (match vs with
    | [.map r, k, x] => (match mapElem P t with
      | some (kt, _) => bif keyOf (P.underlying kt) k then do
          upd r (updMapO (putG (P.underlying kt) k x))
          pure undefA
        else failM
      | none => failM)
    | _ => failM)
  | .typeAssert _ _ asserted ok => (match vs with | [x] => ofO (assertA P asserted ok x) | _ => failM)
  | .extract _ ix => (match vs with | [t] => ofO (extractA ix t) | _ => failM)
  | .range t _ => (match vs with | [x] => rangeA P t x | _ => failM)
  | .next _ isString => (match vs with | [x] => nextA x isString | _ => failM)
  | .entry _ => (match vs with | [x] => entryA x | _ => failM)
  | .call c => callA P ev c vs
  | _ => failM

def wantedA (ops : List Oper) (fr : Tr AV) (o : Oper) : Bool :=
  match o.guard with
  | none => true
  | some (j, want) => match ops[j]? with
    | some o' => match o'.dst with
      | some d => match fr.get d with
        | some (.bool b) => b == want
        | _ => false
      | none => false
    | none => false

def putT (fr : Tr AV) (d : Option Tmp) (v : AV) : Tr AV := match d with
  | some d => fr.set d v
  | none => fr

def fitsT (nt : Nat) (d : Option Tmp) : Bool := match d with
  | some d => Nat.blt d nt
  | none => true

/-- One operation of a region: the value that goes into its slot. -/
def valA (ops : List Oper) (fr : Tr AV) (o : Oper) : M AV :=
  bif wantedA ops fr o then (match evalOs fr o.op.operands.toList with
    | some vs => opV P ev o.op vs
    | none => failM)
  else pure undefA

variable (nt : Nat)

def opsA (ops : List Oper) : List Oper → Tr AV → M (Tr AV)
  | [], fr => pure fr
  | o :: r, fr => bif fitsT nt o.dst then do
      let v ← valA P ev ops fr o
      opsA ops r (putT fr o.dst v)
    else failM

def opsD (ops : List Oper) : List Oper → Tr AV → M (Tr AV × List (Nat × Nat))
  | [], fr => pure (fr, [])
  | o :: r, fr => bif fitsT nt o.dst then do
      let p ← logged (valA P ev ops fr o)
      let q ← opsD ops r (putT fr o.dst p.1)
      pure (q.1, p.2 :: q.2)
    else failM

/-- Of each operation (in order) the mask of those that surely stand ahead of it. -/
def befores : List Oper → List Nat → List Nat
  | [], acc => acc
  | o :: r, acc => befores r (acc ++ [o.after.toList.foldl (fun m e => bif Region.binds .any e then m ||| 1 <<< e.on ||| acc.getD e.on 0 else m) 0])

def clash (a b : Nat × Nat) : Bool := !(Nat.beq (a.2 &&& (b.1 ||| b.2)) 0 && Nat.beq (a.1 &&& b.2) 0)

/-- Does one of the first operations ('i' is the first one's number) clash with this one, which it need not stand ahead of? -/
def clashIn (m : Nat) (l : Nat × Nat) : List (Nat × Nat) → Nat → Bool
  | [], _ => false
  | a :: r, i => (!(Nat.testBit m i) && clash a l) || clashIn m l r (i + 1)

def clashes (done : List (Nat × Nat)) : List (Nat × Nat) → List Nat → Bool
  | [], _ => false
  | _ :: _, [] => true
  | l :: r, m :: ms => clashIn m l done 0 || clashes (done ++ [l]) r ms

def tmpsOf (l : List Operand) : List Nat := l.filterMap fun | .tmp t => some t | _ => none

def namesOf (ops : List Oper) (o : Oper) : List Nat :=
  tmpsOf o.op.operands.toList ++ (match o.guard with
    | some (j, _) => (match ops[j]? with
      | some o' => o'.dst.toList
      | none => [])
    | none => [])

/-- May two operations that need not stand in this order stand in either? by their slots. -/
def slotsOk (ops : List Oper) (a b : Oper) : Bool :=
  (match a.dst with
   | some d => !(namesOf ops b).contains d && !(b.dst == some d)
   | none => true) &&
  (match b.dst with
   | some d => !(namesOf ops a).contains d
   | none => true)

def slotsIn (ops : List Oper) (m : Nat) (o : Oper) : List Oper → Nat → Bool
  | [], _ => true
  | a :: r, i => (Nat.testBit m i || slotsOk ops a o) && slotsIn ops m o r (i + 1)

def slotsAll (ops : List Oper) (done : List Oper) : List Oper → List Nat → Bool
  | [], _ => true
  | _ :: _, [] => false
  | o :: r, m :: ms => slotsIn ops m o done 0 && slotsAll ops (done ++ [o]) r ms

def edgesOk : List Oper → Nat → Bool
  | [], _ => true
  | o :: r, i => (o.after.toList.all fun e => Nat.blt e.on i || !(Region.binds .any e)) && edgesOk r (i + 1)

def staticOk (ops : List Oper) : Bool := edgesOk ops 0 && slotsAll ops [] ops (befores ops [])

def regionD (ops : List Oper) (fr : Tr AV) : M (Tr AV) :=
  bif staticOk ops && P.follows .mixedOrders then do
    let q ← opsD P ev nt ops ops fr
    bif clashes [] q.2 (befores ops []) then failM else pure q.1
  else failM

def loopN (body : Tr AV → M (AExit × Tr AV)) : Nat → Tr AV → M (AExit × Tr AV)
  | 0, _ => failM
  | n + 1, fr => do
    let p ← body fr
    match p.1 with
    | .normal => loopN body n p.2
    | e => pure (e, p.2)

def loopFuel : Nat := 1000000

def getLoopO : Obj → Option ALoop
  | .loop l => some l
  | _ => none
def setLoopO (f : ALoop → Option ALoop) : Obj → Option (Unit × Obj)
  | .loop l => match f l with
    | some l' => some ((), .loop l')
    | none => none
  | _ => none

def endLoopO : Obj → Option (AExit × Obj)
  | .loop l => match l.state with
    | .busy => none
    | _ => some (l.pending, .loop { l with state := .exhausted })
  | _ => none

def den (rnd : Bool) : Code → Tr AV → M (AExit × Tr AV)
  | .skip, fr => pure (.normal, fr)
  | .label _, fr => pure (.normal, fr)
  | .region _ ops d, fr => bif d then do
      let fr' ← regionD P ev nt ops.toList fr
      pure (.normal, fr')
    else do
      let fr' ← opsA P ev nt ops.toList ops.toList fr
      pure (.normal, fr')
  | .seq a b, fr => do
    let p ← den rnd a fr
    match p.1 with
    | .normal => den rnd b p.2
    | e => pure (e, p.2)
  | .cond c a b, fr => match evalO fr c with
    | some (.bool true) => den rnd a fr
    | some (.bool false) => den rnd b fr
    | _ => failM
  | .block id c, fr => do
    let p ← den rnd c fr
    match p.1 with
    | .exit id' => pure (bif Nat.beq id' id then .normal else .exit id', p.2)
    | e => pure (e, p.2)
  | .loop c, fr => loopN (den rnd c) loopFuel fr
  | .scope c, fr => den rnd c fr
  | .exit id, fr => pure (.exit id, fr)
  | .ret, fr => pure (.ret, fr)
  | .rangeFunc f params assign body, fr => bif rnd then failM else match evalO fr f with
    | some (.func (.func g) first captured) => match P.funcs[g]? with
      | some fn => match fn.body with
        | some _ => bif fn.name == "runtime.NumGoroutine" then failM else do
          let l ← newObj (.loop { params, tmps := fr, nt, assign, body, state := .ready, pending := .normal })
          let _ ← ev (.call g (first ++ [.func (.yield l) [] []] ++ captured))
          let e ← upd l endLoopO
          pure (e, fr)
        | none => failM
      | none => failM
    | _ => failM
  | .goto _, _ => failM
  | .refuse _, _ => failM

def resultsA (fr : Tr AV) : List ResultVar → M (List AV)
  | [] => pure []
  | .tmp t :: r => do
    let l ← resultsA fr r
    pure ((fr.get t).getD undefA :: l)
  | .cell a t :: r => do
    let x ← loadA P t ((fr.get a).getD undefA)
    let l ← resultsA fr r
    pure (x :: l)

def tupA : List AV → AV
  | [v] => v
  | l => .tuple l

def bindParams (nt : Nat) (fr : Tr AV) : List Nat → List AV → Option (Tr AV)
  | [], [] => some fr
  | p :: ps, a :: as => bif Nat.blt p nt then bindParams nt (fr.set p a) ps as else none
  | _, _ => none

def evalN : Nat → Task → M AV
  | 0, _ => failM
  | n + 1, .call f args => match P.funcs[f]? with
    | some fn => match fn.body with
      | some c => do
        let p ← den P (evalN n) (max args.length fn.ntmps) false c (fillTr args 0 .nil)
        match p.1 with
        | .exit _ => failM
        | _ => do
          let l ← resultsA P p.2 fn.results.toList
          pure (tupA l)
      | none => failM
    | none => failM
  | n + 1, .round l args => do
    let L ← look l getLoopO
    match bindParams L.nt L.tmps L.params.toList args with
    | some fr => do
      let p ← den P (evalN n) L.nt true L.assign fr
      match p.1 with
      | .normal => do
        upd l (setLoopO fun L => match L.state with | .ready => some { L with state := .busy } | _ => none)
        let q ← den P (evalN n) L.nt true L.body p.2
        match q.1 with
        | .normal => do
          upd l (setLoopO fun L => some { L with state := .ready, pending := .normal })
          pure (.bool true)
        | e => do
          upd l (setLoopO fun L => some { L with state := .done, pending := e })
          pure (.bool false)
      | _ => failM
    | none => failM
end
end Go.Ab
