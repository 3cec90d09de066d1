/- Part of the proof of ClocksDeep (own work). -/
import Derived.Test.YtlonlfiaclacdaaGreatB3
import Derived.Test.YtlonlfiaclacdaaGreatProg
import Derived.KernelRfl
set_option linter.all false
set_option maxRecDepth 100000
namespace Go.Vi
open Go.Proofs
abbrev QT := PV → List (List PV) → Prop
abbrev F0 := St → Prop
abbrev F1 := PV → F0
abbrev F2 := PV → F1
abbrev F3 := PV → F2
abbrev F4 := PV → F3
abbrev F5 := PV → F4
abbrev F6 := PV → F5
abbrev F7 := PV → F6
abbrev F8 := PV → F7
abbrev F9 := PV → F8
abbrev F10 := PV → F9
abbrev F11 := PV → F10
abbrev F12 := PV → F11
abbrev F13 := PV → F12
abbrev F14 := PV → F13
abbrev F15 := PV → F14
abbrev F16 := PV → F15
abbrev F17 := PV → F16
abbrev LF := (List Log → List Log) → F0
abbrev I (n : Int) : PV := .int .i64 n
abbrev bT : PV := .bool true
abbrev bF : PV := .bool false
abbrev S0 : PV := .str ⟨#[]⟩
abbrev zE : List PV := [.int .i64 0, .int .i64 0, .str ⟨#[]⟩, .int .i64 0, .int .i64 0, .int .i64 0, .int .i64 0, .nil, .int .i64 0]
abbrev zT : List PV := [.int .i64 0, .str ⟨#[]⟩, .int .i64 0, .int .i64 0, .int .i64 0, .int .i64 0]
abbrev zI : List PV := [.nil, .int .i64 0, .int .i64 0, .str ⟨#[]⟩, .int .i64 0, .int .i64 0, .int .i64 0, .int .i64 0, .nil, .int .i64 0, .nil, .int .i64 0]
abbrev zS : List PV := [.str ⟨#[]⟩, .nil, .nil, .nil, .nil, .int .i64 0]
noncomputable abbrev qB (b : BinOp) (t : TypeId) (x y : PV) : Option Req := qBin Tryz.prog b t x y
abbrev dN (l : List Log → List Log) (s s' : St) (r u : List Nat) : List Log → List Log := fun t => l ((r, u ++ ids s.next s'.next) :: t)
abbrev oQ (q : Option Req) (K : F1) : F0 := fun s => pQ q s K
abbrev dQ (q : Option Req) (K : PV → LF) : LF := fun lg s => pQL q s fun v s' r u => K v (dN lg s s' r u) s'
abbrev oAsg (x : PV) := oQ (qAsg x)
abbrev dAsg (x : PV) := dQ (qAsg x)
abbrev oPick (c a b : PV) := oQ (qPick c a b)
abbrev dPick (c a b : PV) := dQ (qPick c a b)
abbrev oBox (x : PV) := oQ (qBox x)
abbrev oBuild (z : List PV) (l : List (Option (Nat × Nat) × PV)) := oQ (qBuild z l)
abbrev dBuild (z : List PV) (l : List (Option (Nat × Nat) × PV)) := dQ (qBuild z l)
abbrev oBsl (n : Nat) (l : List PV) := oQ (qBsl n l)
abbrev dBsl (n : Nat) (l : List PV) := dQ (qBsl n l)
abbrev oBslN (n : Nat) (l : List PV) := oQ (qBslN n l)
abbrev oLoad1 (a : PV) := oQ (qLoad1 a)
abbrev dLoad1 (a : PV) := dQ (qLoad1 a)
abbrev oLoadN (n : Nat) (a : PV) := oQ (qLoadN n a)
abbrev dLoadN (n : Nat) (a : PV) := dQ (qLoadN n a)
abbrev oStore (n : Nat) (x a : PV) := oQ (qStore n x a)
abbrev dStore (n : Nat) (x a : PV) := dQ (qStore n x a)
abbrev oNil (x : PV) := oQ (qNil x)
abbrev dNil (x : PV) := dQ (qNil x)
noncomputable abbrev oBin (b : BinOp) (t : TypeId) (x y : PV) := oQ (qBin Tryz.prog b t x y)
noncomputable abbrev dBin (b : BinOp) (t : TypeId) (x y : PV) := dQ (qBin Tryz.prog b t x y)
abbrev oUn (o : UnOp) (x : PV) := oQ (qUn o x)
abbrev dUn (o : UnOp) (x : PV) := dQ (qUn o x)
abbrev oSlS (a b : Bool) (x : PV) (l : List PV) := oQ (qSlS a b x l)
abbrev oSlL (n : Nat) (a b : Bool) (x : PV) (l : List PV) := oQ (qSlL n a b x l)
abbrev dSlL (n : Nat) (a b : Bool) (x : PV) (l : List PV) := dQ (qSlL n a b x l)
abbrev oCap (n : Nat) (x : PV) (l : List PV) := oQ (qCap n x l)
abbrev oFA (n : Nat) (x : PV) := oQ (qFA n x)
abbrev dFA (n : Nat) (x : PV) := dQ (qFA n x)
abbrev oF1 (n : Nat) (x : PV) := oQ (qF1 n x)
abbrev oIA (n : Nat) (x i : PV) := oQ (qIA n x i)
abbrev dIA (n : Nat) (x i : PV) := dQ (qIA n x i)
abbrev oIS (x i : PV) := oQ (qIS x i)
abbrev oEx (n : Nat) (x : PV) := oQ (qEx n x)
abbrev dEx (n : Nat) (x : PV) := dQ (qEx n x)
abbrev oLenS (x : PV) := oQ (qLenS x)
abbrev oLenL (x : PV) := oQ (qLenL x)
abbrev dLenL (x : PV) := dQ (qLenL x)
abbrev oApp (n m : Nat) (x y : PV) := oQ (qApp n m x y)
abbrev dApp (n m : Nat) (x y : PV) := dQ (qApp n m x y)
abbrev oOwn  := oQ (some (.own 0 0 fun b => .acc b []))
abbrev oBx (l : List PV) := oQ (some (.box l fun b => .ptr b 0))
abbrev dBx (l : List PV) := dQ (some (.box l fun b => .ptr b 0))
abbrev oMap  := oQ (some (.map [] fun b => .map b))
noncomputable abbrev qAdd3 (x y : PV) : Option Req := qBin Tryz.prog .add 3 x y
noncomputable abbrev oAdd3 (x y : PV) := oQ (qBin Tryz.prog .add 3 x y)
noncomputable abbrev oAdd3A (x y : PV) (K : F1) := oQ (qBin Tryz.prog .add 3 x y) fun a => oAsg a K
noncomputable abbrev qSub3 (x y : PV) : Option Req := qBin Tryz.prog .sub 3 x y
noncomputable abbrev oSub3 (x y : PV) := oQ (qBin Tryz.prog .sub 3 x y)
noncomputable abbrev oSub3A (x y : PV) (K : F1) := oQ (qBin Tryz.prog .sub 3 x y) fun a => oAsg a K
noncomputable abbrev qEql3 (x y : PV) : Option Req := qBin Tryz.prog .eql 3 x y
noncomputable abbrev oEql3 (x y : PV) := oQ (qBin Tryz.prog .eql 3 x y)
noncomputable abbrev oEql3A (x y : PV) (K : F1) := oQ (qBin Tryz.prog .eql 3 x y) fun a => oAsg a K
noncomputable abbrev qNeq3 (x y : PV) : Option Req := qBin Tryz.prog .neq 3 x y
noncomputable abbrev oNeq3 (x y : PV) := oQ (qBin Tryz.prog .neq 3 x y)
noncomputable abbrev dNeq3 (x y : PV) := dQ (qBin Tryz.prog .neq 3 x y)
noncomputable abbrev qLss3 (x y : PV) : Option Req := qBin Tryz.prog .lss 3 x y
noncomputable abbrev oLss3 (x y : PV) := oQ (qBin Tryz.prog .lss 3 x y)
noncomputable abbrev qLeq3 (x y : PV) : Option Req := qBin Tryz.prog .leq 3 x y
noncomputable abbrev oLeq3 (x y : PV) := oQ (qBin Tryz.prog .leq 3 x y)
noncomputable abbrev qGtr3 (x y : PV) : Option Req := qBin Tryz.prog .gtr 3 x y
noncomputable abbrev oGtr3 (x y : PV) := oQ (qBin Tryz.prog .gtr 3 x y)
noncomputable abbrev oGtr3A (x y : PV) (K : F1) := oQ (qBin Tryz.prog .gtr 3 x y) fun a => oAsg a K
noncomputable abbrev qGeq3 (x y : PV) : Option Req := qBin Tryz.prog .geq 3 x y
noncomputable abbrev oGeq3 (x y : PV) := oQ (qBin Tryz.prog .geq 3 x y)
noncomputable abbrev dGeq3 (x y : PV) := dQ (qBin Tryz.prog .geq 3 x y)
abbrev oFL (n : Nat) (x : PV) (K : F1) := oFA n x fun a => oLoad1 a K
abbrev dFL (n : Nat) (x : PV) (K : PV → LF) : LF := dFA n x fun a => dLoad1 a K
abbrev oFS (n m : Nat) (y x : PV) (K : F1) := oFA n x fun a => oStore m y a K
abbrev oCA (f : FuncId) (x : List PV) (K : F1) : F0 := fun s => pCall Tryz.prog f x s fun a s => pQ (qAsg a) s K
abbrev oNFL (n : Nat) (x : PV) (K : F1) := oNil x fun x => oFL n x K
abbrev oC (f : FuncId) (x : List PV) (k : F1) : F0 := fun s => pCall Tryz.prog f x s k
abbrev oG (X : Mode) (f : FuncId) (x : List PV) (k : F1) : F0 := fun s => pC Tryz.prog X f x s k
abbrev oD (X : Mode) (x : List PV) (k : F1) : F0 := fun s => pDyn Tryz.prog X x s k
abbrev oR (X : Mode) (g : PV) (b : PV → F0 → F0) (K : F0) : F0 := fun s => pRng Tryz.prog X g b K s
abbrev dC (f : FuncId) (x : List PV) (k : PV → LF) : LF := fun l s => pCallL Tryz.prog f x s fun v s' r u => k v (dN l s s' r u) s'
abbrev dD (X : Mode) (x : List PV) (k : PV → LF) : LF := fun l s => pDynS Tryz.prog X x s fun v s' r u => k v (dN l s s' r u) s'
abbrev dG (X : Mode) (f : FuncId) (x : List PV) (k : PV → LF) : LF := fun l s => pCL Tryz.prog X f x s fun v s' r u => k v (dN l s s' r u) s'
abbrev dV (k : LF) : LF := fun l s => k (dN l s s [] []) s
abbrev dS (k : LF) : F0 := fun s => k (fun t => t) s
abbrev dE (b : List Nat) (k : F0) : LF := fun l s => clashesB [] (l []) b = false ∧ k s
abbrev hVT (g : PV) (x : PV) (K : F1) : F0 := fun s => pGL g true (fun k => k x s [] []) (fun v s' _ _ => K v s') s
abbrev eVT (g : PV) (x : PV) (K : PV → LF) : LF := fun l s => pGL g true (fun k => k x s [] []) (fun v s' r u => K v (dN l s s' r u) s') s
abbrev hQT (g : PV) (q : Option Req) (K : F1) : F0 := fun s => pGL g true (fun k => pQL q s k) (fun v s' _ _ => K v s') s
abbrev eQT (g : PV) (q : Option Req) (K : PV → LF) : LF := fun l s => pGL g true (fun k => pQL q s k) (fun v s' r u => K v (dN l s s' r u) s') s
abbrev hCT (g : PV) (f : FuncId) (x : List PV) (K : F1) : F0 := fun s => pGL g true (fun k => pCallL Tryz.prog f x s k) (fun v s' _ _ => K v s') s
abbrev eCT (g : PV) (f : FuncId) (x : List PV) (K : PV → LF) : LF := fun l s => pGL g true (fun k => pCallL Tryz.prog f x s k) (fun v s' r u => K v (dN l s s' r u) s') s
abbrev hGT (g : PV) (X : Mode) (f : FuncId) (x : List PV) (K : F1) : F0 := fun s => pGL g true (fun k => pGU Tryz.prog X f x s k) (fun v s' _ _ => K v s') s
abbrev hVF (g : PV) (x : PV) (K : F1) : F0 := fun s => pGL g false (fun k => k x s [] []) (fun v s' _ _ => K v s') s
abbrev eVF (g : PV) (x : PV) (K : PV → LF) : LF := fun l s => pGL g false (fun k => k x s [] []) (fun v s' r u => K v (dN l s s' r u) s') s
abbrev hQF (g : PV) (q : Option Req) (K : F1) : F0 := fun s => pGL g false (fun k => pQL q s k) (fun v s' _ _ => K v s') s
abbrev eQF (g : PV) (q : Option Req) (K : PV → LF) : LF := fun l s => pGL g false (fun k => pQL q s k) (fun v s' r u => K v (dN l s s' r u) s') s
abbrev hCF (g : PV) (f : FuncId) (x : List PV) (K : F1) : F0 := fun s => pGL g false (fun k => pCallL Tryz.prog f x s k) (fun v s' _ _ => K v s') s
abbrev hGF (g : PV) (X : Mode) (f : FuncId) (x : List PV) (K : F1) : F0 := fun s => pGL g false (fun k => pGU Tryz.prog X f x s k) (fun v s' _ _ => K v s') s
abbrev eGF (g : PV) (X : Mode) (f : FuncId) (x : List PV) (K : PV → LF) : LF := fun l s => pGL g false (fun k => pCL Tryz.prog X f x s k) (fun v s' r u => K v (dN l s s' r u) s') s
abbrev cN (x : PV) (A B : F0) : F0 := fun s => condP x (A s) (B s)
abbrev sF (l : St → List (Option PV)) (Q : F1) : F0 := fun s => optP (resL (l s)) fun l => Q (tupP l) s
abbrev rF (l : St → List (Option PV)) (e n : Nat) (Q : QT) : F0 := fun s => optP (resL (l s)) fun l => pEnd e n (tupP l) s Q
abbrev s0 (Q : F1) : F0 := fun s => optP (resL []) fun l => Q (tupP l) s
abbrev r0 (e n : Nat) (Q : QT) : F0 := fun s => optP (resL []) fun l => pEnd e n (tupP l) s Q
abbrev s1 (a0 : PV) (Q : F1) : F0 := fun s => optP (resL [some a0]) fun l => Q (tupP l) s
abbrev r1 (a0 : PV) (e n : Nat) (Q : QT) : F0 := fun s => optP (resL [some a0]) fun l => pEnd e n (tupP l) s Q
abbrev s2 (a0 a1 : PV) (Q : F1) : F0 := fun s => optP (resL [some a0, some a1]) fun l => Q (tupP l) s
abbrev r2 (a0 a1 : PV) (e n : Nat) (Q : QT) : F0 := fun s => optP (resL [some a0, some a1]) fun l => pEnd e n (tupP l) s Q
abbrev s3 (a0 a1 a2 : PV) (Q : F1) : F0 := fun s => optP (resL [some a0, some a1, some a2]) fun l => Q (tupP l) s
abbrev r3 (a0 a1 a2 : PV) (e n : Nat) (Q : QT) : F0 := fun s => optP (resL [some a0, some a1, some a2]) fun l => pEnd e n (tupP l) s Q
abbrev s4 (a0 a1 a2 a3 : PV) (Q : F1) : F0 := fun s => optP (resL [some a0, some a1, some a2, some a3]) fun l => Q (tupP l) s
abbrev r4 (a0 a1 a2 a3 : PV) (e n : Nat) (Q : QT) : F0 := fun s => optP (resL [some a0, some a1, some a2, some a3]) fun l => pEnd e n (tupP l) s Q
abbrev s5 (a0 a1 a2 a3 a4 : PV) (Q : F1) : F0 := fun s => optP (resL [some a0, some a1, some a2, some a3, some a4]) fun l => Q (tupP l) s
abbrev r5 (a0 a1 a2 a3 a4 : PV) (e n : Nat) (Q : QT) : F0 := fun s => optP (resL [some a0, some a1, some a2, some a3, some a4]) fun l => pEnd e n (tupP l) s Q
abbrev s6 (a0 a1 a2 a3 a4 a5 : PV) (Q : F1) : F0 := fun s => optP (resL [some a0, some a1, some a2, some a3, some a4, some a5]) fun l => Q (tupP l) s
abbrev J0 (c : F0) : Ks := fun f => c
abbrev e0 (L : Nat → F0) : F0 := fun s => ∃ m, L m  s
abbrev J1 (c : F1) (i0 : Nat) : Ks := fun f => c (f i0)
abbrev e1 (L : Nat → F1) (a0 : PV) : F0 := fun s => ∃ m, L m a0 s
abbrev N1 : F1 := fun _ _ => False
abbrev J2 (c : F2) (i0 i1 : Nat) : Ks := fun f => c (f i0) (f i1)
abbrev e2 (L : Nat → F2) (a0 a1 : PV) : F0 := fun s => ∃ m, L m a0 a1 s
abbrev N2 : F2 := fun _ _ _ => False
abbrev J3 (c : F3) (i0 i1 i2 : Nat) : Ks := fun f => c (f i0) (f i1) (f i2)
abbrev e3 (L : Nat → F3) (a0 a1 a2 : PV) : F0 := fun s => ∃ m, L m a0 a1 a2 s
abbrev N3 : F3 := fun _ _ _ _ => False
abbrev J4 (c : F4) (i0 i1 i2 i3 : Nat) : Ks := fun f => c (f i0) (f i1) (f i2) (f i3)
abbrev e4 (L : Nat → F4) (a0 a1 a2 a3 : PV) : F0 := fun s => ∃ m, L m a0 a1 a2 a3 s
abbrev N4 : F4 := fun _ _ _ _ _ => False
abbrev J5 (c : F5) (i0 i1 i2 i3 i4 : Nat) : Ks := fun f => c (f i0) (f i1) (f i2) (f i3) (f i4)
abbrev e5 (L : Nat → F5) (a0 a1 a2 a3 a4 : PV) : F0 := fun s => ∃ m, L m a0 a1 a2 a3 a4 s
abbrev N5 : F5 := fun _ _ _ _ _ _ => False
abbrev J6 (c : F6) (i0 i1 i2 i3 i4 i5 : Nat) : Ks := fun f => c (f i0) (f i1) (f i2) (f i3) (f i4) (f i5)
abbrev e6 (L : Nat → F6) (a0 a1 a2 a3 a4 a5 : PV) : F0 := fun s => ∃ m, L m a0 a1 a2 a3 a4 a5 s
abbrev N6 : F6 := fun _ _ _ _ _ _ _ => False
abbrev J7 (c : F7) (i0 i1 i2 i3 i4 i5 i6 : Nat) : Ks := fun f => c (f i0) (f i1) (f i2) (f i3) (f i4) (f i5) (f i6)
abbrev e7 (L : Nat → F7) (a0 a1 a2 a3 a4 a5 a6 : PV) : F0 := fun s => ∃ m, L m a0 a1 a2 a3 a4 a5 a6 s
abbrev N7 : F7 := fun _ _ _ _ _ _ _ _ => False
abbrev J8 (c : F8) (i0 i1 i2 i3 i4 i5 i6 i7 : Nat) : Ks := fun f => c (f i0) (f i1) (f i2) (f i3) (f i4) (f i5) (f i6) (f i7)
abbrev e8 (L : Nat → F8) (a0 a1 a2 a3 a4 a5 a6 a7 : PV) : F0 := fun s => ∃ m, L m a0 a1 a2 a3 a4 a5 a6 a7 s
abbrev N8 : F8 := fun _ _ _ _ _ _ _ _ _ => False
abbrev J9 (c : F9) (i0 i1 i2 i3 i4 i5 i6 i7 i8 : Nat) : Ks := fun f => c (f i0) (f i1) (f i2) (f i3) (f i4) (f i5) (f i6) (f i7) (f i8)
abbrev e9 (L : Nat → F9) (a0 a1 a2 a3 a4 a5 a6 a7 a8 : PV) : F0 := fun s => ∃ m, L m a0 a1 a2 a3 a4 a5 a6 a7 a8 s
abbrev N9 : F9 := fun _ _ _ _ _ _ _ _ _ _ => False
abbrev J10 (c : F10) (i0 i1 i2 i3 i4 i5 i6 i7 i8 i9 : Nat) : Ks := fun f => c (f i0) (f i1) (f i2) (f i3) (f i4) (f i5) (f i6) (f i7) (f i8) (f i9)
abbrev e10 (L : Nat → F10) (a0 a1 a2 a3 a4 a5 a6 a7 a8 a9 : PV) : F0 := fun s => ∃ m, L m a0 a1 a2 a3 a4 a5 a6 a7 a8 a9 s
abbrev N10 : F10 := fun _ _ _ _ _ _ _ _ _ _ _ => False
abbrev J11 (c : F11) (i0 i1 i2 i3 i4 i5 i6 i7 i8 i9 i10 : Nat) : Ks := fun f => c (f i0) (f i1) (f i2) (f i3) (f i4) (f i5) (f i6) (f i7) (f i8) (f i9) (f i10)
abbrev e11 (L : Nat → F11) (a0 a1 a2 a3 a4 a5 a6 a7 a8 a9 a10 : PV) : F0 := fun s => ∃ m, L m a0 a1 a2 a3 a4 a5 a6 a7 a8 a9 a10 s
abbrev N11 : F11 := fun _ _ _ _ _ _ _ _ _ _ _ _ => False
abbrev e12 (L : Nat → F12) (a0 a1 a2 a3 a4 a5 a6 a7 a8 a9 a10 a11 : PV) : F0 := fun s => ∃ m, L m a0 a1 a2 a3 a4 a5 a6 a7 a8 a9 a10 a11 s
abbrev N12 : F12 := fun _ _ _ _ _ _ _ _ _ _ _ _ _ => False
abbrev N13 : F13 := fun _ _ _ _ _ _ _ _ _ _ _ _ _ _ => False
abbrev N14 : F14 := fun _ _ _ _ _ _ _ _ _ _ _ _ _ _ _ => False
abbrev N15 : F15 := fun _ _ _ _ _ _ _ _ _ _ _ _ _ _ _ _ => False
abbrev N16 : F16 := fun _ _ _ _ _ _ _ _ _ _ _ _ _ _ _ _ _ => False
abbrev N17 : F17 := fun _ _ _ _ _ _ _ _ _ _ _ _ _ _ _ _ _ _ => False
section
variable {P : Program} {md : Bool} {X : Mode} {nt : Nat} {rg : Bool}
theorem wA {c : Code} {K : Kx} {T : Ks} (J : Ks) (h : codeF P md X nt c rg K = T) (hJ : ∀ f s, T f s = J f s := by intro _ _; kernel_rfl) : codeF P md X nt c rg K = J := w_as J h hJ
theorem wL {c : Code} {K : Kx} (L : Nat → Ks) {T : Nat → Ks} (h : ∀ n, codeF P md X nt c rg (seqF (L n) K) = T n) (hJ : ∀ n f s, T n f s = L (n + 1) f s := by intro _ _ _; kernel_rfl) (h0 : ∀ f s, L 0 f s = False := by intro _ _; kernel_rfl) : codeF P md X nt (.loop c) rg K = fun f s => ∃ n, L n f s :=
  w_loop L h0 fun n => w_as _ (h n) (hJ n)
end
abbrev P0 (f : FuncId) (c : Nat → Nat → QT → F0) : Prop := ∀ (e : Nat) {n : Nat} {conts : List (List PV)} (_ : conts.length = n) {Q : QT} (_ : c e n Q  (initSt conts)), PQ Tryz.prog f [] conts Q
abbrev D0 (md : Bool) (f : FuncId) (c : Mode → F1 → F0) : Prop := ∀ (X : Mode) {Q : F1} {s : St} (_ : c X Q  s), Cd Tryz.prog md X f [] Q s
theorem p0 {f : FuncId} {c : Nat → Nat → QT → F0} {fn : Func} (hfn : Tryz.prog.funcs[f]? = some fn) (nt : Nat) {T : Nat → Nat → QT → Ks} {b : Code} (ht : ∀ e n Q, codeF Tryz.prog false .old nt b true (retK Tryz.prog e n fn.results.toList Q) = T e n Q) (hb : fn.body = some b := by rfl) (hnt : max 0 fn.ntmps = nt := by kernel_rfl) (hA : ∀ e n Q s, c e n Q  s = T e n Q (frameOf []) s := by intros; kernel_rfl) : P0 f c :=
  fun e _ _ hn Q  h => pq_is hn hfn hb e hnt (ht e _ Q) (Eq.mp (hA e _ Q  _) h)
theorem d0 {f : FuncId} {md : Bool} {c : Mode → F1 → F0} {fn : Func} (hfn : Tryz.prog.funcs[f]? = some fn) (nt : Nat) {T : Mode → F1 → Ks} {b : Code} (ht : ∀ X Q, codeF Tryz.prog md X nt b true (retS Tryz.prog fn.results.toList Q) = T X Q) (hb : fn.body = some b := by rfl) (hnt : max 0 fn.ntmps = nt := by kernel_rfl) (hA : ∀ X Q s, c X Q  s = T X Q (frameOf []) s := by intros; kernel_rfl) : D0 md f c :=
  fun X Q  _ h => cd_is hfn hb hnt (ht X Q) (Eq.mp (hA X Q  _) h)
abbrev P1 (f : FuncId) (c : Nat → Nat → QT → F1) : Prop := ∀ (e : Nat) {n : Nat} {conts : List (List PV)} (_ : conts.length = n) {Q : QT} (a0 : PV) (_ : c e n Q a0 (initSt conts)), PQ Tryz.prog f [a0] conts Q
abbrev D1 (md : Bool) (f : FuncId) (c : Mode → F1 → F1) : Prop := ∀ (X : Mode) {Q : F1} (a0 : PV) {s : St} (_ : c X Q a0 s), Cd Tryz.prog md X f [a0] Q s
theorem p1 {f : FuncId} {c : Nat → Nat → QT → F1} {fn : Func} (hfn : Tryz.prog.funcs[f]? = some fn) (nt : Nat) {T : Nat → Nat → QT → Ks} {b : Code} (ht : ∀ e n Q, codeF Tryz.prog false .old nt b true (retK Tryz.prog e n fn.results.toList Q) = T e n Q) (hb : fn.body = some b := by rfl) (hnt : max 1 fn.ntmps = nt := by kernel_rfl) (hA : ∀ e n Q (a0 : PV) s, c e n Q a0 s = T e n Q (frameOf [a0]) s := by intros; kernel_rfl) : P1 f c :=
  fun e _ _ hn Q a0 h => pq_is hn hfn hb e hnt (ht e _ Q) (Eq.mp (hA e _ Q a0 _) h)
theorem d1 {f : FuncId} {md : Bool} {c : Mode → F1 → F1} {fn : Func} (hfn : Tryz.prog.funcs[f]? = some fn) (nt : Nat) {T : Mode → F1 → Ks} {b : Code} (ht : ∀ X Q, codeF Tryz.prog md X nt b true (retS Tryz.prog fn.results.toList Q) = T X Q) (hb : fn.body = some b := by rfl) (hnt : max 1 fn.ntmps = nt := by kernel_rfl) (hA : ∀ X Q (a0 : PV) s, c X Q a0 s = T X Q (frameOf [a0]) s := by intros; kernel_rfl) : D1 md f c :=
  fun X Q a0 _ h => cd_is hfn hb hnt (ht X Q) (Eq.mp (hA X Q a0 _) h)
abbrev P2 (f : FuncId) (c : Nat → Nat → QT → F2) : Prop := ∀ (e : Nat) {n : Nat} {conts : List (List PV)} (_ : conts.length = n) {Q : QT} (a0 a1 : PV) (_ : c e n Q a0 a1 (initSt conts)), PQ Tryz.prog f [a0, a1] conts Q
abbrev D2 (md : Bool) (f : FuncId) (c : Mode → F1 → F2) : Prop := ∀ (X : Mode) {Q : F1} (a0 a1 : PV) {s : St} (_ : c X Q a0 a1 s), Cd Tryz.prog md X f [a0, a1] Q s
theorem p2 {f : FuncId} {c : Nat → Nat → QT → F2} {fn : Func} (hfn : Tryz.prog.funcs[f]? = some fn) (nt : Nat) {T : Nat → Nat → QT → Ks} {b : Code} (ht : ∀ e n Q, codeF Tryz.prog false .old nt b true (retK Tryz.prog e n fn.results.toList Q) = T e n Q) (hb : fn.body = some b := by rfl) (hnt : max 2 fn.ntmps = nt := by kernel_rfl) (hA : ∀ e n Q (a0 a1 : PV) s, c e n Q a0 a1 s = T e n Q (frameOf [a0, a1]) s := by intros; kernel_rfl) : P2 f c :=
  fun e _ _ hn Q a0 a1 h => pq_is hn hfn hb e hnt (ht e _ Q) (Eq.mp (hA e _ Q a0 a1 _) h)
theorem d2 {f : FuncId} {md : Bool} {c : Mode → F1 → F2} {fn : Func} (hfn : Tryz.prog.funcs[f]? = some fn) (nt : Nat) {T : Mode → F1 → Ks} {b : Code} (ht : ∀ X Q, codeF Tryz.prog md X nt b true (retS Tryz.prog fn.results.toList Q) = T X Q) (hb : fn.body = some b := by rfl) (hnt : max 2 fn.ntmps = nt := by kernel_rfl) (hA : ∀ X Q (a0 a1 : PV) s, c X Q a0 a1 s = T X Q (frameOf [a0, a1]) s := by intros; kernel_rfl) : D2 md f c :=
  fun X Q a0 a1 _ h => cd_is hfn hb hnt (ht X Q) (Eq.mp (hA X Q a0 a1 _) h)
abbrev P3 (f : FuncId) (c : Nat → Nat → QT → F3) : Prop := ∀ (e : Nat) {n : Nat} {conts : List (List PV)} (_ : conts.length = n) {Q : QT} (a0 a1 a2 : PV) (_ : c e n Q a0 a1 a2 (initSt conts)), PQ Tryz.prog f [a0, a1, a2] conts Q
abbrev D3 (md : Bool) (f : FuncId) (c : Mode → F1 → F3) : Prop := ∀ (X : Mode) {Q : F1} (a0 a1 a2 : PV) {s : St} (_ : c X Q a0 a1 a2 s), Cd Tryz.prog md X f [a0, a1, a2] Q s
theorem p3 {f : FuncId} {c : Nat → Nat → QT → F3} {fn : Func} (hfn : Tryz.prog.funcs[f]? = some fn) (nt : Nat) {T : Nat → Nat → QT → Ks} {b : Code} (ht : ∀ e n Q, codeF Tryz.prog false .old nt b true (retK Tryz.prog e n fn.results.toList Q) = T e n Q) (hb : fn.body = some b := by rfl) (hnt : max 3 fn.ntmps = nt := by kernel_rfl) (hA : ∀ e n Q (a0 a1 a2 : PV) s, c e n Q a0 a1 a2 s = T e n Q (frameOf [a0, a1, a2]) s := by intros; kernel_rfl) : P3 f c :=
  fun e _ _ hn Q a0 a1 a2 h => pq_is hn hfn hb e hnt (ht e _ Q) (Eq.mp (hA e _ Q a0 a1 a2 _) h)
theorem d3 {f : FuncId} {md : Bool} {c : Mode → F1 → F3} {fn : Func} (hfn : Tryz.prog.funcs[f]? = some fn) (nt : Nat) {T : Mode → F1 → Ks} {b : Code} (ht : ∀ X Q, codeF Tryz.prog md X nt b true (retS Tryz.prog fn.results.toList Q) = T X Q) (hb : fn.body = some b := by rfl) (hnt : max 3 fn.ntmps = nt := by kernel_rfl) (hA : ∀ X Q (a0 a1 a2 : PV) s, c X Q a0 a1 a2 s = T X Q (frameOf [a0, a1, a2]) s := by intros; kernel_rfl) : D3 md f c :=
  fun X Q a0 a1 a2 _ h => cd_is hfn hb hnt (ht X Q) (Eq.mp (hA X Q a0 a1 a2 _) h)
abbrev P4 (f : FuncId) (c : Nat → Nat → QT → F4) : Prop := ∀ (e : Nat) {n : Nat} {conts : List (List PV)} (_ : conts.length = n) {Q : QT} (a0 a1 a2 a3 : PV) (_ : c e n Q a0 a1 a2 a3 (initSt conts)), PQ Tryz.prog f [a0, a1, a2, a3] conts Q
abbrev D4 (md : Bool) (f : FuncId) (c : Mode → F1 → F4) : Prop := ∀ (X : Mode) {Q : F1} (a0 a1 a2 a3 : PV) {s : St} (_ : c X Q a0 a1 a2 a3 s), Cd Tryz.prog md X f [a0, a1, a2, a3] Q s
theorem p4 {f : FuncId} {c : Nat → Nat → QT → F4} {fn : Func} (hfn : Tryz.prog.funcs[f]? = some fn) (nt : Nat) {T : Nat → Nat → QT → Ks} {b : Code} (ht : ∀ e n Q, codeF Tryz.prog false .old nt b true (retK Tryz.prog e n fn.results.toList Q) = T e n Q) (hb : fn.body = some b := by rfl) (hnt : max 4 fn.ntmps = nt := by kernel_rfl) (hA : ∀ e n Q (a0 a1 a2 a3 : PV) s, c e n Q a0 a1 a2 a3 s = T e n Q (frameOf [a0, a1, a2, a3]) s := by intros; kernel_rfl) : P4 f c :=
  fun e _ _ hn Q a0 a1 a2 a3 h => pq_is hn hfn hb e hnt (ht e _ Q) (Eq.mp (hA e _ Q a0 a1 a2 a3 _) h)
theorem d4 {f : FuncId} {md : Bool} {c : Mode → F1 → F4} {fn : Func} (hfn : Tryz.prog.funcs[f]? = some fn) (nt : Nat) {T : Mode → F1 → Ks} {b : Code} (ht : ∀ X Q, codeF Tryz.prog md X nt b true (retS Tryz.prog fn.results.toList Q) = T X Q) (hb : fn.body = some b := by rfl) (hnt : max 4 fn.ntmps = nt := by kernel_rfl) (hA : ∀ X Q (a0 a1 a2 a3 : PV) s, c X Q a0 a1 a2 a3 s = T X Q (frameOf [a0, a1, a2, a3]) s := by intros; kernel_rfl) : D4 md f c :=
  fun X Q a0 a1 a2 a3 _ h => cd_is hfn hb hnt (ht X Q) (Eq.mp (hA X Q a0 a1 a2 a3 _) h)
abbrev P5 (f : FuncId) (c : Nat → Nat → QT → F5) : Prop := ∀ (e : Nat) {n : Nat} {conts : List (List PV)} (_ : conts.length = n) {Q : QT} (a0 a1 a2 a3 a4 : PV) (_ : c e n Q a0 a1 a2 a3 a4 (initSt conts)), PQ Tryz.prog f [a0, a1, a2, a3, a4] conts Q
theorem p5 {f : FuncId} {c : Nat → Nat → QT → F5} {fn : Func} (hfn : Tryz.prog.funcs[f]? = some fn) (nt : Nat) {T : Nat → Nat → QT → Ks} {b : Code} (ht : ∀ e n Q, codeF Tryz.prog false .old nt b true (retK Tryz.prog e n fn.results.toList Q) = T e n Q) (hb : fn.body = some b := by rfl) (hnt : max 5 fn.ntmps = nt := by kernel_rfl) (hA : ∀ e n Q (a0 a1 a2 a3 a4 : PV) s, c e n Q a0 a1 a2 a3 a4 s = T e n Q (frameOf [a0, a1, a2, a3, a4]) s := by intros; kernel_rfl) : P5 f c :=
  fun e _ _ hn Q a0 a1 a2 a3 a4 h => pq_is hn hfn hb e hnt (ht e _ Q) (Eq.mp (hA e _ Q a0 a1 a2 a3 a4 _) h)
end Go.Vi
