/- Part of the proof of ClocksDeep (own work). -/
import Derived.Test.YtlonlfiaclacdaaGreatB4
set_option linter.all false
set_option maxRecDepth 100000
namespace Go.Vi
open Go.Proofs Go.Proofs.Tryz
section
variable (e n : Nat) (Q : QT)
def c83 : F1 :=
  fun a => oBx [.nil] fun b => oC 106 [a] fun a => oEx 0 a fun c => oEx 1 a fun d => oEx 2 a fun a => oAsg c fun c => oAsg d fun d => oAsg a fun a => oNeq3 a (I 0) fun g => cN g (oBuild [.nil] [] fun g => oStore 1 g b fun _ => oAsg d fun d => oAsg a fun a => rF (fun s => [qCell (qLoadN 1 b) s, some d, some a]) e n Q) (oBuild [.nil, I 0, I 0, I 0, I 0] [(some (0, 1), c)] fun a => oBox a fun a => oAsg a fun a => oC 107 [a] fun c => oBx [.nil] fun d => oStore 1 c d fun _ => oNFL 2 a fun c => oNeq3 c (I 0) fun c => cN c (dS (dBuild [.nil] [] fun c => dV (dNil a fun g => dFL 3 g fun g => dV (dNil a fun a => dFL 2 a fun a => dStore 1 c b fun _ => dAsg g fun c => dAsg a fun a => dE [0, 0, 2, 6, 14, 0, 32, 96, 224, 1, 543, 2047] (rF (fun s => [qCell (qLoadN 1 b) s, some c, some a]) e n Q))))) (oLoadN 1 d fun a => oStore 1 a b fun _ => rF (fun s => [qCell (qLoadN 1 b) s, some (I 0), some (I 0)]) e n Q))
theorem c83_pq : P1 83 c83 :=
  p1 func83 41 fun e n Q => w_any
def c106j28 (a : F3) : F4 :=
  fun b c d g => oLenL c fun h => oGeq3 h (I 20000) fun h => cN h (oOwn fun h => oAsg d fun i => r3 h i (I 2) e n Q) (oLoadN 6 g fun h => oBsl 6 [h] fun h => oApp 6 56 c h fun c => oAsg c fun c => oFL 0 g fun h => oEql3 h (I 5) fun h => cN h (oAsg c fun h => r3 h (I 0) (I 0) e n Q) (oFL 1 g fun g => oLenS g fun g => oAdd3A d g fun d => a b c d))
def c106j17 (a : F3) : F3 :=
  fun b c d => oBuild zT [(some (0, 1), (I 5)), (some (5, 1), d)] fun g => oBx zT fun h => oStore 6 g h fun _ => oLenS b fun g => oLss3 d g fun g => cN g (oC 118 [b, d] fun g => oEx 0 g fun i => oEx 1 g fun g => oBx zT fun j => oStore 6 i j fun _ => oAsg g fun g => oNeq3 g (I 0) fun i => cN i (oOwn fun i => oAsg d fun k => oAsg g fun g => r3 i k g e n Q) (oLoadN 6 j fun g => oStore 6 g h fun _ => c106j28 e n Q a b c d h)) (c106j28 e n Q a b c d h)
def c106l173b (e n : Nat) (Q : QT) (a : F3) (a : F3) (b : F3) : F3 :=
  fun c d g => oLenS c fun h => oLss3 g h fun h => hVT h c fun i => hVT h g fun j => hQT h (qIS i j) fun i => hQT h (qB .neq 5 i (.int .u8 10)) fun i => oPick h i bF fun h => cN h (oAdd3A g (I 1) fun h => b c d h) (a c d g)
def c106l173 (a : F3) (b : F3) : Nat → F3
  | 0 => N3
  | m + 1 => c106l173b e n Q a b (c106l173 a b m)
def c106l96b (a : F3) (b : F3) : F3 :=
  fun c d g => oLenS c fun h => oLss3 g h fun h => cN h (oIS c g fun h => oBin .eql 5 h (.int .u8 32) fun h => hVF h c fun i => hVF h g fun j => hQF h (qIS i j) fun i => hQF h (qB .eql 5 i (.int .u8 9)) fun i => oPick h bT i fun h => hVF h c fun i => hVF h g fun j => hQF h (qIS i j) fun i => hQF h (qB .eql 5 i (.int .u8 10)) fun i => oPick h bT i fun h => hVF h c fun i => hVF h g fun j => hQF h (qIS i j) fun i => hQF h (qB .eql 5 i (.int .u8 13)) fun i => oPick h bT i fun h => cN h (oAdd3A g (I 1) fun h => b c d h) (oIS c g fun h => oBin .eql 5 h (.int .u8 45) fun h => hVT h g fun i => hQT h (qAdd3 i (I 1)) fun i => hVT h c fun j => hQT h (qLenS j) fun j => hQT h (qLss3 i j) fun i => oPick h i bF fun h => hVT h c fun i => hVT h g fun j => hQT h (qAdd3 j (I 1)) fun j => hQT h (qIS i j) fun i => hQT h (qB .eql 5 i (.int .u8 45)) fun i => oPick h i bF fun h => cN h (e3 (c106l173 e n Q a b) c d g) (c106j17 e n Q a c d g))) (c106j17 e n Q a c d g)
def c106l96 (a : F3) : Nat → F3
  | 0 => N3
  | m + 1 => c106l96b e n Q a (c106l96 a m)
def c106l10b (a : F3) : F3 :=
  fun b c d => e3 (c106l96 e n Q a) b c d
def c106l10 : Nat → F3
  | 0 => N3
  | m + 1 => c106l10b e n Q (c106l10  m)
def c106 : F1 :=
  fun a => oOwn fun b => oLenS a fun b => oGtr3 b (I 65536) fun b => cN b (oOwn fun b => r3 b (I 0) (I 2) e n Q) (oOwn fun b => e3 (c106l10 e n Q) a b (I 0))
theorem c106_pq : P1 106 c106 :=
  p1 func106 105 fun e n Q => (w_seq (w_seq (w_seq (w_seq (w_block (wL (fun m => J3 (c106l10 e n Q m) 0 5 6) (fun a => (w_block (w_seq (wA (J3 (c106j17 e n Q (c106l10 e n Q a)) 0 5 6) (w_seq (w_seq (wA (J4 (c106j28 e n Q (c106l10 e n Q a)) 0 5 6 7) w_any) w_any) w_any)) (w_block (wL (fun m => J3 (c106l96 e n Q (c106l10 e n Q a) m) 0 5 6) (fun b => (w_seq (w_block (w_seq (w_cond w_any (w_seq (w_cond (w_block (wL (fun m => J3 (c106l173 e n Q (c106l10 e n Q a) (c106l96 e n Q (c106l10 e n Q a) b) m) 0 5 6) (fun a => w_any))) w_any) w_any)) w_any)) w_any))))))))) w_any) w_any) w_any) w_any)
def c118j38 : F2 :=
  fun a b => oLoadN 6 b fun b => oStore 6 b a fun _ => rF (fun s => [qCell (qLoadN 6 a) s, some (I 0)]) e n Q
def c118j8 : F4 :=
  fun a b c d => oSub3 d b fun g => oGtr3 g (I 40) fun g => cN g (oBuild zT [] fun g => oStore 6 g c fun _ => rF (fun s => [qCell (qLoadN 6 c) s, some (I 2)]) e n Q) (oSlS true true a [b, d] fun a => oBuild zT [(some (0, 1), (I 1)), (some (1, 1), a), (some (5, 1), b)] fun a => oBx zT fun b => oStore 6 a b fun _ => oFL 1 b fun a => oCA 141 [a] fun a => cN a (oFS 0 1 (I 3) b fun _ => c118j38 e n Q c b) (c118j38 e n Q c b))
def c118l50b (a : F4) : F4 :=
  fun b c d g => oLenS b fun h => oLss3 g h fun h => hVT h b fun i => hVT h g fun j => hQT h (qIS i j) fun i => hCT h 139 [i] fun i => hVT h i fun i => hVF i b fun j => hVF i g fun k => hQF i (qIS j k) fun j => hCF i 140 [j] fun j => hQT h (qPick i bT j) fun i => oPick h i bF fun h => cN h (oAdd3A g (I 1) fun h => a b c d h) (c118j8 e n Q b c d g)
def c118l50 : Nat → F4
  | 0 => N4
  | m + 1 => c118l50b e n Q (c118l50  m)
def c118j104 : F6 :=
  fun a b c d g h => oSlS true true a [d, h] fun i => oCA 142 [i] fun i => oGtr3 h d fun d => hVT d i fun j => hQT d (qLss3 j (I 2)) fun j => oPick d j bF fun d => cN d (oBuild zT [] fun d => oStore 6 d c fun _ => rF (fun s => [qCell (qLoadN 6 c) s, some (I 11)]) e n Q) (oC 143 [g, i] fun d => oEx 0 d fun g => oEx 1 d fun d => oAsg g fun g => oAsg d fun d => oUn .not d fun d => cN d (oBuild zT [] fun d => oStore 6 d c fun _ => rF (fun s => [qCell (qLoadN 6 c) s, some (I 11)]) e n Q) (oSlS true true a [b, h] fun a => oBuild [I 0, I 0] [(some (0, 1), i)] fun d => oBuild zT [(some (0, 1), (I 2)), (some (1, 1), a), (some (2, 1), g), (some (3, 2), d), (some (5, 1), b)] fun a => oStore 6 a c fun _ => rF (fun s => [qCell (qLoadN 6 c) s, some (I 0)]) e n Q))
def c118l154b (a : F6) : F6 :=
  fun b c d g h i => oLenS b fun j => oLss3 i j fun j => hVT j b fun k => hVT j i fun l => hQT j (qIS k l) fun k => hCT j 139 [k] fun k => hVT j k fun k => hVF k b fun l => hVF k i fun o => hQF k (qIS l o) fun l => hCF k 140 [l] fun l => hQT j (qPick k bT l) fun k => oPick j k bF fun j => cN j (oAdd3A i (I 1) fun j => a b c d g h j) (c118j104 e n Q b c d g h i)
def c118l154 : Nat → F6
  | 0 => N6
  | m + 1 => c118l154b e n Q (c118l154  m)
def c118j92 : F4 :=
  fun a b c d => oSlS true true a [b, d] fun g => oAsg g fun g => oAsg d fun h => e6 (c118l154 e n Q) a b c d g h
def c118l194b (a : F4) : F4 :=
  fun b c d g => oLenS b fun h => oLss3 g h fun h => hVT h b fun i => hVT h g fun j => hQT h (qIS i j) fun i => hCT h 140 [i] fun i => oPick h i bF fun h => cN h (oAdd3A g (I 1) fun h => a b c d h) (c118j92 e n Q b c d g)
def c118l194 : Nat → F4
  | 0 => N4
  | m + 1 => c118l194b e n Q (c118l194  m)
def c118 : F2 :=
  fun a b => oBx zT fun c => oAsg b fun d => oIS a b fun g => oC 139 [g] fun g => cN g (e4 (c118l50 e n Q) a b c d) (oIS a b fun g => oC 140 [g] fun g => cN g (e4 (c118l194 e n Q) a b c d) (oCA 144 [a, b] fun d => oEql3 d (I 0) fun g => cN g (oBuild zT [] fun g => oStore 6 g c fun _ => rF (fun s => [qCell (qLoadN 6 c) s, some (I 10)]) e n Q) (oAdd3 b d fun d => oSlS true true a [b, d] fun a => oBuild zT [(some (0, 1), (I 4)), (some (1, 1), a), (some (5, 1), b)] fun a => oStore 6 a c fun _ => rF (fun s => [qCell (qLoadN 6 c) s, some (I 0)]) e n Q)))
theorem c118_pq : P2 118 c118 :=
  p2 func118 139 fun e n Q => (w_seq (w_seq (w_seq (w_seq w_any (w_seq (w_cond (w_seq (wA (J4 (c118j92 e n Q) 0 1 4 6) (w_seq (w_seq (w_seq (wA (J6 (c118j104 e n Q) 0 1 4 6 9 10) w_any) (w_block (wL (fun m => J6 (c118l154 e n Q m) 0 1 4 6 9 10) (fun a => w_any)))) w_any) w_any)) (w_block (wL (fun m => J4 (c118l194 e n Q m) 0 1 4 6) (fun a => w_any)))) w_any) w_any)) (w_seq (w_cond (w_seq (wA (J4 (c118j8 e n Q) 0 1 4 6) (w_seq (w_seq (w_seq (w_seq (wA (J2 (c118j38 e n Q) 4 7) w_any) w_any) w_any) w_any) w_any)) (w_block (wL (fun m => J4 (c118l50 e n Q m) 0 1 4 6) (fun a => w_any)))) w_any) w_any)) w_any) w_any)
def c119 : F1 :=
  fun a => oBx zT fun b => dS (dV (dNil a fun c => dFL 0 c fun c => dV (dNil a fun a => dFL 1 a fun a => dIA 6 c a fun a => dLoadN 6 a fun a => dStore 6 a b fun _ => dE [0, 1, 3, 7, 0, 16, 48, 112, 255, 511, 1023] (rF (fun s => [qCell (qLoadN 6 b) s]) e n Q))))
theorem c119_pq : P1 119 c119 :=
  p1 func119 13 fun e n Q => w_any
def c120 : F2 :=
  fun a b => oC 119 [a] fun c => oBx zT fun d => oStore 6 c d fun _ => oNFL 2 a fun a => oEql3 a (I 0) fun a => hQT a (qFA 0 d) fun c => hQT a (qLoad1 c) fun c => hQT a (qEql3 c (I 3)) fun c => hVT a c fun c => hQF c (qFA 0 d) fun g => hQF c (qLoad1 g) fun g => hQF c (qEql3 g (I 4)) fun g => hQT a (qPick c bT g) fun c => oPick a c bF fun a => hQT a (qFA 1 d) fun c => hQT a (qLoad1 c) fun c => hVT a b fun b => hQT a (qB .eql 9 c b) fun b => oPick a b bF fun a => oAsg a fun a => r1 a e n Q
theorem c120_pq : P2 120 c120 :=
  p2 func120 29 fun e n Q => w_any
def c121j0 : F1 :=
  fun a => oNFL 0 a fun b => oLenL b fun b => oSub3 b (I 1) fun b => oNil a fun a => oFS 1 1 b a fun _ => r0 e n Q
def c121 : F2 :=
  fun a b => oNFL 2 a fun c => oEql3 c (I 0) fun c => cN c (oNil a fun c => oFS 2 1 b c fun _ => dS (dV (dV (dNil a fun b => dFL 0 b fun b => dV (dNil a fun c => dFL 1 c fun c => dIA 6 b c fun b => dFL 5 b fun b => dNil a fun c => dFA 3 c fun c => dStore 1 b c fun _ => dE [0, 0, 2, 6, 14, 0, 32, 96, 224, 510, 1022, 2046, 4095, 8191, 16383] (c121j0 e n Q a)))))) (c121j0 e n Q a)
theorem c121_pq : P2 121 c121 :=
  p2 func121 36 fun e n Q => (w_seq (wA (J1 (c121j0 e n Q) 0) w_any) w_any)
def c122 : F3 :=
  fun a b c => oGeq3 b c fun b => cN b (oC 121 [a, I 2] fun a => r1 bT e n Q) (r1 bF e n Q)
theorem c122_pq : P3 122 c122 :=
  p3 func122 12 fun e n Q => w_any
def c107j4 : F2 :=
  fun a b => oLoadN 1 b fun b => oStore 1 b a fun _ => rF (fun s => [qCell (qLoadN 1 a) s]) e n Q
def c107l12b (a : F3) : F3 :=
  fun b c d => oNFL 2 b fun g => oEql3 g (I 0) fun g => hVT g b fun h => hCT g 119 [h] fun h => hQT g (qF1 0 h) fun h => hQT g (qNeq3 h (I 5)) fun h => oPick g h bF fun g => cN g (oC 120 [b, (.str ⟨#[110, 111, 100, 101]⟩)] fun g => oAsg g fun g => oUn .not g fun g => cN g (oC 121 [b, I 12] fun g => c107j4 e n Q c d) (oFL 0 d fun g => oLenL g fun g => oCA 122 [b, g, I 60] fun g => cN g (c107j4 e n Q c d) (dS (dFL 0 d fun g => dV (dC 123 [b] fun h => dBsl 6 [h] fun h => dApp 6 120 g h fun g => dFA 0 d fun h => dStore 1 g h fun _ => dE [0, 1, 0, 4, 12, 31, 63, 127] (a b c d)))))) (c107j4 e n Q c d)
def c107l12 : Nat → F3
  | 0 => N3
  | m + 1 => c107l12b e n Q (c107l12  m)
def c107 : F1 :=
  fun a => oBx [.nil] fun b => oBx [.nil] fun c => e3 (c107l12 e n Q) a b c
theorem c107_pq : P1 107 c107 :=
  p1 func107 37 fun e n Q => (w_seq (w_seq (w_seq (wA (J2 (c107j4 e n Q) 2 3) w_any) (w_block (wL (fun m => J3 (c107l12 e n Q m) 0 2 3) (fun a => w_any)))) w_any) w_any)
def c123j49 : F3 :=
  fun a b c => oC 145 [a, (.str ⟨#[108, 101, 116]⟩)] fun d => oC 150 [a] fun d => oFS 4 1 d c fun _ => oC 145 [a, (.str ⟨#[116, 101, 108]⟩)] fun a => oLoadN 6 c fun a => oStore 6 a b fun _ => rF (fun s => [qCell (qLoadN 6 b) s]) e n Q
def c123j26 : F3 :=
  fun a b c => oC 145 [a, (.str ⟨#[41]⟩)] fun d => oC 145 [a, (.str ⟨#[114, 101, 116, 117, 114, 110, 115]⟩)] fun d => oC 145 [a, (.str ⟨#[40]⟩)] fun d => oC 147 [a] fun d => oFS 2 1 d c fun _ => oC 145 [a, (.str ⟨#[41]⟩)] fun d => oC 148 [a, (.str ⟨#[118, 97, 114]⟩)] fun d => oAsg d fun d => cN d (oC 149 [a] fun d => oFS 3 1 d c fun _ => c123j49 e n Q a b c) (c123j49 e n Q a b c)
def c123 : F1 :=
  fun a => oBx zS fun b => oC 119 [a] fun c => oF1 5 c fun c => oBuild zS [(some (5, 1), c)] fun c => oBx zS fun d => oStore 6 c d fun _ => oC 145 [a, (.str ⟨#[110, 111, 100, 101]⟩)] fun c => oC 146 [a] fun c => oFS 0 1 c d fun _ => oC 145 [a, (.str ⟨#[40]⟩)] fun c => oC 120 [a, (.str ⟨#[41]⟩)] fun c => oAsg c fun c => oUn .not c fun c => cN c (oC 147 [a] fun c => oFS 1 1 c d fun _ => c123j26 e n Q a b d) (c123j26 e n Q a b d)
theorem c123_pq : P1 123 c123 :=
  p1 func123 49 fun e n Q => (w_seq (w_seq (w_seq (w_seq (w_seq (w_seq (w_seq (wA (J3 (c123j26 e n Q) 0 2 3) (w_seq (w_seq (w_seq (w_seq (w_seq (w_seq (w_seq (wA (J3 (c123j49 e n Q) 0 2 3) w_any) w_any) w_any) w_any) w_any) w_any) w_any) w_any)) w_any) w_any) w_any) w_any) w_any) w_any) w_any)
def c139 : F1 :=
  fun a => oBin .geq 5 a (.int .u8 97) fun b => hVT b a fun c => hQT b (qB .leq 5 c (.int .u8 122)) fun c => oPick b c bF fun b => hVF b a fun c => hQF b (qB .geq 5 c (.int .u8 65)) fun c => hVF b c fun c => hVT c a fun d => hQT c (qB .leq 5 d (.int .u8 90)) fun d => hQF b (qPick c d bF) fun c => oPick b bT c fun b => hVF b a fun a => hQF b (qB .eql 5 a (.int .u8 95)) fun a => oPick b bT a fun a => oAsg a fun a => r1 a e n Q
theorem c139_pq : P1 139 c139 :=
  p1 func139 21 fun e n Q => w_any
def c140 : F1 :=
  fun a => oBin .geq 5 a (.int .u8 48) fun b => hVT b a fun a => hQT b (qB .leq 5 a (.int .u8 57)) fun a => oPick b a bF fun a => oAsg a fun a => r1 a e n Q
theorem c140_pq : P1 140 c140 :=
  p1 func140 9 fun e n Q => w_any
def c141j4 : F1 :=
  fun a => cN a (r1 bT e n Q) (r1 bF e n Q)
def c141 : F1 :=
  fun a => oC 142 [a] fun b => oGtr3 b (I 0) fun b => cN b (r1 bT e n Q) (oBin .eql 9 a (.str ⟨#[110, 111, 100, 101]⟩) fun b => oAsg b fun b => cN b (c141j4 e n Q b) (oBin .eql 9 a (.str ⟨#[114, 101, 116, 117, 114, 110, 115]⟩) fun b => oAsg b fun b => cN b (c141j4 e n Q b) (oBin .eql 9 a (.str ⟨#[118, 97, 114]⟩) fun b => oAsg b fun b => cN b (c141j4 e n Q b) (oBin .eql 9 a (.str ⟨#[108, 101, 116]⟩) fun b => oAsg b fun b => cN b (c141j4 e n Q b) (oBin .eql 9 a (.str ⟨#[116, 101, 108]⟩) fun b => oAsg b fun b => cN b (c141j4 e n Q b) (oBin .eql 9 a (.str ⟨#[105, 102]⟩) fun b => oAsg b fun b => cN b (c141j4 e n Q b) (oBin .eql 9 a (.str ⟨#[116, 104, 101, 110]⟩) fun b => oAsg b fun b => cN b (c141j4 e n Q b) (oBin .eql 9 a (.str ⟨#[101, 108, 115, 101]⟩) fun b => oAsg b fun b => cN b (c141j4 e n Q b) (oBin .eql 9 a (.str ⟨#[110, 111, 116]⟩) fun b => oAsg b fun b => cN b (c141j4 e n Q b) (oBin .eql 9 a (.str ⟨#[97, 110, 100]⟩) fun b => oAsg b fun b => cN b (c141j4 e n Q b) (oBin .eql 9 a (.str ⟨#[111, 114]⟩) fun b => oAsg b fun b => cN b (c141j4 e n Q b) (oBin .eql 9 a (.str ⟨#[120, 111, 114]⟩) fun b => oAsg b fun b => cN b (c141j4 e n Q b) (oBin .eql 9 a (.str ⟨#[109, 111, 100]⟩) fun b => oAsg b fun b => cN b (c141j4 e n Q b) (oBin .eql 9 a (.str ⟨#[112, 114, 101]⟩) fun b => oAsg b fun b => cN b (c141j4 e n Q b) (oBin .eql 9 a (.str ⟨#[102, 98, 121]⟩) fun b => oAsg b fun b => cN b (c141j4 e n Q b) (oBin .eql 9 a (.str ⟨#[119, 104, 101, 110]⟩) fun b => oAsg b fun b => cN b (c141j4 e n Q b) (oBin .eql 9 a (.str ⟨#[109, 101, 114, 103, 101]⟩) fun b => oAsg b fun b => cN b (c141j4 e n Q b) (oBin .eql 9 a (.str ⟨#[99, 97, 115, 116]⟩) fun b => oAsg b fun b => cN b (c141j4 e n Q b) (oBin .eql 9 a (.str ⟨#[116, 105, 99, 107]⟩) fun b => oAsg b fun b => cN b (c141j4 e n Q b) (oBin .eql 9 a (.str ⟨#[114, 101, 115, 101, 116]⟩) fun b => oAsg b fun b => cN b (c141j4 e n Q b) (oBin .eql 9 a (.str ⟨#[114, 101, 112]⟩) fun b => oAsg b fun b => cN b (c141j4 e n Q b) (oBin .eql 9 a (.str ⟨#[109, 97, 112]⟩) fun b => oAsg b fun b => cN b (c141j4 e n Q b) (oBin .eql 9 a (.str ⟨#[102, 111, 108, 100]⟩) fun b => oAsg b fun b => cN b (c141j4 e n Q b) (oBin .eql 9 a (.str ⟨#[111, 110]⟩) fun b => oAsg b fun b => cN b (c141j4 e n Q b) (oBin .eql 9 a (.str ⟨#[116, 114, 117, 101]⟩) fun b => oAsg b fun b => cN b (c141j4 e n Q b) (oBin .eql 9 a (.str ⟨#[102, 97, 108, 115, 101]⟩) fun b => oAsg b fun b => cN b (c141j4 e n Q b) (oBin .eql 9 a (.str ⟨#[97, 117, 116, 111, 109, 97, 116, 111, 110]⟩) fun b => oAsg b fun b => cN b (c141j4 e n Q b) (oBin .eql 9 a (.str ⟨#[115, 116, 97, 116, 101]⟩) fun b => oAsg b fun b => cN b (c141j4 e n Q b) (oBin .eql 9 a (.str ⟨#[100, 111]⟩) fun b => oAsg b fun b => cN b (c141j4 e n Q b) (oBin .eql 9 a (.str ⟨#[117, 110, 108, 101, 115, 115]⟩) fun b => oAsg b fun b => cN b (c141j4 e n Q b) (oBin .eql 9 a (.str ⟨#[117, 110, 116, 105, 108]⟩) fun b => oAsg b fun b => cN b (c141j4 e n Q b) (oBin .eql 9 a (.str ⟨#[99, 111, 110, 116, 105, 110, 117, 101]⟩) fun b => oAsg b fun b => cN b (c141j4 e n Q b) (oBin .eql 9 a (.str ⟨#[101, 110, 100]⟩) fun a => oAsg a fun a => c141j4 e n Q a)))))))))))))))))))))))))))))))))
theorem c141_pq : P1 141 c141 :=
  p1 func141 41 fun e n Q => (w_seq (w_seq (w_seq w_any (w_seq (w_block (w_seq (wA (J1 (c141j4 e n Q) 7) w_any) w_any)) w_any)) w_any) w_any)
def c142j4 : F0 :=
  r1 (I 0) e n Q
def c142l6b (a : F3) : F3 :=
  fun b c d => oLenL c fun g => oLss3 d g fun g => cN g (oIA 1 c d fun g => oLoad1 g fun g => oBin .eql 9 g b fun g => cN g (oAdd3A d (I 1) fun g => r1 g e n Q) (oAdd3A d (I 1) fun d => a b c d)) (c142j4 e n Q)
def c142l6 : Nat → F3
  | 0 => N3
  | m + 1 => c142l6b e n Q (c142l6  m)
def c142 : F1 :=
  fun a => oBsl 1 [(.str ⟨#[98, 111, 111, 108]⟩), (.str ⟨#[105, 56]⟩), (.str ⟨#[105, 49, 54]⟩), (.str ⟨#[105, 51, 50]⟩), (.str ⟨#[105, 54, 52]⟩), (.str ⟨#[117, 56]⟩), (.str ⟨#[117, 49, 54]⟩), (.str ⟨#[117, 51, 50]⟩), (.str ⟨#[117, 54, 52]⟩)] fun b => oAsg b fun b => e3 (c142l6 e n Q) a b (I 0)
theorem c142_pq : P1 142 c142 :=
  p1 func142 20 fun e n Q => (w_seq (w_seq (w_seq (wA (J0 (c142j4 e n Q)) w_any) (w_seq (w_block (wL (fun m => J3 (c142l6 e n Q m) 0 3 4) (fun a => w_any))) w_any)) w_any) w_any)
def c144j6 : F1 :=
  fun a => cN a (r1 (I 1) e n Q) (r1 (I 0) e n Q)
def c144j0 : F2 :=
  fun a b => oIS a b fun a => oBin .eql 5 a (.int .u8 40) fun b => oAsg b fun b => cN b (c144j6 e n Q b) (oBin .eql 5 a (.int .u8 41) fun b => oAsg b fun b => cN b (c144j6 e n Q b) (oBin .eql 5 a (.int .u8 91) fun b => oAsg b fun b => cN b (c144j6 e n Q b) (oBin .eql 5 a (.int .u8 93) fun b => oAsg b fun b => cN b (c144j6 e n Q b) (oBin .eql 5 a (.int .u8 44) fun b => oAsg b fun b => cN b (c144j6 e n Q b) (oBin .eql 5 a (.int .u8 59) fun b => oAsg b fun b => cN b (c144j6 e n Q b) (oBin .eql 5 a (.int .u8 58) fun b => oAsg b fun b => cN b (c144j6 e n Q b) (oBin .eql 5 a (.int .u8 61) fun b => oAsg b fun b => cN b (c144j6 e n Q b) (oBin .eql 5 a (.int .u8 60) fun b => oAsg b fun b => cN b (c144j6 e n Q b) (oBin .eql 5 a (.int .u8 62) fun b => oAsg b fun b => cN b (c144j6 e n Q b) (oBin .eql 5 a (.int .u8 43) fun b => oAsg b fun b => cN b (c144j6 e n Q b) (oBin .eql 5 a (.int .u8 45) fun b => oAsg b fun b => cN b (c144j6 e n Q b) (oBin .eql 5 a (.int .u8 42) fun b => oAsg b fun b => cN b (c144j6 e n Q b) (oBin .eql 5 a (.int .u8 47) fun b => oAsg b fun b => cN b (c144j6 e n Q b) (oBin .eql 5 a (.int .u8 38) fun b => oAsg b fun b => cN b (c144j6 e n Q b) (oBin .eql 5 a (.int .u8 124) fun b => oAsg b fun b => cN b (c144j6 e n Q b) (oBin .eql 5 a (.int .u8 94) fun a => oAsg a fun a => c144j6 e n Q a))))))))))))))))
def c144j87 : F3 :=
  fun a b c => cN c (r1 (I 2) e n Q) (c144j0 e n Q a b)
def c144 : F2 :=
  fun a b => oAdd3 b (I 2) fun c => oLenS a fun d => oLeq3 c d fun c => cN c (oAdd3 b (I 2) fun c => oSlS true true a [b, c] fun c => oBin .eql 9 c (.str ⟨#[45, 62]⟩) fun d => oAsg d fun d => cN d (c144j87 e n Q a b d) (oBin .eql 9 c (.str ⟨#[61, 62]⟩) fun d => oAsg d fun d => cN d (c144j87 e n Q a b d) (oBin .eql 9 c (.str ⟨#[60, 62]⟩) fun d => oAsg d fun d => cN d (c144j87 e n Q a b d) (oBin .eql 9 c (.str ⟨#[60, 61]⟩) fun d => oAsg d fun d => cN d (c144j87 e n Q a b d) (oBin .eql 9 c (.str ⟨#[62, 61]⟩) fun d => oAsg d fun d => cN d (c144j87 e n Q a b d) (oBin .eql 9 c (.str ⟨#[60, 60]⟩) fun d => oAsg d fun d => cN d (c144j87 e n Q a b d) (oBin .eql 9 c (.str ⟨#[62, 62]⟩) fun c => oAsg c fun c => c144j87 e n Q a b c))))))) (c144j0 e n Q a b)
theorem c144_pq : P2 144 c144 :=
  p2 func144 44 fun e n Q => (w_seq (w_seq (wA (J2 (c144j0 e n Q) 0 1) (w_seq w_any (w_seq (w_block (w_seq (wA (J1 (c144j6 e n Q) 26) w_any) w_any)) w_any))) (w_seq (w_cond (w_seq (w_block (w_seq (wA (J3 (c144j87 e n Q) 0 1 15) w_any) w_any)) w_any) w_any) w_any)) w_any)
def c145 : F2 :=
  fun a b => oCA 120 [a, b] fun b => oUn .not b fun b => cN b (oC 121 [a, I 12] fun b => r0 e n Q) (oNFL 1 a fun b => oAdd3 b (I 1) fun b => oNil a fun a => oFS 1 1 b a fun _ => r0 e n Q)
theorem c145_pq : P2 145 c145 :=
  p2 func145 19 fun e n Q => w_any
def c146 : F1 :=
  fun a => oC 119 [a] fun b => oBx zT fun c => oStore 6 b c fun _ => oNFL 2 a fun b => oNeq3 b (I 0) fun b => hQF b (qFA 0 c) fun d => hQF b (qLoad1 d) fun d => hQF b (qNeq3 d (I 1)) fun d => oPick b bT d fun b => cN b (oC 121 [a, I 12] fun b => r1 S0 e n Q) (oNFL 1 a fun b => oAdd3 b (I 1) fun b => oNil a fun a => oFS 1 1 b a fun _ => oFL 1 c fun a => oAsg a fun a => r1 a e n Q)
theorem c146_pq : P1 146 c146 :=
  p1 func146 27 fun e n Q => w_any
def c148j4 : F1 :=
  fun a => oAsg a fun a => r1 a e n Q
def c148 : F2 :=
  fun a b => oCA 120 [a, b] fun b => cN b (oNFL 1 a fun c => oAdd3 c (I 1) fun c => oNil a fun a => oFS 1 1 c a fun _ => c148j4 e n Q b) (c148j4 e n Q b)
theorem c148_pq : P2 148 c148 :=
  p2 func148 18 fun e n Q => (w_seq (w_seq (w_seq (wA (J1 (c148j4 e n Q) 5) w_any) w_any) w_any) w_any)
def c150j26 (a : F2) : F1 :=
  fun a => oAsg a fun a => r1 a e n Q
def c150l4b (a : F2) : F2 :=
  fun b c => oNFL 2 b fun d => oNeq3 d (I 0) fun d => cN d (oAsg c fun d => r1 d e n Q) (oCA 161 [b] fun d => oUn .not d fun d => cN d (oLenL c fun d => oEql3 d (I 0) fun d => cN d (oC 121 [b, I 12] fun d => c150j26 e n Q a c) (c150j26 e n Q a c)) (oLenL c fun d => oCA 122 [b, d, I 200] fun d => cN d (oAsg c fun d => r1 d e n Q) (oC 162 [b] fun d => oBsl 12 [d] fun d => oApp 12 152 c d fun c => oAsg c fun c => a b c)))
def c150l4 : Nat → F2
  | 0 => N2
  | m + 1 => c150l4b e n Q (c150l4  m)
def c150 : F1 :=
  fun a => oOwn fun b => oOwn fun b => e2 (c150l4 e n Q) a b
theorem c150_pq : P1 150 c150 :=
  p1 func150 33 fun e n Q => (w_seq (w_seq (w_block (wL (fun m => J2 (c150l4 e n Q m) 0 3) (fun a => (w_block (w_seq (w_seq (w_seq w_any (w_seq (w_cond (w_seq (wA (J1 (c150j26 e n Q (c150l4 e n Q a)) 3) w_any) w_any) w_any) w_any)) w_any) w_any))))) w_any) w_any)
def c160j4 : F1 :=
  fun a => oAsg a fun a => r1 a e n Q
def c160l9b (a : F2) : F2 :=
  fun b c => oNFL 2 b fun d => oEql3 d (I 0) fun d => cN d (oC 165 [b] fun d => oBsl 2 [d] fun d => oApp 2 24 c d fun d => oAsg d fun d => oC 120 [b, (.str ⟨#[97, 110, 100]⟩)] fun g => oAsg g fun g => oUn .not g fun g => cN g (c160j4 e n Q d) (oNFL 1 b fun g => oAdd3 g (I 1) fun g => oNil b fun h => oFS 1 1 g h fun _ => oLenL d fun g => oCA 122 [b, g, I 16] fun g => cN g (c160j4 e n Q d) (a b d))) (c160j4 e n Q c)
def c160l9 : Nat → F2
  | 0 => N2
  | m + 1 => c160l9b e n Q (c160l9  m)
def c160 : F1 :=
  fun a => oOwn fun b => oOwn fun b => e2 (c160l9 e n Q) a b
theorem c160_pq : P1 160 c160 :=
  p1 func160 33 fun e n Q => (w_seq (w_seq (w_seq (wA (J1 (c160j4 e n Q) 3) w_any) (w_block (wL (fun m => J2 (c160l9 e n Q m) 0 3) (fun a => w_any)))) w_any) w_any)
def c161 : F1 :=
  fun a => oNFL 2 a fun b => oNeq3 b (I 0) fun b => cN b (r1 bF e n Q) (oC 120 [a, (.str ⟨#[97, 117, 116, 111, 109, 97, 116, 111, 110]⟩)] fun b => oAsg b fun b => oC 120 [a, (.str ⟨#[40]⟩)] fun c => oAsg c fun c => hVF b c fun c => oPick b bT c fun b => hVF b a fun a => hCF b 119 [a] fun a => hQF b (qF1 0 a) fun a => hQF b (qEql3 a (I 1)) fun a => oPick b bT a fun a => oAsg a fun a => r1 a e n Q)
theorem c161_pq : P1 161 c161 :=
  p1 func161 24 fun e n Q => w_any
def c162j58 : F3 :=
  fun a b c => oC 145 [a, (.str ⟨#[101, 110, 100]⟩)] fun d => oNFL 4 a fun d => oSub3 d (I 1) fun d => oNil a fun a => oFS 4 1 d a fun _ => oLoadN 12 c fun a => oStore 12 a b fun _ => rF (fun s => [qCell (qLoadN 12 b) s]) e n Q
def c162j104 (a : F3) : F3 :=
  fun a b c => c162j58 e n Q a b c
def c162l83b (a : F3) : F3 :=
  fun b c d => oNFL 2 b fun g => oEql3 g (I 0) fun g => cN g (oC 120 [b, (.str ⟨#[115, 116, 97, 116, 101]⟩)] fun g => oAsg g fun g => oUn .not g fun g => cN g (oFL 10 d fun g => oLenL g fun g => oEql3 g (I 0) fun g => cN g (oC 121 [b, I 12] fun g => c162j104 e n Q a b c d) (c162j104 e n Q a b c d)) (oFL 10 d fun g => oLenL g fun g => oCA 122 [b, g, I 16] fun g => cN g (c162j58 e n Q b c d) (dS (dFL 10 d fun g => dV (dC 166 [b] fun h => dBsl 6 [h] fun h => dApp 6 120 g h fun g => dFA 10 d fun h => dStore 1 g h fun _ => dE [0, 1, 0, 4, 12, 31, 63, 127] (a b c d)))))) (c162j58 e n Q b c d)
def c162l83 : Nat → F3
  | 0 => N3
  | m + 1 => c162l83b e n Q (c162l83  m)
def c162j161 : F3 :=
  fun a b c => oC 145 [a, (.str ⟨#[61]⟩)] fun d => oC 167 [a] fun d => oFS 1 9 d c fun _ => oC 145 [a, (.str ⟨#[59]⟩)] fun a => oLoadN 12 c fun a => oStore 12 a b fun _ => rF (fun s => [qCell (qLoadN 12 b) s]) e n Q
def c162j190 : F3 :=
  fun a b c => oC 145 [a, (.str ⟨#[41]⟩)] fun d => c162j161 e n Q a b c
def c162j212 (a : F3) : F3 :=
  fun b c d => dS (dFL 0 d fun g => dV (dC 146 [b] fun h => dBsl 1 [h] fun h => dApp 1 16 g h fun g => dFA 0 d fun h => dStore 1 g h fun _ => dE [0, 1, 0, 4, 12, 31, 63, 127] (oC 148 [b, (.str ⟨#[44]⟩)] fun g => oAsg g fun g => oUn .not g fun g => cN g (c162j190 e n Q b c d) (a b c d))))
def c162l197b (a : F3) : F3 :=
  fun b c d => oNFL 2 b fun g => oEql3 g (I 0) fun g => cN g (oC 119 [b] fun g => oF1 0 g fun g => oEql3 g (I 1) fun g => cN g (oFL 0 d fun g => oLenL g fun g => oCA 122 [b, g, I 16] fun g => cN g (oLoadN 12 d fun g => oStore 12 g c fun _ => rF (fun s => [qCell (qLoadN 12 c) s]) e n Q) (c162j212 e n Q a b c d)) (c162j212 e n Q a b c d)) (c162j190 e n Q b c d)
def c162l197 : Nat → F3
  | 0 => N3
  | m + 1 => c162l197b e n Q (c162l197  m)
def c162 : F1 :=
  fun a => oBx zI fun b => oC 119 [a] fun c => oF1 5 c fun c => oBuild zI [(some (11, 1), c)] fun c => oBx zI fun d => oStore 12 c d fun _ => oC 120 [a, (.str ⟨#[97, 117, 116, 111, 109, 97, 116, 111, 110]⟩)] fun c => oAsg c fun c => cN c (oNFL 4 a fun c => oAdd3 c (I 1) fun c => oNil a fun g => oFS 4 1 c g fun _ => oNFL 4 a fun c => oGtr3 c (I 40) fun c => cN c (oC 121 [a, I 2] fun c => oLoadN 12 d fun c => oStore 12 c b fun _ => rF (fun s => [qCell (qLoadN 12 b) s]) e n Q) (oNFL 1 a fun c => oAdd3 c (I 1) fun c => oNil a fun g => oFS 1 1 c g fun _ => e3 (c162l83 e n Q) a b d)) (oC 148 [a, (.str ⟨#[40]⟩)] fun c => oAsg c fun c => oUn .not c fun c => cN c (oC 146 [a] fun c => oBsl 1 [c] fun c => oFS 0 1 c d fun _ => c162j161 e n Q a b d) (e3 (c162l197 e n Q) a b d))
theorem c162_pq : P1 162 c162 :=
  p1 func162 122 fun e n Q => (w_seq (w_seq (w_seq (w_seq (w_seq (w_seq (wA (J3 (c162j161 e n Q) 0 2 3) w_any) (w_seq (w_cond w_any (w_seq (wA (J3 (c162j190 e n Q) 0 2 3) w_any) (w_block (wL (fun m => J3 (c162l197 e n Q m) 0 2 3) (fun a => (w_seq (w_block (w_seq (wA (J3 (c162j212 e n Q (c162l197 e n Q a)) 0 2 3) w_any) w_any)) w_any)))))) w_any)) w_any) (w_seq (w_cond (w_seq (w_seq (w_seq (w_seq (wA (J3 (c162j58 e n Q) 0 2 3) w_any) (w_block (wL (fun m => J3 (c162l83 e n Q m) 0 2 3) (fun a => (w_seq (w_block (w_seq (w_seq w_any (w_seq (w_cond (w_seq (wA (J3 (c162j104 e n Q (c162l83 e n Q a)) 0 2 3) w_any) w_any) w_any) w_any)) w_any)) w_any))))) w_any) w_any) w_any) w_any) w_any)) w_any) w_any) w_any)
def c163 : F1 :=
  fun a => oC 119 [a] fun b => oBx zT fun c => oStore 6 b c fun _ => oNFL 2 a fun b => oNeq3 b (I 0) fun b => hQF b (qFA 0 c) fun d => hQF b (qLoad1 d) fun d => hQF b (qNeq3 d (I 3)) fun d => oPick b bT d fun b => hQF b (qFA 1 c) fun d => hQF b (qLoad1 d) fun d => hCF b 142 [d] fun d => hQF b (qEql3 d (I 0)) fun d => oPick b bT d fun b => cN b (oC 121 [a, I 12] fun b => r1 (I 0) e n Q) (oNFL 1 a fun b => oAdd3 b (I 1) fun b => oNil a fun a => oFS 1 1 b a fun _ => oFL 1 c fun a => oCA 142 [a] fun a => r1 a e n Q)
theorem c163_pq : P1 163 c163 :=
  p1 func163 34 fun e n Q => w_any
def c165 : F1 :=
  fun a => oBx [S0, bF] fun b => oC 148 [a, (.str ⟨#[110, 111, 116]⟩)] fun c => oAsg c fun c => oUn .not c fun c => oC 146 [a] fun a => oBuild [S0, bF] [(some (1, 1), c), (some (0, 1), a)] fun a => oStore 2 a b fun _ => rF (fun s => [qCell (qLoadN 2 b) s]) e n Q
theorem c165_pq : P1 165 c165 :=
  p1 func165 11 fun e n Q => w_any
def c167 : F1 :=
  fun a => oBx zE fun b => oCA 169 [a] fun c => oUn .not c fun c => cN c (oBuild zE [] fun c => oStore 9 c b fun _ => rF (fun s => [qCell (qLoadN 9 b) s]) e n Q) (oC 170 [a] fun c => oBx zE fun d => oStore 9 c d fun _ => oNFL 4 a fun c => oSub3 c (I 1) fun c => oNil a fun a => oFS 4 1 c a fun _ => oLoadN 9 d fun a => oStore 9 a b fun _ => rF (fun s => [qCell (qLoadN 9 b) s]) e n Q)
theorem c167_pq : P1 167 c167 :=
  p1 func167 20 fun e n Q => w_any
def c169 : F1 :=
  fun a => oNFL 4 a fun b => oAdd3 b (I 1) fun b => oNil a fun c => oFS 4 1 b c fun _ => oNFL 4 a fun b => oGtr3 b (I 40) fun b => cN b (oC 121 [a, I 2] fun a => r1 bF e n Q) (r1 bT e n Q)
theorem c169_pq : P1 169 c169 :=
  p1 func169 17 fun e n Q => w_any
def c170 : F1 :=
  fun a => oBx zE fun b => oC 171 [a] fun c => oBx zE fun d => oStore 9 c d fun _ => oC 148 [a, (.str ⟨#[45, 62]⟩)] fun c => oAsg c fun c => oUn .not c fun c => cN c (oLoadN 9 d fun c => oStore 9 c b fun _ => rF (fun s => [qCell (qLoadN 9 b) s]) e n Q) (oC 170 [a] fun a => oBx zE fun c => oStore 9 a c fun _ => oLoadN 9 d fun a => oLoadN 9 c fun c => oC 172 [I 7, I 0, a, c] fun a => oStore 9 a b fun _ => rF (fun s => [qCell (qLoadN 9 b) s]) e n Q)
theorem c170_pq : P1 170 c170 :=
  p1 func170 18 fun e n Q => w_any
def c171 : F1 :=
  fun a => oBx zE fun b => oC 173 [a] fun c => oBx zE fun d => oStore 9 c d fun _ => oC 148 [a, (.str ⟨#[102, 98, 121]⟩)] fun c => oAsg c fun c => oUn .not c fun c => cN c (oLoadN 9 d fun c => oStore 9 c b fun _ => rF (fun s => [qCell (qLoadN 9 b) s]) e n Q) (oC 171 [a] fun a => oBx zE fun c => oStore 9 a c fun _ => oLoadN 9 d fun a => oLoadN 9 c fun c => oC 172 [I 8, I 0, a, c] fun a => oStore 9 a b fun _ => rF (fun s => [qCell (qLoadN 9 b) s]) e n Q)
theorem c171_pq : P1 171 c171 :=
  p1 func171 18 fun e n Q => w_any
def c172 : F4 :=
  fun a b c d => oBox c fun c => oBox d fun d => oBx zE fun g => oLoadN 9 c fun h => oLoadN 9 d fun d => oBsl 9 [h, d] fun d => oFL 8 c fun c => oBuild zE [(some (0, 1), a), (some (1, 1), b), (some (7, 1), d), (some (8, 1), c)] fun a => oStore 9 a g fun _ => rF (fun s => [qCell (qLoadN 9 g) s]) e n Q
theorem c172_pq : P4 172 c172 :=
  p4 func172 17 fun e n Q => w_any
def c173 : F1 :=
  fun a => oBx zE fun b => oC 174 [a, I 0] fun c => oBx zE fun d => oStore 9 c d fun _ => oC 148 [a, (.str ⟨#[61, 62]⟩)] fun c => oAsg c fun c => oUn .not c fun c => cN c (oLoadN 9 d fun c => oStore 9 c b fun _ => rF (fun s => [qCell (qLoadN 9 b) s]) e n Q) (oC 173 [a] fun a => oBx zE fun c => oStore 9 a c fun _ => oLoadN 9 d fun a => oLoadN 9 c fun c => oC 172 [I 4, I 11, a, c] fun a => oStore 9 a b fun _ => rF (fun s => [qCell (qLoadN 9 b) s]) e n Q)
theorem c173_pq : P1 173 c173 :=
  p1 func173 18 fun e n Q => w_any
def c174j16 : F2 :=
  fun a b => oLoadN 9 b fun b => oStore 9 b a fun _ => rF (fun s => [qCell (qLoadN 9 a) s]) e n Q
def c174l24b (a : F4) : F4 :=
  fun b c d g => oNFL 2 b fun h => oEql3 h (I 0) fun h => cN h (oCA 176 [b, c] fun h => oEql3 h (I 0) fun i => cN i (c174j16 e n Q d g) (oNFL 1 b fun i => oAdd3 i (I 1) fun i => oNil b fun j => oFS 1 1 i j fun _ => oAdd3 c (I 1) fun i => oC 174 [b, i] fun i => oBx zE fun j => oStore 9 i j fun _ => oLoadN 9 g fun i => oLoadN 9 j fun j => oC 172 [I 4, h, i, j] fun h => oStore 9 h g fun _ => oEql3 c (I 2) fun h => cN h (c174j16 e n Q d g) (a b c d g))) (c174j16 e n Q d g)
def c174l24 : Nat → F4
  | 0 => N4
  | m + 1 => c174l24b e n Q (c174l24  m)
def c174 : F2 :=
  fun a b => oBx zE fun c => oEql3 b (I 8) fun d => cN d (oC 175 [a] fun d => oStore 9 d c fun _ => rF (fun s => [qCell (qLoadN 9 c) s]) e n Q) (oAdd3 b (I 1) fun d => oC 174 [a, d] fun d => oBx zE fun g => oStore 9 d g fun _ => e4 (c174l24 e n Q) a b c g)
theorem c174_pq : P2 174 c174 :=
  p2 func174 44 fun e n Q => (w_seq (w_seq (w_seq (w_seq (wA (J2 (c174j16 e n Q) 4 5) w_any) (w_block (wL (fun m => J4 (c174l24 e n Q m) 0 1 4 5) (fun a => w_any)))) w_any) w_any) w_any)
def c175 : F1 :=
  fun a => oBx zE fun b => oC 120 [a, (.str ⟨#[110, 111, 116]⟩)] fun c => oAsg c fun c => oC 120 [a, (.str ⟨#[45]⟩)] fun d => oAsg d fun d => oC 120 [a, (.str ⟨#[112, 114, 101]⟩)] fun g => oAsg g fun g => oUn .not c fun c => hVT c d fun d => hQT c (qUn .not d) fun d => oPick c d bF fun c => hVT c g fun d => hQT c (qUn .not d) fun d => oPick c d bF fun c => cN c (oC 177 [a] fun c => oStore 9 c b fun _ => rF (fun s => [qCell (qLoadN 9 b) s]) e n Q) (oCA 169 [a] fun c => oUn .not c fun c => cN c (oBuild zE [] fun c => oStore 9 c b fun _ => rF (fun s => [qCell (qLoadN 9 b) s]) e n Q) (oC 177 [a] fun c => oBx zE fun d => oStore 9 c d fun _ => oNFL 4 a fun c => oSub3 c (I 1) fun c => oNil a fun a => oFS 4 1 c a fun _ => oLoadN 9 d fun a => oStore 9 a b fun _ => rF (fun s => [qCell (qLoadN 9 b) s]) e n Q))
theorem c175_pq : P1 175 c175 :=
  p1 func175 41 fun e n Q => w_any
def c176j32 : F0 :=
  r1 (I 0) e n Q
def c176 : F2 :=
  fun a b => oC 119 [a] fun c => oBx zT fun d => oStore 6 c d fun _ => oNFL 2 a fun a => oNeq3 a (I 0) fun a => hQF a (qFA 0 d) fun c => hQF a (qLoad1 c) fun c => hQF a (qNeq3 c (I 3)) fun c => hVF a c fun c => hQT c (qFA 0 d) fun g => hQT c (qLoad1 g) fun g => hQT c (qNeq3 g (I 4)) fun g => hQF a (qPick c g bF) fun c => oPick a bT c fun a => cN a (r1 (I 0) e n Q) (oEql3A b (I 0) fun a => cN a (oFL 1 d fun a => oBin .eql 9 a (.str ⟨#[111, 114]⟩) fun c => oAsg c fun c => cN c (r1 (I 9) e n Q) (oBin .eql 9 a (.str ⟨#[120, 111, 114]⟩) fun a => oAsg a fun a => cN a (r1 (I 10) e n Q) (c176j32 e n Q))) (oEql3A b (I 1) fun a => cN a (oFL 1 d fun a => oBin .eql 9 a (.str ⟨#[97, 110, 100]⟩) fun a => cN a (r1 (I 8) e n Q) (c176j32 e n Q)) (oEql3A b (I 2) fun a => cN a (oFL 1 d fun a => oBin .eql 9 a (.str ⟨#[61]⟩) fun c => oAsg c fun c => cN c (r1 (I 14) e n Q) (oBin .eql 9 a (.str ⟨#[60, 62]⟩) fun c => oAsg c fun c => cN c (r1 (I 15) e n Q) (oBin .eql 9 a (.str ⟨#[60]⟩) fun c => oAsg c fun c => cN c (r1 (I 16) e n Q) (oBin .eql 9 a (.str ⟨#[60, 61]⟩) fun c => oAsg c fun c => cN c (r1 (I 17) e n Q) (oBin .eql 9 a (.str ⟨#[62]⟩) fun c => oAsg c fun c => cN c (r1 (I 18) e n Q) (oBin .eql 9 a (.str ⟨#[62, 61]⟩) fun a => oAsg a fun a => cN a (r1 (I 19) e n Q) (c176j32 e n Q))))))) (oEql3A b (I 3) fun a => cN a (oFL 1 d fun a => oBin .eql 9 a (.str ⟨#[124]⟩) fun c => oAsg c fun c => cN c (r1 (I 9) e n Q) (oBin .eql 9 a (.str ⟨#[94]⟩) fun a => oAsg a fun a => cN a (r1 (I 10) e n Q) (c176j32 e n Q))) (oEql3A b (I 4) fun a => cN a (oFL 1 d fun a => oBin .eql 9 a (.str ⟨#[38]⟩) fun a => cN a (r1 (I 8) e n Q) (c176j32 e n Q)) (oEql3A b (I 5) fun a => cN a (oFL 1 d fun a => oBin .eql 9 a (.str ⟨#[60, 60]⟩) fun c => oAsg c fun c => cN c (r1 (I 12) e n Q) (oBin .eql 9 a (.str ⟨#[62, 62]⟩) fun a => oAsg a fun a => cN a (r1 (I 13) e n Q) (c176j32 e n Q))) (oEql3A b (I 6) fun a => cN a (oFL 1 d fun a => oBin .eql 9 a (.str ⟨#[43]⟩) fun c => oAsg c fun c => cN c (r1 (I 3) e n Q) (oBin .eql 9 a (.str ⟨#[45]⟩) fun a => oAsg a fun a => cN a (r1 (I 4) e n Q) (c176j32 e n Q))) (oEql3A b (I 7) fun a => cN a (oFL 1 d fun a => oBin .eql 9 a (.str ⟨#[42]⟩) fun b => oAsg b fun b => cN b (r1 (I 5) e n Q) (oBin .eql 9 a (.str ⟨#[47]⟩) fun b => oAsg b fun b => cN b (r1 (I 6) e n Q) (oBin .eql 9 a (.str ⟨#[109, 111, 100]⟩) fun a => oAsg a fun a => cN a (r1 (I 7) e n Q) (c176j32 e n Q)))) (c176j32 e n Q)))))))))
theorem c176_pq : P2 176 c176 :=
  p2 func176 92 fun e n Q => (w_seq (w_seq (w_seq (w_seq (wA (J0 (c176j32 e n Q)) w_any) w_any) w_any) w_any) w_any)
def c177 : F1 :=
  fun a => oBx zE fun b => oC 119 [a] fun c => oF1 5 c fun c => oAsg c fun c => oC 148 [a, (.str ⟨#[110, 111, 116]⟩)] fun d => oAsg d fun d => cN d (oC 175 [a] fun d => oBsl 9 [d] fun d => oBuild zE [(some (0, 1), (I 3)), (some (1, 1), (I 1)), (some (7, 1), d), (some (8, 1), c)] fun d => oStore 9 d b fun _ => rF (fun s => [qCell (qLoadN 9 b) s]) e n Q) (oC 148 [a, (.str ⟨#[112, 114, 101]⟩)] fun d => oAsg d fun d => cN d (oC 175 [a] fun d => oBsl 9 [d] fun d => oBuild zE [(some (0, 1), (I 6)), (some (7, 1), d), (some (8, 1), c)] fun d => oStore 9 d b fun _ => rF (fun s => [qCell (qLoadN 9 b) s]) e n Q) (oC 148 [a, (.str ⟨#[45]⟩)] fun d => oAsg d fun d => cN d (oC 119 [a] fun d => oBx zT fun g => oStore 6 d g fun _ => oNFL 2 a fun d => oEql3 d (I 0) fun d => hQT d (qFA 0 g) fun h => hQT d (qLoad1 h) fun h => hQT d (qEql3 h (I 2)) fun h => oPick d h bF fun d => hQT d (qFA 3 g) fun h => hQT d (qFA 0 h) fun h => hQT d (qLoad1 h) fun h => hQT d (qGtr3 h (I 0)) fun h => oPick d h bF fun d => cN d (oNFL 1 a fun d => oAdd3 d (I 1) fun d => oNil a fun h => oFS 1 1 d h fun _ => dS (dFA 3 g fun d => dLoadN 2 d fun d => dFA 3 g fun h => dFL 0 h fun h => dFL 2 g fun g => dUn .neg g fun g => dC 128 [h, g] fun g => dV (dBuild zE [(some (0, 1), (I 1)), (some (3, 2), d), (some (5, 1), g), (some (8, 1), c)] fun d => dBx zE fun g => dStore 9 d g fun _ => dE [0, 1, 0, 4, 12, 0, 32, 96, 252, 0, 1023, 0, 4095] (oLoadN 9 g fun d => oC 178 [a, d] fun d => oStore 9 d b fun _ => rF (fun s => [qCell (qLoadN 9 b) s]) e n Q)))) (oC 175 [a] fun d => oBsl 9 [d] fun d => oBuild zE [(some (0, 1), (I 3)), (some (1, 1), (I 2)), (some (7, 1), d), (some (8, 1), c)] fun c => oStore 9 c b fun _ => rF (fun s => [qCell (qLoadN 9 b) s]) e n Q)) (oC 179 [a] fun c => oC 178 [a, c] fun a => oStore 9 a b fun _ => rF (fun s => [qCell (qLoadN 9 b) s]) e n Q)))
theorem c177_pq : P1 177 c177 :=
  p1 func177 79 fun e n Q => w_any
def c178l4b (a : F3) : F3 :=
  fun b c d => oC 148 [b, (.str ⟨#[91]⟩)] fun g => oAsg g fun g => oUn .not g fun g => cN g (oLoadN 9 c fun g => oStore 9 g d fun _ => rF (fun s => [qCell (qLoadN 9 d) s]) e n Q) (oCA 164 [b] fun g => oC 145 [b, (.str ⟨#[93]⟩)] fun h => oLoadN 9 c fun h => oBsl 9 [h] fun h => oFL 8 c fun i => oBuild zE [(some (0, 1), (I 16)), (some (5, 1), g), (some (7, 1), h), (some (8, 1), i)] fun g => oStore 9 g c fun _ => a b c d)
def c178l4 : Nat → F3
  | 0 => N3
  | m + 1 => c178l4b e n Q (c178l4  m)
def c178 : F2 :=
  fun a b => oBox b fun b => oBx zE fun c => e3 (c178l4 e n Q) a b c
theorem c178_pq : P2 178 c178 :=
  p2 func178 22 fun e n Q => (w_seq (w_block (wL (fun m => J3 (c178l4 e n Q m) 0 3 4) (fun a => w_any))) w_any)
end
end Go.Vi
namespace Go.Vi
open Go.Proofs Go.Proofs.Tryz
section
variable (e n : Nat) (Q : QT)
def c179j30 : F3 :=
  fun a b c => oC 121 [a, I 12] fun a => oLoadN 9 c fun a => oStore 9 a b fun _ => rF (fun s => [qCell (qLoadN 9 b) s]) e n Q
def c179j79 : F2 :=
  fun a b => oLoadN 9 b fun b => oStore 9 b a fun _ => rF (fun s => [qCell (qLoadN 9 a) s]) e n Q
def c179 : F1 :=
  fun a => oBx zE fun b => oC 119 [a] fun c => oBx zT fun d => oStore 6 c d fun _ => oFL 5 d fun c => oBuild zE [(some (8, 1), c)] fun c => oBx zE fun g => oStore 9 c g fun _ => oNFL 2 a fun c => oNeq3 c (I 0) fun c => cN c (oLoadN 9 g fun c => oStore 9 c b fun _ => rF (fun s => [qCell (qLoadN 9 b) s]) e n Q) (oFL 0 d fun c => oEql3A c (I 1) fun h => cN h (oNFL 1 a fun h => oAdd3 h (I 1) fun h => oNil a fun i => oFS 1 1 h i fun _ => oFL 1 d fun h => oFS 2 1 h g fun _ => oFS 0 1 (I 2) g fun _ => oC 120 [a, (.str ⟨#[40]⟩)] fun h => oAsg h fun h => cN h (oFS 0 1 (I 13) g fun _ => oC 180 [a] fun h => oFS 7 1 h g fun _ => c179j79 e n Q b g) (c179j79 e n Q b g)) (oEql3A c (I 2) fun h => cN h (oFA 3 d fun h => oFL 0 h fun h => oC 155 [h] fun h => hQT h (qFA 2 d) fun i => hQT h (qLoad1 i) fun i => hQT h (qLss3 i (I 0)) fun i => oPick h i bF fun h => oAsg h fun h => oFA 3 d fun i => oFL 0 i fun i => oEql3 i (I 0) fun i => hVF i h fun h => oPick i bT h fun h => cN h (oC 121 [a, I 12] fun h => oLoadN 9 g fun h => oStore 9 h b fun _ => rF (fun s => [qCell (qLoadN 9 b) s]) e n Q) (oNFL 1 a fun h => oAdd3 h (I 1) fun h => oNil a fun i => oFS 1 1 h i fun _ => oFS 0 1 (I 1) g fun _ => oFA 3 d fun h => oLoadN 2 h fun h => oFS 3 2 h g fun _ => oFL 2 d fun h => oFS 5 1 h g fun _ => oLoadN 9 g fun h => oStore 9 h b fun _ => rF (fun s => [qCell (qLoadN 9 b) s]) e n Q)) (oEql3A c (I 4) fun h => cN h (oFL 1 d fun h => oBin .eql 9 h (.str ⟨#[40]⟩) fun h => cN h (oNFL 1 a fun h => oAdd3 h (I 1) fun h => oNil a fun i => oFS 1 1 h i fun _ => oC 167 [a] fun h => oBx zE fun i => oStore 9 h i fun _ => oC 145 [a, (.str ⟨#[41]⟩)] fun h => oLoadN 9 i fun h => oStore 9 h b fun _ => rF (fun s => [qCell (qLoadN 9 b) s]) e n Q) (oFL 1 d fun h => oBin .eql 9 h (.str ⟨#[91]⟩) fun h => cN h (oNFL 1 a fun h => oAdd3 h (I 1) fun h => oNil a fun i => oFS 1 1 h i fun _ => oFS 0 1 (I 15) g fun _ => oC 181 [a, I 0] fun h => oFS 7 1 h g fun _ => oC 145 [a, (.str ⟨#[93]⟩)] fun h => oLoadN 9 g fun h => oStore 9 h b fun _ => rF (fun s => [qCell (qLoadN 9 b) s]) e n Q) (c179j30 e n Q a b g))) (oEql3A c (I 3) fun c => cN c (oLoadN 6 d fun c => oC 182 [a, c] fun c => oStore 9 c b fun _ => rF (fun s => [qCell (qLoadN 9 b) s]) e n Q) (c179j30 e n Q a b g)))))
theorem c179_pq : P1 179 c179 :=
  p1 func179 120 fun e n Q => (w_seq (w_seq (w_seq (w_seq (w_seq (wA (J3 (c179j30 e n Q) 0 2 4) w_any) (w_seq (w_block (w_seq (w_cond (w_seq (w_seq (w_seq (w_seq (w_seq (wA (J2 (c179j79 e n Q) 2 4) w_any) w_any) w_any) w_any) w_any) w_any) w_any) w_any)) w_any)) w_any) w_any) w_any) w_any)
def c182j50 : F2 :=
  fun a b => oLoadN 9 b fun b => oStore 9 b a fun _ => rF (fun s => [qCell (qLoadN 9 a) s]) e n Q
def c182j157 : F3 :=
  fun a b c => oC 145 [a, (.str ⟨#[41]⟩)] fun a => oLoadN 9 c fun a => oStore 9 a b fun _ => rF (fun s => [qCell (qLoadN 9 b) s]) e n Q
def c182j134 : F5 :=
  fun a b c d g => cN g (oNFL 1 a fun g => oAdd3 g (I 1) fun g => oNil a fun h => oFS 1 1 g h fun _ => oC 145 [a, (.str ⟨#[40]⟩)] fun g => oFL 1 b fun b => oBin .eql 9 b (.str ⟨#[119, 104, 101, 110]⟩) fun g => oAsg g fun g => cN g (oFS 0 1 (I 9) d fun _ => oC 167 [a] fun g => oBsl 9 [g] fun g => oFS 7 1 g d fun _ => oC 145 [a, (.str ⟨#[44]⟩)] fun g => oC 165 [a] fun g => oBx [S0, bF] fun h => oStore 2 g h fun _ => oFL 0 h fun g => oFS 2 1 g d fun _ => oFL 1 h fun g => cN g (oFS 5 1 (I 1) d fun _ => c182j157 e n Q a c d) (c182j157 e n Q a c d)) (oBin .eql 9 b (.str ⟨#[109, 101, 114, 103, 101]⟩) fun g => oAsg g fun g => cN g (oFS 0 1 (I 10) d fun _ => oC 146 [a] fun g => oFS 2 1 g d fun _ => oC 145 [a, (.str ⟨#[44]⟩)] fun g => oC 167 [a] fun g => oBx zE fun h => oStore 9 g h fun _ => oC 145 [a, (.str ⟨#[44]⟩)] fun g => dS (dLoadN 9 h fun g => dV (dC 167 [a] fun h => dBsl 9 [g, h] fun g => dFA 7 d fun h => dStore 1 g h fun _ => dE [0, 0, 2, 7, 15, 31] (c182j157 e n Q a c d)))) (oBin .eql 9 b (.str ⟨#[99, 97, 115, 116]⟩) fun g => oAsg g fun g => cN g (oFS 0 1 (I 11) d fun _ => oC 163 [a] fun g => oBuild [I 0, I 0] [(some (0, 1), g)] fun g => oFS 3 2 g d fun _ => oC 145 [a, (.str ⟨#[44]⟩)] fun g => oC 167 [a] fun g => oBsl 9 [g] fun g => oFS 7 1 g d fun _ => c182j157 e n Q a c d) (oBin .eql 9 b (.str ⟨#[116, 105, 99, 107]⟩) fun g => oAsg g fun g => cN g (oFS 0 1 (I 12) d fun _ => oC 164 [a] fun g => oFS 5 1 g d fun _ => oC 145 [a, (.str ⟨#[44]⟩)] fun g => oC 164 [a] fun g => oFS 6 1 g d fun _ => c182j157 e n Q a c d) (oBin .eql 9 b (.str ⟨#[114, 101, 115, 101, 116]⟩) fun g => oAsg g fun g => cN g (oFS 0 1 (I 14) d fun _ => oC 146 [a] fun g => oFS 2 1 g d fun _ => oC 180 [a] fun g => oFS 7 1 g d fun _ => oC 145 [a, (.str ⟨#[44]⟩)] fun g => dS (dFL 7 d fun g => dV (dC 167 [a] fun h => dBsl 9 [h] fun h => dApp 9 96 g h fun g => dFA 7 d fun h => dStore 1 g h fun _ => dE [0, 1, 0, 4, 12, 31, 63, 127] (c182j157 e n Q a c d)))) (oBin .eql 9 b (.str ⟨#[114, 101, 112]⟩) fun g => oAsg g fun g => cN g (oFS 0 1 (I 17) d fun _ => oC 167 [a] fun g => oBsl 9 [g] fun g => oFS 7 1 g d fun _ => oC 145 [a, (.str ⟨#[44]⟩)] fun g => oC 164 [a] fun g => oFS 5 1 g d fun _ => c182j157 e n Q a c d) (oBin .eql 9 b (.str ⟨#[109, 97, 112]⟩) fun g => oAsg g fun g => cN g (oFS 0 1 (I 18) d fun _ => oC 146 [a] fun g => oFS 2 1 g d fun _ => oC 145 [a, (.str ⟨#[44]⟩)] fun g => oC 181 [a, I 0] fun g => oFS 7 1 g d fun _ => c182j157 e n Q a c d) (oBin .eql 9 b (.str ⟨#[102, 111, 108, 100]⟩) fun b => oAsg b fun b => cN b (oFS 0 1 (I 19) d fun _ => oC 146 [a] fun b => oFS 2 1 b d fun _ => oC 145 [a, (.str ⟨#[44]⟩)] fun b => oC 167 [a] fun b => oBx zE fun g => oStore 9 b g fun _ => oC 145 [a, (.str ⟨#[44]⟩)] fun b => dS (dLoadN 9 g fun b => dV (dC 167 [a] fun g => dBsl 9 [b, g] fun b => dFA 7 d fun g => dStore 1 b g fun _ => dE [0, 0, 2, 7, 15, 31] (c182j157 e n Q a c d)))) (c182j157 e n Q a c d))))))))) (oC 121 [a, I 12] fun a => oLoadN 9 d fun a => oStore 9 a c fun _ => rF (fun s => [qCell (qLoadN 9 c) s]) e n Q)
def c182j18 : F6 :=
  fun a b c d g h => cN h (oNFL 1 a fun h => oAdd3 h (I 1) fun h => oNil a fun i => oFS 1 1 h i fun _ => oFS 0 1 (I 1) d fun _ => oBuild [I 0, I 0] [(some (0, 1), (I 1))] fun h => oFS 3 2 h d fun _ => oFL 1 b fun h => oBin .eql 9 h (.str ⟨#[116, 114, 117, 101]⟩) fun h => cN h (oFS 5 1 (I 1) d fun _ => c182j50 e n Q c d) (c182j50 e n Q c d)) (oBin .eql 9 g (.str ⟨#[105, 102]⟩) fun h => oAsg h fun h => cN h (oNFL 1 a fun h => oAdd3 h (I 1) fun h => oNil a fun i => oFS 1 1 h i fun _ => oC 167 [a] fun h => oBx zE fun i => oStore 9 h i fun _ => oC 145 [a, (.str ⟨#[116, 104, 101, 110]⟩)] fun h => oC 167 [a] fun h => oBx zE fun j => oStore 9 h j fun _ => oC 145 [a, (.str ⟨#[101, 108, 115, 101]⟩)] fun h => oFS 0 1 (I 5) d fun _ => dS (dLoadN 9 i fun h => dLoadN 9 j fun i => dV (dC 167 [a] fun j => dBsl 9 [h, i, j] fun h => dFA 7 d fun i => dStore 1 h i fun _ => dE [0, 0, 0, 4, 15, 31, 63] (oLoadN 9 d fun h => oStore 9 h c fun _ => rF (fun s => [qCell (qLoadN 9 c) s]) e n Q)))) (oBin .eql 9 g (.str ⟨#[119, 104, 101, 110]⟩) fun h => oAsg h fun h => cN h (c182j134 e n Q a b c d h) (oBin .eql 9 g (.str ⟨#[109, 101, 114, 103, 101]⟩) fun h => oAsg h fun h => cN h (c182j134 e n Q a b c d h) (oBin .eql 9 g (.str ⟨#[99, 97, 115, 116]⟩) fun h => oAsg h fun h => cN h (c182j134 e n Q a b c d h) (oBin .eql 9 g (.str ⟨#[116, 105, 99, 107]⟩) fun h => oAsg h fun h => cN h (c182j134 e n Q a b c d h) (oBin .eql 9 g (.str ⟨#[114, 101, 115, 101, 116]⟩) fun h => oAsg h fun h => cN h (c182j134 e n Q a b c d h) (oBin .eql 9 g (.str ⟨#[114, 101, 112]⟩) fun h => oAsg h fun h => cN h (c182j134 e n Q a b c d h) (oBin .eql 9 g (.str ⟨#[109, 97, 112]⟩) fun h => oAsg h fun h => cN h (c182j134 e n Q a b c d h) (oBin .eql 9 g (.str ⟨#[102, 111, 108, 100]⟩) fun g => oAsg g fun g => c182j134 e n Q a b c d g)))))))))
def c182 : F2 :=
  fun a b => oBox b fun b => oBx zE fun c => oFL 5 b fun d => oBuild zE [(some (8, 1), d)] fun d => oBx zE fun g => oStore 9 d g fun _ => oFL 1 b fun d => oBin .eql 9 d (.str ⟨#[116, 114, 117, 101]⟩) fun h => oAsg h fun h => cN h (c182j18 e n Q a b c g d h) (oBin .eql 9 d (.str ⟨#[102, 97, 108, 115, 101]⟩) fun h => oAsg h fun h => c182j18 e n Q a b c g d h)
theorem c182_pq : P2 182 c182 :=
  p2 func182 201 fun e n Q => (w_seq (w_seq (w_seq (w_seq (w_seq (w_seq (wA (J3 (c182j157 e n Q) 0 4 5) w_any) w_any) w_any) w_any) (w_seq (w_block (w_seq (wA (J6 (c182j18 e n Q) 0 3 4 5 15 19) (w_cond (w_seq (w_seq (w_seq (w_seq (wA (J2 (c182j50 e n Q) 4 5) w_any) w_any) w_any) w_any) w_any) (w_seq (w_cond w_any (w_seq (wA (J5 (c182j134 e n Q) 0 3 4 5 62) w_any) w_any)) w_any))) w_any)) w_any)) w_any) w_any)
def c54j10 : F1 :=
  fun a => dS (dV (dNil a fun b => dFL 2 b fun b => dV (dNil a fun a => dFL 1 a fun a => dAsg b fun b => dAsg a fun a => dE [0, 1, 3, 7, 0, 16, 48, 112, 15, 511] (r2 b a e n Q))))
def c54j72 (e n : Nat) (Q : QT) (a : F3) : F3 :=
  fun b c d => oAdd3A d (I 1) fun d => a b c d
def c54j185 (a : F3) : F5 :=
  fun b c d g h => oFL 3 g fun i => oC 87 [c, i, h] fun i => oNFL 1 c fun i => oEql3 i (I 0) fun i => cN i (oFL 4 g fun g => oC 88 [c, g, h] fun g => c54j72 e n Q a b c d) (c54j72 e n Q a b c d)
def c54j248 (e n : Nat) (Q : QT) (a : F3) (a : F8) : F8 :=
  fun b c d g h i j k => oAdd3A k (I 1) fun k => a b c d g h i j k
def c54l220b (a : F3) (b : F8) : F8 :=
  fun c d g h i j k l => oLenL i fun o => oLss3 l o fun o => hVT o d fun p => hQT o (qNil p) fun p => hQT o (qFA 1 p) fun p => hQT o (qLoad1 p) fun p => hQT o (qEql3 p (I 0)) fun p => oPick o p bF fun o => cN o (oIA 5 i l fun o => oFL 0 o fun o => oC 85 [k, o] fun o => oUn .not o fun o => cN o (oIA 5 i l fun o => oFL 4 o fun o => oC 68 [d, o, I 24] fun o => c54j248 e n Q a b c d g h i j k l) (c54j248 e n Q a b c d g h i j k l)) (c54j185 e n Q a c d g h j)
def c54l220 (a : F3) : Nat → F8
  | 0 => N8
  | m + 1 => c54l220b e n Q a (c54l220 a m)
def c54j151 (a : F3) : F6 :=
  fun b c d g h i => oNFL 1 c fun j => oNeq3 j (I 0) fun j => cN j (c54j10 e n Q c) (oFL 1 g fun j => oLenL j fun j => oSlL 1 true false i [j] fun j => oAsg j fun j => oFL 4 g fun k => oCA 86 [c, k, i, j, d] fun j => oFL 1 g fun k => oLenL k fun k => oAsg k fun k => e8 (c54l220 e n Q a) b c d g h i j k)
def c54j295 (e n : Nat) (Q : QT) (a : F3) (a : F7) : F7 :=
  fun b c d g h i j => oIA 5 h j fun k => oFL 0 k fun k => oBsl 1 [k] fun k => oApp 1 16 i k fun i => oAsg i fun i => oAdd3A j (I 1) fun j => a b c d g h i j
def c54l280b (a : F3) (b : F7) : F7 :=
  fun c d g h i j k => oLenL i fun l => oLss3 k l fun l => cN l (oIA 5 i k fun l => oFL 0 l fun l => oC 85 [j, l] fun l => cN l (oIA 5 i k fun l => oFL 4 l fun l => oC 68 [d, l, I 20] fun l => c54j295 e n Q a b c d g h i j k) (c54j295 e n Q a b c d g h i j k)) (c54j151 e n Q a c d g h i j)
def c54l280 (a : F3) : Nat → F7
  | 0 => N7
  | m + 1 => c54l280b e n Q a (c54l280 a m)
def c54l45b (a : F3) : F3 :=
  fun b c d => oFL 0 b fun g => oLenL g fun g => oLss3 d g fun g => hVT g c fun h => hQT g (qNil h) fun h => hQT g (qFA 1 h) fun h => hQT g (qLoad1 h) fun h => hQT g (qEql3 h (I 0)) fun h => oPick g h bF fun g => cN g (oFL 0 b fun g => oIA 6 g d fun g => oLoadN 6 g fun g => oBx zS fun h => oStore 6 g h fun _ => oLoadN 1 b fun g => oFL 0 h fun i => oC 84 [g, i, d] fun g => oGeq3 g (I 0) fun g => cN g (oFL 5 h fun g => oC 68 [c, g, I 20] fun g => c54j10 e n Q c) (dS (dFL 1 h fun g => dApp 5 64 .nil g fun g => dFL 2 h fun i => dApp 5 64 g i fun g => dFL 3 h fun i => dApp 5 64 g i fun g => dAsg g fun g => dE [0, 1, 3, 0, 8, 31, 0, 64, 255, 511] (oOwn fun i => e7 (c54l280 e n Q a) b c d h g i (I 0))))) (c54j10 e n Q c)
def c54l45 : Nat → F3
  | 0 => N3
  | m + 1 => c54l45b e n Q (c54l45  m)
def c54 : F1 :=
  fun a => oBox a fun a => oLoadN 1 a fun b => oBuild [.nil, I 0, I 0] [(some (0, 1), b)] fun b => oBox b fun b => oAsg b fun b => e3 (c54l45 e n Q) a b (I 0)
theorem c54_pq : P1 54 c54 :=
  p1 func54 153 fun e n Q => (w_seq (w_seq (w_seq (wA (J1 (c54j10 e n Q) 4) w_any) (w_seq (w_block (wL (fun m => J3 (c54l45 e n Q m) 1 4 5) (fun a => (w_seq (w_seq (wA (J3 (c54j72 e n Q (c54l45 e n Q a)) 1 4 5) w_any) (w_block (w_seq (w_seq (w_seq (w_seq (w_seq (wA (J6 (c54j151 e n Q (c54l45 e n Q a)) 1 4 5 6 7 8) (w_seq (w_seq (w_seq (w_seq (wA (J5 (c54j185 e n Q (c54l45 e n Q a)) 1 4 5 6 8) w_any) (w_seq (w_block (wL (fun m => J8 (c54l220 e n Q (c54l45 e n Q a) m) 1 4 5 6 7 8 11 12) (fun b => (w_seq (w_seq (wA (J8 (c54j248 e n Q (c54l45 e n Q a) (c54l220 e n Q (c54l45 e n Q a) b)) 1 4 5 6 7 8 11 12) w_any) w_any) w_any)))) w_any)) w_any) w_any) w_any)) (w_seq (w_block (wL (fun m => J7 (c54l280 e n Q (c54l45 e n Q a) m) 1 4 5 6 7 8 9) (fun b => (w_seq (w_seq w_any (w_block (w_seq (wA (J7 (c54j295 e n Q (c54l45 e n Q a) (c54l280 e n Q (c54l45 e n Q a) b)) 1 4 5 6 7 8 9) w_any) w_any))) w_any)))) w_any)) w_any) w_any) w_any) w_any))) w_any)))) w_any)) w_any) w_any)
def c84j2 : F0 :=
  r1 (I (-1)) e n Q
def c84l4b (a : F4) : F4 :=
  fun b c d g => oLss3 g c fun h => hVT h g fun i => hQT h (qFA 0 d) fun j => hQT h (qLoad1 j) fun j => hQT h (qLenL j) fun j => hQT h (qLss3 i j) fun i => oPick h i bF fun h => cN h (oFL 0 d fun h => oIA 6 h g fun h => oFL 0 h fun h => oBin .eql 9 h b fun h => cN h (oAsg g fun h => r1 h e n Q) (oAdd3A g (I 1) fun g => a b c d g)) (c84j2 e n Q)
def c84l4 : Nat → F4
  | 0 => N4
  | m + 1 => c84l4b e n Q (c84l4  m)
def c84 : F3 :=
  fun a b c => oBox a fun a => e4 (c84l4 e n Q) b c a (I 0)
theorem c84_pq : P3 84 c84 :=
  p3 func84 29 fun e n Q => (w_seq (w_seq (wA (J0 (c84j2 e n Q)) w_any) (w_seq (w_block (wL (fun m => J4 (c84l4 e n Q m) 1 2 3 7) (fun a => w_any))) w_any)) w_any)
def c85j0 : F0 :=
  r1 bF e n Q
def c85l2b (a : F3) : F3 :=
  fun b c d => oLenL b fun g => oLss3 d g fun g => cN g (oIA 1 b d fun g => oLoad1 g fun g => oBin .eql 9 g c fun g => cN g (r1 bT e n Q) (oAdd3A d (I 1) fun d => a b c d)) (c85j0 e n Q)
def c85l2 : Nat → F3
  | 0 => N3
  | m + 1 => c85l2b e n Q (c85l2  m)
def c85 : F2 :=
  fun a b => e3 (c85l2 e n Q) a b (I 0)
theorem c85_pq : P2 85 c85 :=
  p2 func85 18 fun e n Q => (w_seq (w_seq (wA (J0 (c85j0 e n Q)) w_any) (w_seq (w_block (wL (fun m => J3 (c85l2 e n Q m) 0 1 5) (fun a => w_any))) w_any)) w_any)
def c86j4 : F1 :=
  fun a => oAsg a fun a => r1 a e n Q
def c86j36 (e n : Nat) (Q : QT) (a : F7) : F7 :=
  fun b c d g h i j => oAdd3A j (I 1) fun j => a b c d g h i j
def c86j71 (a : F7) : F8 :=
  fun b c d g h i j k => oApp 1 16 .nil i fun i => oApp 1 16 i k fun i => oAsg i fun i => c86j36 e n Q a b c d g h i j
def c86j117 (e n : Nat) (Q : QT) (a : F7) (a : F10) : F10 :=
  fun b c d g h i j k l o => oAdd3A o (I 1) fun o => a b c d g h i j k l o
def c86l87b (a : F7) (b : F10) : F10 :=
  fun c d g h i j k l o p => oLenL o fun q => oLss3 p q fun q => hVT q c fun r => hQT q (qNil r) fun r => hQT q (qFA 1 r) fun r => hQT q (qLoad1 r) fun r => hQT q (qEql3 r (I 0)) fun r => oPick q r bF fun q => cN q (oIA 1 o p fun q => oLoad1 q fun q => oC 85 [j, q] fun q => cN q (oFL 11 l fun q => oC 68 [c, q, I 20] fun q => c86j117 e n Q a b c d g h i j k l o p) (c86j117 e n Q a b c d g h i j k l o p)) (c86j71 e n Q a c d g h i j k o)
def c86l87 (a : F7) : Nat → F10
  | 0 => N10
  | m + 1 => c86l87b e n Q a (c86l87 a m)
def c86j145 (a : F7) : F8 :=
  fun b c d g h i j k => oNFL 1 b fun l => oEql3 l (I 0) fun l => cN l (oFA 1 k fun k => oLoadN 9 k fun k => oC 109 [b, k, d, h] fun k => c86j36 e n Q a b c d g h i j) (c86j36 e n Q a b c d g h i j)
def c86j213 (e n : Nat) (Q : QT) (a : F7) (a : F9) : F9 :=
  fun b c d g h i j k l => dS (dV (dApp 1 16 .nil i fun i => dFL 0 k fun o => dV (dIA 1 o l fun o => dLoad1 o fun o => dBsl 1 [o] fun o => dApp 1 16 i o fun i => dAsg i fun i => dE [0, 1, 0, 4, 0, 28, 60, 124, 255, 511] (oAdd3A l (I 1) fun l => a b c d g h i j k l))))
def c86j202 (a : F7) (b : F9) : F9 :=
  fun c d g h i j k l o => oFL 0 l fun p => oIA 1 p o fun p => oLoad1 p fun p => oC 85 [j, p] fun p => cN p (oFL 11 l fun p => oC 68 [c, p, I 20] fun p => c86j213 e n Q a b c d g h i j k l o) (c86j213 e n Q a b c d g h i j k l o)
def c86l169b (a : F7) (b : F9) : F9 :=
  fun c d g h i j k l o => oFL 0 l fun p => oLenL p fun p => oLss3 o p fun p => hVT p c fun q => hQT p (qNil q) fun q => hQT p (qFA 1 q) fun q => hQT p (qLoad1 q) fun q => hQT p (qEql3 q (I 0)) fun q => oPick p q bF fun p => cN p (oFL 0 l fun p => oIA 1 p o fun p => oLoad1 p fun p => oC 85 [h, p] fun p => oUn .not p fun p => cN p (oFL 11 l fun p => oC 68 [c, p, I 21] fun p => c86j202 e n Q a b c d g h i j k l o) (c86j202 e n Q a b c d g h i j k l o)) (c86j145 e n Q a c d g h i j k l)
def c86l169 (a : F7) : Nat → F9
  | 0 => N9
  | m + 1 => c86l169b e n Q a (c86l169 a m)
def c86l9b (a : F7) : F7 :=
  fun b c d g h i j => oLenL c fun k => oLss3 j k fun k => hVT k b fun l => hQT k (qNil l) fun l => hQT k (qFA 1 l) fun l => hQT k (qLoad1 l) fun l => hQT k (qEql3 l (I 0)) fun l => oPick k l bF fun k => cN k (oIA 12 c j fun k => oLoadN 12 k fun k => oBx zI fun l => oStore 12 k l fun _ => oFL 10 l fun k => oLenL k fun k => oGtr3 k (I 0) fun k => cN k (oLoadN 12 l fun k => oCA 108 [b, k, d, g, h] fun k => e10 (c86l87 e n Q a) b c d g h i j l k (I 0)) (e9 (c86l169 e n Q a) b c d g h i j l (I 0))) (c86j4 e n Q i)
def c86l9 : Nat → F7
  | 0 => N7
  | m + 1 => c86l9b e n Q (c86l9  m)
def c86 : F5 :=
  fun a b c d g => oOwn fun h => oOwn fun h => e7 (c86l9 e n Q) a b c d g h (I 0)
theorem c86_pq : P5 86 c86 :=
  p5 func86 129 fun e n Q => (w_seq (w_seq (w_seq (wA (J1 (c86j4 e n Q) 11) w_any) (w_seq (w_block (wL (fun m => J7 (c86l9 e n Q m) 0 1 2 3 4 11 12) (fun a => (w_seq (w_seq (wA (J7 (c86j36 e n Q (c86l9 e n Q a)) 0 1 2 3 4 11 12) w_any) (w_block (w_seq (w_seq (w_seq (wA (J8 (c86j145 e n Q (c86l9 e n Q a)) 0 1 2 3 4 11 12 13) w_any) (w_seq (w_block (wL (fun m => J9 (c86l169 e n Q (c86l9 e n Q a) m) 0 1 2 3 4 11 12 13 16) (fun b => (w_seq (w_seq w_any (w_block (w_seq (wA (J9 (c86j202 e n Q (c86l9 e n Q a) (c86l169 e n Q (c86l9 e n Q a) b)) 0 1 2 3 4 11 12 13 16) (w_seq (wA (J9 (c86j213 e n Q (c86l9 e n Q a) (c86l169 e n Q (c86l9 e n Q a) b)) 0 1 2 3 4 11 12 13 16) w_any) w_any)) w_any))) w_any)))) w_any)) (w_seq (w_cond (w_seq (w_seq (wA (J8 (c86j71 e n Q (c86l9 e n Q a)) 0 1 2 3 4 11 12 14) w_any) (w_seq (w_block (wL (fun m => J10 (c86l87 e n Q (c86l9 e n Q a) m) 0 1 2 3 4 11 12 13 14 15) (fun b => (w_seq (w_seq (wA (J10 (c86j117 e n Q (c86l9 e n Q a) (c86l87 e n Q (c86l9 e n Q a) b)) 0 1 2 3 4 11 12 13 14 15) w_any) w_any) w_any)))) w_any)) w_any) w_any) w_any)) w_any))) w_any)))) w_any)) w_any) w_any)
def c87j24 (e n : Nat) (Q : QT) (a : F4) : F4 :=
  fun b c d g => oAdd3A g (I 1) fun g => a b c d g
def c87l34b (a : F4) (b : F5) : F5 :=
  fun c d g h i => oIA 5 d h fun j => oFL 3 j fun j => oLenL j fun j => oLss3 i j fun j => cN j (oIA 5 d h fun j => oFL 3 j fun j => oIA 2 j i fun j => oFL 0 j fun j => oAsg j fun j => oC 85 [g, j] fun k => oUn .not k fun k => hVF k j fun j => hVF k d fun l => hVF k h fun o => hQF k (qIA 5 l o) fun l => hQF k (qFA 0 l) fun l => hQF k (qLoad1 l) fun l => hQF k (qB .eql 9 j l) fun j => oPick k bT j fun j => cN j (oIA 5 d h fun j => oFL 4 j fun j => oC 68 [c, j, I 21] fun j => r0 e n Q) (oAdd3A i (I 1) fun i => b c d g h i)) (c87j24 e n Q a c d g h)
def c87l34 (a : F4) : Nat → F5
  | 0 => N5
  | m + 1 => c87l34b e n Q a (c87l34 a m)
def c87l0b (a : F4) : F4 :=
  fun b c d g => oLenL c fun h => oLss3 g h fun h => hVT h b fun i => hQT h (qNil i) fun i => hQT h (qFA 1 i) fun i => hQT h (qLoad1 i) fun i => hQT h (qEql3 i (I 0)) fun i => oPick h i bF fun h => cN h (e5 (c87l34 e n Q a) b c d g (I 0)) (r0 e n Q)
def c87l0 : Nat → F4
  | 0 => N4
  | m + 1 => c87l0b e n Q (c87l0  m)
def c87 : F3 :=
  fun a b c => e4 (c87l0 e n Q) a b c (I 0)
theorem c87_pq : P3 87 c87 :=
  p3 func87 61 fun e n Q => (w_seq (w_block (wL (fun m => J4 (c87l0 e n Q m) 0 1 2 6) (fun a => (w_seq (w_seq (wA (J4 (c87j24 e n Q (c87l0 e n Q a)) 0 1 2 6) w_any) (w_block (w_seq (w_block (wL (fun m => J5 (c87l34 e n Q (c87l0 e n Q a) m) 0 1 2 6 7) (fun a => w_any))) w_any))) w_any)))) w_any)
def c88j12 (e n : Nat) (Q : QT) (a : F4) : F4 :=
  fun b c d g => oAdd3A g (I 1) fun g => a b c d g
def c88l22b (a : F4) (b : F5) : F5 :=
  fun c d g h i => oIA 12 d h fun j => oFL 10 j fun j => oLenL j fun j => oLss3 i j fun j => cN j (oIA 12 d h fun j => oFL 10 j fun j => oIA 6 j i fun j => oLoadN 6 j fun j => oBx zS fun k => oStore 6 j k fun _ => dS (dV (dApp 1 16 .nil g fun j => dFL 3 k fun l => dC 69 [l] fun l => dApp 1 16 j l fun j => dAsg j fun j => dE [0, 1, 0, 4, 15, 31, 63] (oFL 3 k fun l => oC 87 [c, l, j] fun l => oFL 4 k fun k => oC 88 [c, k, j] fun j => oAdd3A i (I 1) fun i => b c d g h i)))) (c88j12 e n Q a c d g h)
def c88l22 (a : F4) : Nat → F5
  | 0 => N5
  | m + 1 => c88l22b e n Q a (c88l22 a m)
def c88l0b (a : F4) : F4 :=
  fun b c d g => oLenL c fun h => oLss3 g h fun h => cN h (e5 (c88l22 e n Q a) b c d g (I 0)) (r0 e n Q)
def c88l0 : Nat → F4
  | 0 => N4
  | m + 1 => c88l0b e n Q (c88l0  m)
def c88 : F3 :=
  fun a b c => e4 (c88l0 e n Q) a b c (I 0)
theorem c88_pq : P3 88 c88 :=
  p3 func88 50 fun e n Q => (w_seq (w_block (wL (fun m => J4 (c88l0 e n Q m) 0 1 2 6) (fun a => (w_seq (w_seq (wA (J4 (c88j12 e n Q (c88l0 e n Q a)) 0 1 2 6) w_any) (w_block (w_seq (w_block (wL (fun m => J5 (c88l22 e n Q (c88l0 e n Q a) m) 0 1 2 6 7) (fun a => w_any))) w_any))) w_any)))) w_any)
def c109l142b (a : F5) : F5 :=
  fun b c d g h => oFL 7 g fun i => oLenL i fun i => oLss3 h i fun i => hVT i b fun j => hQT i (qNil j) fun j => hQT i (qFA 1 j) fun j => hQT i (qLoad1 j) fun j => hQT i (qEql3 j (I 0)) fun j => oPick i j bF fun i => cN i (oFL 7 g fun i => oIA 9 i h fun i => oLoadN 9 i fun i => oC 109 [b, i, c, d] fun i => oAdd3A h (I 1) fun h => a b c d g h) (r0 e n Q)
def c109l142 : Nat → F5
  | 0 => N5
  | m + 1 => c109l142b e n Q (c109l142  m)
def c109 : F4 :=
  fun a b c d => oBox b fun b => oFL 0 b fun g => oEql3 g (I 2) fun g => hQF g (qFA 0 b) fun h => hQF g (qLoad1 h) fun h => hQF g (qEql3 h (I 9)) fun h => oPick g bT h fun g => hQF g (qFA 0 b) fun h => hQF g (qLoad1 h) fun h => hQF g (qEql3 h (I 10)) fun h => oPick g bT h fun g => oAsg g fun g => oFL 2 b fun h => oCA 85 [c, h] fun h => hVT g h fun h => hQT g (qUn .not h) fun h => oPick g h bF fun g => cN g (oFL 8 b fun g => oC 68 [a, g, I 21] fun g => r0 e n Q) (dS (dFL 0 b fun g => dC 117 [g] fun g => dV (eVT g a fun h => eQT g (qNil h) fun h => eQT g (qFA 0 h) fun h => eQT g (qLoadN 1 h) fun h => eQT g (qFA 2 b) fun i => eQT g (qLoad1 i) fun i => eVT g d fun j => eCT g 84 [h, i, j] fun h => eQT g (qLss3 h (I 0)) fun h => dPick g h bF fun g => dE [0, 1, 3, 7, 15, 31, 63, 127, 15, 271, 15, 2047, 4095, 8191] (cN g (oFL 8 b fun g => oC 68 [a, g, I 21] fun g => r0 e n Q) (oFL 0 b fun g => oEql3 g (I 14) fun g => hQF g (qFA 0 b) fun h => hQF g (qLoad1 h) fun h => hQF g (qEql3 h (I 15)) fun h => oPick g bT h fun g => hQF g (qFA 0 b) fun h => hQF g (qLoad1 h) fun h => hQF g (qEql3 h (I 18)) fun h => oPick g bT h fun g => hQT g (qFA 7 b) fun h => hQT g (qLoad1 h) fun h => hQT g (qLenL h) fun h => hQT g (qLss3 h (I 1)) fun h => oPick g h bF fun g => cN g (oFL 8 b fun g => oC 68 [a, g, I 23] fun g => r0 e n Q) (e5 (c109l142 e n Q) a c d b (I 0)))))))
theorem c109_pq : P4 109 c109 :=
  p4 func109 101 fun e n Q => (w_seq (w_seq (w_seq (w_seq (w_seq (w_seq (w_seq (w_block (wL (fun m => J5 (c109l142 e n Q m) 0 2 3 5 10) (fun a => w_any))) w_any) w_any) w_any) w_any) w_any) w_any) w_any)
def c35j10 : F1 :=
  fun a => dS (dV (dNil a fun b => dFL 2 b fun b => dV (dNil a fun a => dFL 1 a fun a => dAsg b fun b => dAsg a fun a => dE [0, 1, 3, 7, 0, 16, 48, 112, 15, 511] (r2 b a e n Q))))
def c35l45b (a : F3) : F3 :=
  fun b c d => oFL 0 b fun g => oLenL g fun g => oLss3 d g fun g => hVT g c fun h => hQT g (qNil h) fun h => hQT g (qFA 1 h) fun h => hQT g (qLoad1 h) fun h => hQT g (qEql3 h (I 0)) fun h => oPick g h bF fun g => cN g (oFL 0 b fun g => oIA 6 g d fun g => oLoadN 6 g fun g => oBx zS fun h => oStore 6 g h fun _ => oLoadN 6 h fun g => oCA 40 [g, .nil] fun g => oC 55 [c, g] fun i => oFL 3 h fun i => oC 56 [c, i, g] fun i => oFL 4 h fun h => oC 57 [c, h, g] fun g => oAdd3A d (I 1) fun d => a b c d) (c35j10 e n Q c)
def c35l45 : Nat → F3
  | 0 => N3
  | m + 1 => c35l45b e n Q (c35l45  m)
def c35 : F1 :=
  fun a => oBox a fun a => oLoadN 1 a fun b => oBuild [.nil, I 0, I 0] [(some (0, 1), b)] fun b => oBox b fun b => oAsg b fun b => e3 (c35l45 e n Q) a b (I 0)
theorem c35_pq : P1 35 c35 :=
  p1 func35 53 fun e n Q => (w_seq (w_seq (w_seq (wA (J1 (c35j10 e n Q) 4) w_any) (w_seq (w_block (wL (fun m => J3 (c35l45 e n Q m) 1 4 5) (fun a => w_any))) w_any)) w_any) w_any)
def c40 : F2 :=
  fun a b => oBox a fun a => oOwn fun c => oFL 1 a fun c => oApp 5 64 .nil c fun c => oAsg c fun c => dS (dV (dFL 2 a fun d => dApp 5 64 c d fun c => dFL 3 a fun a => dApp 5 64 c a fun a => dAsg a fun a => dE [0, 0, 2, 7, 0, 16, 63, 127] (oApp 5 64 a b fun a => oAsg a fun a => r1 a e n Q)))
theorem c40_pq : P2 40 c40 :=
  p2 func40 19 fun e n Q => w_any
def c55l0b (a : F3) : F3 :=
  fun b c d => oLenL c fun g => oLss3 d g fun g => cN g (oIA 5 c d fun g => oFA 1 g fun g => oFL 1 g fun g => oGtr3 g (I 16) fun g => cN g (oIA 5 c d fun g => oFL 4 g fun g => oC 68 [b, g, I 23] fun g => r0 e n Q) (oAdd3A d (I 1) fun d => a b c d)) (r0 e n Q)
def c55l0 : Nat → F3
  | 0 => N3
  | m + 1 => c55l0b e n Q (c55l0  m)
def c55 : F2 :=
  fun a b => e3 (c55l0 e n Q) a b (I 0)
theorem c55_pq : P2 55 c55 :=
  p2 func55 25 fun e n Q => (w_seq (w_block (wL (fun m => J3 (c55l0 e n Q m) 0 1 4) (fun a => w_any))) w_any)
def c56j24 (e n : Nat) (Q : QT) (a : F4) : F4 :=
  fun b c d g => oAdd3A g (I 1) fun g => a b c d g
def c56j65 (e n : Nat) (Q : QT) (a : F4) (a : F5) : F5 :=
  fun b c d g h => oAdd3A h (I 1) fun h => a b c d g h
def c56l34b (a : F4) (b : F5) : F5 :=
  fun c d g h i => oIA 5 d h fun j => oFL 3 j fun j => oLenL j fun j => oLss3 i j fun j => hVT j c fun k => hQT j (qNil k) fun k => hQT j (qFA 1 k) fun k => hQT j (qLoad1 k) fun k => hQT j (qEql3 k (I 0)) fun k => oPick j k bF fun j => cN j (dS (dV (dV (dV (dV (dIA 5 d h fun j => dFL 3 j fun j => dV (dIA 2 j i fun j => dFL 0 j fun j => dC 89 [g, j] fun j => dIA 5 g j fun j => dFA 1 j fun j => dLoadN 2 j fun j => dC 90 [] fun k => dBin .neq 74 j k fun j => dE [0, 0, 0, 0, 12, 28, 60, 0, 252, 508, 1020, 2046, 4095, 8191, 16383, 4094, 65535] (cN j (oIA 5 d h fun j => oFL 4 j fun j => oC 68 [c, j, I 22] fun j => c56j65 e n Q a b c d g h i) (c56j65 e n Q a b c d g h i))))))))) (c56j24 e n Q a c d g h)
def c56l34 (a : F4) : Nat → F5
  | 0 => N5
  | m + 1 => c56l34b e n Q a (c56l34 a m)
def c56l0b (a : F4) : F4 :=
  fun b c d g => oLenL c fun h => oLss3 g h fun h => hVT h b fun i => hQT h (qNil i) fun i => hQT h (qFA 1 i) fun i => hQT h (qLoad1 i) fun i => hQT h (qEql3 i (I 0)) fun i => oPick h i bF fun h => cN h (e5 (c56l34 e n Q a) b c d g (I 0)) (r0 e n Q)
def c56l0 : Nat → F4
  | 0 => N4
  | m + 1 => c56l0b e n Q (c56l0  m)
def c56 : F3 :=
  fun a b c => e4 (c56l0 e n Q) a b c (I 0)
theorem c56_pq : P3 56 c56 :=
  p3 func56 62 fun e n Q => (w_seq (w_block (wL (fun m => J4 (c56l0 e n Q m) 0 1 2 6) (fun a => (w_seq (w_seq (wA (J4 (c56j24 e n Q (c56l0 e n Q a)) 0 1 2 6) w_any) (w_block (w_seq (w_block (wL (fun m => J5 (c56l34 e n Q (c56l0 e n Q a) m) 0 1 2 6 7) (fun b => (w_seq (w_seq (wA (J5 (c56j65 e n Q (c56l0 e n Q a) (c56l34 e n Q (c56l0 e n Q a) b)) 0 1 2 6 7) w_any) w_any) w_any)))) w_any))) w_any)))) w_any)
end
end Go.Vi
namespace Go.Vi
open Go.Proofs Go.Proofs.Tryz
def c57j24 (e n : Nat) (Q : QT) (a : F4) : F4 :=
  fun b c d g => oAdd3A g (I 1) fun g => a b c d g
def c57j104 (e n : Nat) (Q : QT) (a : F4) (a : F7) : F7 :=
  fun b c d g h i j => oAdd3A j (I 1) fun j => a b c d g h i j
section
variable (e n : Nat) (Q : QT)
def c57l73b (a : F4) (b : F7) : F7 :=
  fun c d g h i j k => oFL 0 i fun l => oLenL l fun l => oLss3 k l fun l => hVT l c fun o => hQT l (qNil o) fun o => hQT l (qFA 1 o) fun o => hQT l (qLoad1 o) fun o => hQT l (qEql3 o (I 0)) fun o => oPick l o bF fun l => cN l (dS (dV (dV (dFL 0 i fun l => dV (dIA 1 l k fun l => dLoad1 l fun l => dC 89 [g, l] fun l => dIA 5 g l fun l => dFA 1 l fun l => dLoadN 2 l fun l => dV (dV (dIA 2 j k fun o => dLoadN 2 o fun o => dBin .neq 74 l o fun l => dE [0, 0, 0, 4, 0, 28, 60, 126, 255, 511, 1023, 0, 0, 6144, 14336, 32767] (cN l (oFL 11 i fun l => oC 68 [c, l, I 22] fun l => c57j104 e n Q a b c d g h i j k) (c57j104 e n Q a b c d g h i j k))))))))) (c57j24 e n Q a c d g h)
def c57l73 (a : F4) : Nat → F7
  | 0 => N7
  | m + 1 => c57l73b e n Q a (c57l73 a m)
def c57j65 (a : F4) : F6 :=
  fun b c d g h i => e7 (c57l73 e n Q a) b c d g h i (I 0)
def c57j42 (a : F4) : F5 :=
  fun b c d g h => oFL 10 h fun i => oLenL i fun i => oGtr3 i (I 0) fun i => cN i (c57j24 e n Q a b c d g) (oFA 1 h fun i => oLoadN 9 i fun i => oCA 92 [b, i, d] fun i => oNFL 1 b fun j => oEql3 j (I 0) fun j => hVT j i fun k => hQT j (qLenL k) fun k => hQT j (qFA 0 h) fun l => hQT j (qLoad1 l) fun l => hQT j (qLenL l) fun l => hQT j (qNeq3 k l) fun k => oPick j k bF fun j => cN j (oFL 11 h fun j => oC 68 [b, j, I 23] fun j => c57j65 e n Q a b c d g h i) (c57j65 e n Q a b c d g h i))
def c57l195b (a : F4) (b : F6) : F6 :=
  fun c d g h i j => oFL 10 i fun k => oLenL k fun k => oLss3 j k fun k => hVT k c fun l => hQT k (qNil l) fun l => hQT k (qFA 1 l) fun l => hQT k (qLoad1 l) fun l => hQT k (qEql3 l (I 0)) fun l => oPick k l bF fun k => cN k (oFL 10 i fun k => oIA 6 k j fun k => oLoadN 6 k fun k => oBx zS fun l => oStore 6 k l fun _ => dS (dV (dApp 5 64 .nil g fun k => dFL 3 l fun o => dApp 5 64 k o fun k => dAsg k fun k => dE [0, 1, 0, 4, 15, 31] (oFL 3 l fun o => oC 55 [c, o] fun o => oFL 3 l fun o => oC 56 [c, o, k] fun o => oFL 1 l fun o => oC 91 [c, o, g] fun o => oFL 4 l fun o => oC 57 [c, o, k] fun o => oFL 2 l fun l => oC 91 [c, l, k] fun k => oAdd3A j (I 1) fun j => b c d g h i j)))) (c57j42 e n Q a c d g h i)
def c57l195 (a : F4) : Nat → F6
  | 0 => N6
  | m + 1 => c57l195b e n Q a (c57l195 a m)
def c57l0b (a : F4) : F4 :=
  fun b c d g => oLenL c fun h => oLss3 g h fun h => hVT h b fun i => hQT h (qNil i) fun i => hQT h (qFA 1 i) fun i => hQT h (qLoad1 i) fun i => hQT h (qEql3 i (I 0)) fun i => oPick h i bF fun h => cN h (oIA 12 c g fun h => oLoadN 12 h fun h => oBx zI fun i => oStore 12 h i fun _ => e6 (c57l195 e n Q a) b c d g i (I 0)) (r0 e n Q)
def c57l0 : Nat → F4
  | 0 => N4
  | m + 1 => c57l0b e n Q (c57l0  m)
def c57 : F3 :=
  fun a b c => e4 (c57l0 e n Q) a b c (I 0)
theorem c57_pq : P3 57 c57 :=
  p3 func57 138 fun e n Q => (w_seq (w_block (wL (fun m => J4 (c57l0 e n Q m) 0 1 2 6) (fun a => (w_seq (w_seq (wA (J4 (c57j24 e n Q (c57l0 e n Q a)) 0 1 2 6) w_any) (w_block (w_seq (w_seq (wA (J5 (c57j42 e n Q (c57l0 e n Q a)) 0 1 2 6 7) (w_seq (w_seq (w_seq (wA (J6 (c57j65 e n Q (c57l0 e n Q a)) 0 1 2 6 7 11) (w_seq (w_block (wL (fun m => J7 (c57l73 e n Q (c57l0 e n Q a) m) 0 1 2 6 7 11 12) (fun b => (w_seq (w_seq (wA (J7 (c57j104 e n Q (c57l0 e n Q a) (c57l73 e n Q (c57l0 e n Q a) b)) 0 1 2 6 7 11 12) w_any) w_any) w_any)))) w_any)) w_any) w_any) w_any)) (w_seq (w_block (wL (fun m => J6 (c57l195 e n Q (c57l0 e n Q a) m) 0 1 2 6 7 8) (fun a => w_any))) w_any)) w_any))) w_any)))) w_any)
def c89j0 : F0 :=
  r1 (I (-1)) e n Q
def c89l8b (a : F3) : F3 :=
  fun b c d => oGeq3 d (I 0) fun g => cN g (oIA 5 b d fun g => oFL 0 g fun g => oBin .eql 9 g c fun g => cN g (oAsg d fun g => r1 g e n Q) (oSub3A d (I 1) fun d => a b c d)) (c89j0 e n Q)
def c89l8 : Nat → F3
  | 0 => N3
  | m + 1 => c89l8b e n Q (c89l8  m)
def c89 : F2 :=
  fun a b => oLenL a fun c => oSub3A c (I 1) fun c => e3 (c89l8 e n Q) a b c
theorem c89_pq : P2 89 c89 :=
  p2 func89 21 fun e n Q => (w_seq (w_seq (wA (J0 (c89j0 e n Q)) w_any) (w_seq (w_block (wL (fun m => J3 (c89l8 e n Q m) 0 1 5) (fun a => w_any))) w_any)) w_any)
def c90 : F0 :=
  oBx [I 0, I 0] fun a => oBuild [I 0, I 0] [(some (0, 1), (I 1))] fun b => oStore 2 b a fun _ => rF (fun s => [qCell (qLoadN 2 a) s]) e n Q
theorem c90_pq : P0 90 c90 :=
  p0 func90 2 fun e n Q => w_any
def c92j28 : F4 :=
  fun a b c d => oNeq3 c (I 0) fun g => cN g (oFL 8 b fun b => oC 68 [a, b, c] fun a => oOwn fun a => r1 a e n Q) (oLoadN 2 d fun a => oBsl 2 [a] fun a => oAsg a fun a => r1 a e n Q)
def c92j126 : F5 :=
  fun a b c d g => oIA 2 c (I 0) fun c => oLoadN 2 c fun c => oStore 2 c g fun _ => c92j28 e n Q a b d g
def c92j205 : F5 :=
  fun a b c d g => oFS 0 1 g d fun _ => c92j28 e n Q a b c d
def c92j280 : F5 :=
  fun a b c d g => oIA 2 c (I 1) fun c => oLoadN 2 c fun c => oStore 2 c g fun _ => c92j28 e n Q a b d g
def c92j361 : F5 :=
  fun a b c d g => oIA 2 c (I 0) fun c => oLoadN 2 c fun c => oStore 2 c g fun _ => c92j28 e n Q a b d g
def c92j398 : F5 :=
  fun a b c d g => oIA 2 c (I 0) fun c => oLoadN 2 c fun c => oStore 2 c g fun _ => c92j28 e n Q a b d g
def c92j447 : F5 :=
  fun a b c d g => oIA 2 c (I 0) fun c => oLoadN 2 c fun c => oStore 2 c g fun _ => c92j28 e n Q a b d g
def c92j528 : F4 :=
  fun a b c d => oFA 3 b fun g => oLoadN 2 g fun g => oStore 2 g d fun _ => c92j28 e n Q a b c d
def c92j552 : F4 :=
  fun a b c d => oC 90 [] fun g => oStore 2 g d fun _ => c92j28 e n Q a b c d
def c92j619 : F5 :=
  fun a b c d g => oEql3 d (I 0) fun h => hVT h c fun c => hQT h (qLenL c) fun c => hQT h (qGtr3 c (I 16)) fun c => oPick h c bF fun c => cN c (c92j28 e n Q a b (I 23) g) (c92j28 e n Q a b d g)
def c92j650 (e n : Nat) (Q : QT) (a : F6) : F6 :=
  fun b c d g h i => oAdd3A i (I 1) fun i => a b c d g h i
def c92l636b (a : F6) : F6 :=
  fun b c d g h i => oLenL d fun j => oLss3 i j fun j => cN j (dS (dV (dV (dIA 2 d i fun j => dLoadN 2 j fun j => dV (dIA 2 d (I 0) fun k => dLoadN 2 k fun k => dBin .neq 74 j k fun j => dV (eVF j d fun k => eVF j i fun l => eQF j (qIA 2 k l) fun k => eQF j (qFA 1 k) fun k => eQF j (qLoad1 k) fun k => eQF j (qGtr3 k (I 0)) fun k => dPick j bT k fun j => dE [0, 0, 3, 7, 0, 16, 48, 127, 255, 511, 511, 2047, 4095, 8191, 16383, 32767] (cN j (c92j650 e n Q a b c d (I 22) h i) (c92j650 e n Q a b c d g h i)))))))) (c92j619 e n Q b c d g h)
def c92l636 : Nat → F6
  | 0 => N6
  | m + 1 => c92l636b e n Q (c92l636  m)
def c92j714 : F5 :=
  fun a b c d g => oIA 2 c (I 0) fun c => oFL 0 c fun c => oFS 0 1 c g fun _ => c92j28 e n Q a b d g
def c92j773 : F5 :=
  fun a b c d g => dS (dV (dIA 2 c (I 0) fun c => dFL 0 c fun c => dFL 5 b fun h => dBuild [I 0, I 0] [(some (0, 1), c), (some (1, 1), h)] fun c => dStore 2 c g fun _ => dE [0, 1, 3, 7, 0, 16, 63, 127] (c92j28 e n Q a b d g)))
def c92j588 : F7 :=
  fun a b c d g h i => cN i (oLoadN 9 b fun i => oCA 113 [a, i, c] fun i => r1 i e n Q) (oEql3A h (I 15) fun i => cN i (oIA 2 c (I 0) fun i => oFL 0 i fun i => oLenL c fun j => oBuild [I 0, I 0] [(some (0, 1), i), (some (1, 1), j)] fun i => oStore 2 i g fun _ => e6 (c92l636 e n Q) a b c d g (I 0)) (oEql3A h (I 16) fun i => cN i (oIA 2 c (I 0) fun i => oFL 1 i fun i => oEql3A i (I 0) fun i => cN i (c92j714 e n Q a b c (I 22) g) (dS (dFL 5 b fun i => dV (dIA 2 c (I 0) fun j => dFL 1 j fun j => dGeq3 i j fun i => dAsg i fun i => dE [0, 1, 0, 4, 12, 28, 63, 127] (cN i (c92j714 e n Q a b c (I 23) g) (c92j714 e n Q a b c d g)))))) (oEql3A h (I 17) fun h => cN h (oIA 2 c (I 0) fun h => oFL 1 h fun h => oGtr3A h (I 0) fun h => cN h (c92j773 e n Q a b c (I 22) g) (oFL 5 b fun h => oLss3 h (I 1) fun h => hQF h (qFA 5 b) fun i => hQF h (qLoad1 i) fun i => hQF h (qGtr3 i (I 16)) fun i => oPick h bT i fun h => oAsg h fun h => cN h (c92j773 e n Q a b c (I 23) g) (c92j773 e n Q a b c d g))) (c92j28 e n Q a b d g))))
def c92j351 : F8 :=
  fun a b c d g h i j => cN j (dS (dV (dIA 2 d (I 0) fun j => dLoadN 2 j fun j => dV (dIA 2 d (I 1) fun k => dLoadN 2 k fun k => dBin .neq 74 j k fun j => dE [0, 1, 3, 0, 8, 24, 63] (cN j (c92j361 e n Q a c d (I 22) h) (c92j361 e n Q a c d g h)))))) (oEql3A i (I 9) fun j => cN j (dS (dV (dV (dFL 2 c fun j => dC 89 [b, j] fun j => dIA 5 b j fun j => dFA 1 j fun j => dLoadN 2 j fun j => dC 90 [] fun k => dBin .neq 74 j k fun j => dE [0, 0, 0, 4, 14, 31, 63, 127, 30, 511] (cN j (c92j398 e n Q a c d (I 22) h) (c92j398 e n Q a c d g h)))))) (oEql3A i (I 10) fun j => cN j (dS (dV (dV (dFL 2 c fun j => dC 89 [b, j] fun j => dIA 5 b j fun b => dFA 1 b fun b => dLoadN 2 b fun b => dC 90 [] fun j => dBin .neq 74 b j fun b => dV (eVF b d fun j => eQF b (qIA 2 j (I 0)) fun j => eQF b (qLoadN 2 j) fun j => eVF b d fun k => eQF b (qIA 2 k (I 1)) fun k => eQF b (qLoadN 2 k) fun k => eQF b (qB .neq 74 j k) fun j => dPick b bT j fun b => dE [0, 0, 0, 4, 14, 31, 63, 127, 30, 511, 1023, 2047, 4095, 8191, 2047, 18431, 51199, 131071, 262143] (cN b (c92j447 e n Q a c d (I 22) h) (c92j447 e n Q a c d g h))))))) (oEql3A i (I 11) fun b => cN b (oIA 2 d (I 0) fun b => oFL 1 b fun b => oGtr3 b (I 0) fun b => cN b (c92j528 e n Q a c (I 22) h) (c92j528 e n Q a c g h)) (oEql3A i (I 12) fun b => cN b (oFL 5 c fun b => oLss3 b (I 1) fun b => hQF b (qFA 5 c) fun j => hQF b (qLoad1 j) fun j => hQF b (qGtr3 j (I 64)) fun j => oPick b bT j fun b => hQF b (qFA 6 c) fun j => hQF b (qLoad1 j) fun j => hQF b (qFA 5 c) fun k => hQF b (qLoad1 k) fun k => hQF b (qGeq3 j k) fun j => oPick b bT j fun b => cN b (c92j552 e n Q a c (I 23) h) (c92j552 e n Q a c g h)) (oEql3A i (I 13) fun b => cN b (c92j588 e n Q a c d g h i b) (oEql3A i (I 14) fun b => cN b (c92j588 e n Q a c d g h i b) (oEql3A i (I 18) fun b => cN b (c92j588 e n Q a c d g h i b) (oEql3A i (I 19) fun b => c92j588 e n Q a c d g h i b))))))))
def c92j6 : F4 :=
  fun a b c d => oNFL 1 a fun g => oNeq3 g (I 0) fun g => cN g (oOwn fun g => r1 g e n Q) (oBuild [I 0, I 0] [] fun g => oBx [I 0, I 0] fun h => oStore 2 g h fun _ => oFL 0 c fun g => oEql3A g (I 1) fun i => cN i (oFA 3 c fun i => oLoadN 2 i fun i => oStore 2 i h fun _ => c92j28 e n Q a c (I 0) h) (oEql3A g (I 2) fun i => cN i (oFL 2 c fun i => oC 89 [b, i] fun i => oIA 5 b i fun i => oFA 1 i fun i => oLoadN 2 i fun i => oStore 2 i h fun _ => c92j28 e n Q a c (I 0) h) (oEql3A g (I 3) fun i => cN i (dS (dFL 1 c fun i => dV (dIA 2 d (I 0) fun j => dFL 0 j fun j => dC 111 [i, j, I 0] fun i => dV (dEx 0 i fun j => dEx 1 i fun i => dAsg j fun j => dAsg i fun i => dE [0, 1, 0, 4, 12, 28, 63, 127, 255, 255, 511, 2047] (oUn .not i fun i => hVF i d fun j => hQF i (qIA 2 j (I 0)) fun j => hQF i (qFA 1 j) fun j => hQF i (qLoad1 j) fun j => hQF i (qGtr3 j (I 0)) fun j => oPick i bT j fun i => cN i (c92j126 e n Q a c d (I 22) h) (c92j126 e n Q a c d (I 0) h)))))) (oEql3A g (I 4) fun i => cN i (dS (dFL 1 c fun i => dV (dIA 2 d (I 0) fun j => dFL 0 j fun j => dC 112 [i, j, I 0, I 0] fun i => dV (dEx 0 i fun j => dEx 1 i fun k => dEx 2 i fun i => dAsg j fun j => dAsg k fun j => dAsg i fun i => dE [0, 1, 0, 4, 12, 28, 63, 127, 255, 255, 255, 511, 3071, 8191] (dS (dV (dUn .not i fun i => dV (eVF i d fun k => eQF i (qIA 2 k (I 0)) fun k => eQF i (qFA 1 k) fun k => eQF i (qLoad1 k) fun k => eQF i (qGtr3 k (I 0)) fun k => dPick i bT k fun i => dV (eVF i d fun k => eQF i (qIA 2 k (I 1)) fun k => eQF i (qLoadN 2 k) fun k => eVF i d fun l => eQF i (qIA 2 l (I 0)) fun l => eQF i (qLoadN 2 l) fun l => eQF i (qB .neq 74 k l) fun k => dPick i bT k fun i => dE [0, 1, 3, 7, 15, 31, 63, 127, 255, 511, 1023, 2047, 4095, 1023, 9215, 25599, 65535, 131071] (cN i (c92j205 e n Q a c (I 22) h j) (c92j205 e n Q a c (I 0) h j))))))))))) (oEql3A g (I 5) fun i => cN i (dS (dV (dIA 2 d (I 0) fun i => dLoadN 2 i fun i => dC 90 [] fun j => dBin .neq 74 i j fun i => dV (eVF i d fun j => eQF i (qIA 2 j (I 1)) fun j => eQF i (qLoadN 2 j) fun j => eVF i d fun k => eQF i (qIA 2 k (I 2)) fun k => eQF i (qLoadN 2 k) fun k => eQF i (qB .neq 74 j k) fun j => dPick i bT j fun i => dE [0, 1, 3, 0, 15, 31, 63, 127, 255, 63, 575, 1599, 4095, 8191] (cN i (c92j280 e n Q a c d (I 22) h) (c92j280 e n Q a c d (I 0) h)))))) (oEql3A g (I 6) fun i => cN i (oIA 2 d (I 0) fun i => oLoadN 2 i fun i => oStore 2 i h fun _ => c92j28 e n Q a c (I 0) h) (oEql3A g (I 7) fun i => cN i (c92j351 e n Q a b c d (I 0) h g i) (oEql3A g (I 8) fun i => c92j351 e n Q a b c d (I 0) h g i))))))))
def c92l858b (a : F5) : F5 :=
  fun b c d g h => oFL 7 d fun i => oLenL i fun i => oLss3 h i fun i => hVT i b fun j => hQT i (qNil j) fun j => hQT i (qFA 1 j) fun j => hQT i (qLoad1 j) fun j => hQT i (qEql3 j (I 0)) fun j => oPick i j bF fun i => cN i (oFL 7 d fun i => oIA 9 i h fun i => oLoadN 9 i fun i => oC 110 [b, i, c] fun i => oBsl 2 [i] fun i => oApp 2 16 g i fun i => oAsg i fun i => oAdd3A h (I 1) fun h => a b c d i h) (c92j6 e n Q b c d g)
def c92l858 : Nat → F5
  | 0 => N5
  | m + 1 => c92l858b e n Q (c92l858  m)
def c92 : F3 :=
  fun a b c => oBox b fun b => oOwn fun d => oOwn fun d => e5 (c92l858 e n Q) a c b d (I 0)
theorem c92_pq : P3 92 c92 :=
  p3 func92 325 fun e n Q => (w_seq (w_seq (w_seq (wA (J4 (c92j6 e n Q) 0 2 4 7) (w_seq (w_seq (w_seq (w_seq (wA (J4 (c92j28 e n Q) 0 4 9 10) w_any) (w_seq (w_block (w_seq (w_cond w_any (w_seq (w_cond w_any (w_seq (w_cond (w_seq (w_seq (wA (J5 (c92j126 e n Q) 0 4 7 9 10) w_any) w_any) w_any) (w_seq (w_cond (w_seq (w_seq (wA (J5 (c92j205 e n Q) 0 4 9 10 14) w_any) w_any) w_any) (w_seq (w_cond (w_seq (wA (J5 (c92j280 e n Q) 0 4 7 9 10) w_any) w_any) (w_seq (w_cond w_any (w_seq (wA (J8 (c92j351 e n Q) 0 2 4 7 9 10 49 145) (w_cond (w_seq (wA (J5 (c92j361 e n Q) 0 4 7 9 10) w_any) w_any) (w_seq (w_cond (w_seq (wA (J5 (c92j398 e n Q) 0 4 7 9 10) w_any) w_any) (w_seq (w_cond (w_seq (wA (J5 (c92j447 e n Q) 0 4 7 9 10) w_any) w_any) (w_seq (w_cond (w_seq (wA (J4 (c92j528 e n Q) 0 4 9 10) w_any) w_any) (w_seq (w_cond (w_seq (wA (J4 (c92j552 e n Q) 0 4 9 10) w_any) w_any) (w_seq (wA (J7 (c92j588 e n Q) 0 4 7 9 10 49 224) (w_cond w_any (w_seq (w_cond (w_seq (w_seq (wA (J5 (c92j619 e n Q) 0 4 7 9 10) w_any) (w_seq (w_block (wL (fun m => J6 (c92l636 e n Q m) 0 4 7 9 10 16) (fun a => (w_seq (w_seq (wA (J6 (c92j650 e n Q (c92l636 e n Q a)) 0 4 7 9 10 16) w_any) w_any) w_any)))) w_any)) w_any) (w_seq (w_cond (w_seq (wA (J5 (c92j714 e n Q) 0 4 7 9 10) w_any) w_any) (w_seq (w_cond (w_seq (wA (J5 (c92j773 e n Q) 0 4 7 9 10) w_any) w_any) w_any) w_any)) w_any)) w_any))) w_any)) w_any)) w_any)) w_any)) w_any))) w_any)) w_any)) w_any)) w_any)) w_any)) w_any)) w_any)) w_any)) w_any) w_any) w_any)) (w_seq (w_block (wL (fun m => J5 (c92l858 e n Q m) 0 2 4 7 8) (fun a => w_any))) w_any)) w_any) w_any)
def c110j10 : F3 :=
  fun a b c => oNFL 1 a fun a => oNeq3 a (I 0) fun a => cN a (oBuild [I 0, I 0] [] fun a => oStore 2 a b fun _ => rF (fun s => [qCell (qLoadN 2 b) s]) e n Q) (oIA 2 c (I 0) fun a => oLoadN 2 a fun a => oStore 2 a b fun _ => rF (fun s => [qCell (qLoadN 2 b) s]) e n Q)
def c110 : F3 :=
  fun a b c => oBox b fun b => oBx [I 0, I 0] fun d => oLoadN 9 b fun g => oCA 92 [a, g, c] fun c => oNFL 1 a fun g => oEql3 g (I 0) fun g => hVT g c fun h => hQT g (qLenL h) fun h => hQT g (qNeq3 h (I 1)) fun h => oPick g h bF fun g => cN g (oFL 8 b fun b => oC 68 [a, b, I 23] fun b => c110j10 e n Q a d c) (c110j10 e n Q a d c)
theorem c110_pq : P3 110 c110 :=
  p3 func110 35 fun e n Q => (w_seq (w_seq (w_seq (wA (J3 (c110j10 e n Q) 0 6 7) w_any) w_any) w_any) w_any)
def c155 : F1 :=
  fun a => oGeq3 a (I 2) fun b => hVT b a fun a => hQT b (qLeq3 a (I 5)) fun a => oPick b a bF fun a => oAsg a fun a => r1 a e n Q
theorem c155_pq : P1 155 c155 :=
  p1 func155 9 fun e n Q => w_any
end
end Go.Vi
namespace Go.Vi
open Go.Proofs Go.Proofs.Tryz
section
variable (e n : Nat) (Q : QT)
def c117 : F1 :=
  fun a => oEql3 a (I 13) fun b => hVF b a fun c => hQF b (qEql3 c (I 14)) fun c => oPick b bT c fun b => hVF b a fun c => hQF b (qEql3 c (I 18)) fun c => oPick b bT c fun b => hVF b a fun a => hQF b (qEql3 a (I 19)) fun a => oPick b bT a fun a => oAsg a fun a => r1 a e n Q
theorem c117_pq : P1 117 c117 :=
  p1 func117 17 fun e n Q => w_any
def c53 : F1 :=
  fun a => oBx [.nil] fun b => oLenS a fun c => oGtr3 c (I 8000) fun c => cN c (oBuild [.nil] [] fun c => oStore 1 c b fun _ => rF (fun s => [qCell (qLoadN 1 b) s, some bF]) e n Q) (oC 83 [a] fun a => oEx 0 a fun c => oEx 1 a fun d => oEx 2 a fun a => oBx [.nil] fun g => oStore 1 c g fun _ => oAsg d fun c => oAsg a fun a => oLoadN 1 g fun c => oEql3 a (I 0) fun a => oStore 1 c b fun _ => oAsg a fun a => rF (fun s => [qCell (qLoadN 1 b) s, some a]) e n Q)
theorem c53_pq : P1 53 c53 :=
  p1 func53 20 fun e n Q => w_any
def c34 : F1 :=
  fun a => oBx [.nil] fun b => oC 53 [a] fun a => oEx 0 a fun c => oEx 1 a fun a => oBx [.nil] fun d => oStore 1 c d fun _ => oAsg a fun a => oUn .not a fun a => cN a (oLoadN 1 d fun a => oStore 1 a b fun _ => rF (fun s => [qCell (qLoadN 1 b) s, some bF]) e n Q) (oLoadN 1 d fun a => oC 54 [a] fun a => oEx 0 a fun c => oEx 1 a fun a => oAsg c fun c => oAsg a fun a => oLoadN 1 d fun c => oEql3 a (I 0) fun a => oStore 1 c b fun _ => oAsg a fun a => rF (fun s => [qCell (qLoadN 1 b) s, some a]) e n Q)
theorem c34_pq : P1 34 c34 :=
  p1 func34 24 fun e n Q => w_any
def c19 : F1 :=
  fun a => oBx [.nil] fun b => oC 34 [a] fun a => oEx 0 a fun c => oEx 1 a fun a => oBx [.nil] fun d => oStore 1 c d fun _ => oAsg a fun a => oUn .not a fun a => cN a (oLoadN 1 d fun a => oStore 1 a b fun _ => rF (fun s => [qCell (qLoadN 1 b) s, some bF]) e n Q) (oLoadN 1 d fun a => oC 35 [a] fun a => oEx 0 a fun c => oEx 1 a fun a => oAsg c fun c => oAsg a fun a => oLoadN 1 d fun c => oEql3 a (I 0) fun a => oStore 1 c b fun _ => oAsg a fun a => rF (fun s => [qCell (qLoadN 1 b) s, some a]) e n Q)
theorem c19_pq : P1 19 c19 :=
  p1 func19 24 fun e n Q => w_any
end
end Go.Vi
