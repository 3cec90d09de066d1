/- Part of the proof of ClocksDeep (own work). -/
import Derived.Test.YtlonlfiaclacdaaGreatB4
set_option linter.all false
set_option maxRecDepth 100000
namespace Go.Vi
open Go.Proofs Go.Proofs.Tryz
section
variable (X : Mode) (Q : F1)
def g7j41 : F4 :=
  fun a b c d => oBin .add 9 c (.str ⟨#[116, 101, 108]⟩) fun c => oG X 19 [c] fun c => oEx 0 c fun g => oEx 1 c fun c => oBx [.nil] fun h => oStore 1 g h fun _ => oAsg c fun c => oLoadN 1 h fun g => oG X 20 [g] fun g => oEx 0 g fun h => oEx 1 g fun g => oAsg h fun h => oAsg g fun g => oGtr3 b (I 0) fun h => hVT h b fun b => hVT h a fun a => hQT h (qLss3 b a) fun a => oPick h a bF fun a => oAsg a fun a => hVT c d fun b => hQT c (qB .neq 9 b S0) fun b => oPick c b bF fun b => hVT b g fun c => hGT b X 21 [c] fun c => hQT b (qEql3 c (I 27)) fun c => hVT b a fun d => hQT b (qB .eql 4 c d) fun c => oPick b c bF fun b => hVT b a fun a => hVT b a fun a => hVF a g fun c => hGF a X 21 [c] fun c => hQF a (qEql3 c (I 0)) fun c => hQT b (qPick a bT c) fun a => oPick b a bF fun a => oAsg a fun a => s1 a Q
def g7j131 (X : Mode) (Q : F1) (a : F6) : F6 :=
  fun b c d g h i => oAdd3A i (I 1) fun i => a b c d g h i
def g7j174 (a : F6) : F9 :=
  fun b c d g h i j k l => oBin .add 9 g (.str ⟨#[122]⟩) fun g => oBin .add 9 g j fun g => oBin .add 9 g (.str ⟨#[32, 61, 32, 119, 104, 101, 110, 40]⟩) fun g => oBin .add 9 g l fun g => oBin .add 9 g (.str ⟨#[44, 32]⟩) fun g => oBin .add 9 g k fun g => oBin .add 9 g (.str ⟨#[41, 59, 32]⟩) fun g => oAsg g fun g => oAdd3 i (I 1) fun k => oLss3 k b fun k => cN k (oBin .add 9 g (.str ⟨#[99]⟩) fun k => oAdd3 i (I 1) fun l => oAdd3 i (I 2) fun o => oSlS true true (.str ⟨#[48, 49, 50, 51, 52, 53, 54, 55, 56, 57]⟩) [l, o] fun l => oBin .add 9 k l fun k => oBin .add 9 k (.str ⟨#[32, 61, 32, 122]⟩) fun k => oBin .add 9 k j fun j => oBin .add 9 j (.str ⟨#[32, 62, 32, 48, 105, 56, 59, 32]⟩) fun j => oAsg j fun j => g7j131 X Q a b c d j h i) (g7j131 X Q a b c d g h i)
def g7j163 (a : F6) : F9 :=
  fun b c d g h i j k l => oEql3 i c fun o => hVT o i fun p => hQT o (qGtr3 p (I 0)) fun p => oPick o p bF fun o => cN o (g7j174 X Q a b c d g h i j k (.str ⟨#[120]⟩)) (g7j174 X Q a b c d g h i j k l)
def g7j153 (a : F6) : F8 :=
  fun b c d g h i j k => oGtr3 i (I 0) fun l => cN l (oSub3 i (I 1) fun l => oSlS true true (.str ⟨#[48, 49, 50, 51, 52, 53, 54, 55, 56, 57]⟩) [l, i] fun l => oBin .add 9 (.str ⟨#[122]⟩) l fun l => oAsg l fun l => g7j163 X Q a b c d g h i j k l) (g7j163 X Q a b c d g h i j k (.str ⟨#[120]⟩))
def g7l119b (a : F6) : F6 :=
  fun b c d g h i => oLss3 i b fun j => cN j (oAdd3 i (I 1) fun j => oSlS true true (.str ⟨#[48, 49, 50, 51, 52, 53, 54, 55, 56, 57]⟩) [i, j] fun j => oAsg j fun j => oBin .add 9 (.str ⟨#[99]⟩) j fun k => oAsg k fun k => oIA 1 d i fun l => oLoad1 l fun l => oUn .not l fun l => cN l (oBin .add 9 (.str ⟨#[110, 111, 116, 32]⟩) k fun l => oAsg l fun l => g7j153 X Q a b c d g h i j l) (g7j153 X Q a b c d g h i j k)) (g7j41 X Q b c g h)
def g7l119 : Nat → F6
  | 0 => N6
  | m + 1 => g7l119b X Q (g7l119  m)
def g7j30 : F5 :=
  fun a b c d g => oBin .add 9 d (.str ⟨#[108, 101, 116, 32, 121, 32, 61, 32, 120, 59, 32, 99, 48, 32, 61, 32, 116, 114, 117, 101, 59, 32]⟩) fun d => oAsg d fun d => e6 (g7l119 X Q) a b c d g (I 0)
def g7j264 (X : Mode) (Q : F1) (a : F7) : F7 :=
  fun b c d g h i j => oAdd3A j (I 1) fun j => a b c d g h i j
def g7j297 (a : F7) : F8 :=
  fun b c d g h i j k => oBin .add 9 h k fun h => oAsg h fun h => oAsg k fun k => oBin .add 9 g (.str ⟨#[122]⟩) fun g => oBin .add 9 g j fun g => oBin .add 9 g (.str ⟨#[58, 32, 105, 56, 32, 119, 104, 101, 110, 32]⟩) fun g => oBin .add 9 g h fun g => oBin .add 9 g (.str ⟨#[59, 32]⟩) fun g => oAsg g fun g => oAdd3 i (I 1) fun j => oLss3 j b fun j => cN j (oBin .add 9 g (.str ⟨#[99]⟩) fun j => oAdd3 i (I 1) fun l => oAdd3 i (I 2) fun o => oSlS true true (.str ⟨#[48, 49, 50, 51, 52, 53, 54, 55, 56, 57]⟩) [l, o] fun l => oBin .add 9 j l fun j => oBin .add 9 j (.str ⟨#[58, 32, 98, 111, 111, 108, 32, 119, 104, 101, 110, 32]⟩) fun j => oBin .add 9 j h fun j => oBin .add 9 j (.str ⟨#[59, 32]⟩) fun j => oAsg j fun j => g7j264 X Q a b c d j h k i) (g7j264 X Q a b c d g h k i)
def g7j287 (a : F7) : F8 :=
  fun b c d g h i j k => oGtr3 i (I 0) fun l => cN l (oBin .add 9 h (.str ⟨#[32, 97, 110, 100, 32]⟩) fun l => oAsg l fun l => g7j297 X Q a b c d g l i j k) (g7j297 X Q a b c d g h i j k)
def g7l251b (a : F7) : F7 :=
  fun b c d g h i j => oLss3 j b fun k => cN k (oAdd3 j (I 1) fun k => oSlS true true (.str ⟨#[48, 49, 50, 51, 52, 53, 54, 55, 56, 57]⟩) [j, k] fun k => oAsg k fun k => oBin .add 9 (.str ⟨#[99]⟩) k fun l => oAsg l fun l => oIA 1 d j fun o => oLoad1 o fun o => oUn .not o fun o => cN o (oBin .add 9 (.str ⟨#[110, 111, 116, 32, 99]⟩) k fun o => oAsg o fun o => g7j287 X Q a b c d g h j k o) (g7j287 X Q a b c d g h j k l)) (g7j30 X Q b c d g i)
def g7l251 : Nat → F7
  | 0 => N7
  | m + 1 => g7l251b X Q (g7l251  m)
def g7 : F3 :=
  fun a b c => oG X 18 [] fun d => oAsg d fun d => oUn .not d fun g => hVF g a fun h => hQF g (qLss3 h (I 1)) fun h => oPick g bT h fun g => hVF g a fun h => hQF g (qGtr3 h (I 9)) fun h => oPick g bT h fun g => hVF g c fun h => hQF g (qLenL h) fun h => hVF g a fun i => hQF g (qLss3 h i) fun h => oPick g bT h fun g => cN g (oAsg d fun d => s1 d Q) (e7 (g7l251 X Q) a b c (.str ⟨#[110, 111, 100, 101, 32, 102, 40, 120, 58, 32, 105, 56, 41, 32, 114, 101, 116, 117, 114, 110, 115, 32, 40, 121, 58, 32, 105, 56, 41, 32, 118, 97, 114, 32, 99, 48, 58, 32, 98, 111, 111, 108, 59, 32]⟩) S0 S0 (I 0))
theorem g7_cd : D3 false 7 g7 :=
  d3 func7 190 fun X Q => (w_seq (w_seq (w_seq (w_seq (w_seq (w_seq (w_seq (wA (J5 (g7j30 X Q) 0 1 2 8 10) (w_seq (w_seq (wA (J4 (g7j41 X Q) 0 1 8 10) w_any) (w_seq (w_block (wL (fun m => J6 (g7l119 X Q m) 0 1 2 8 10 14) (fun a => (w_seq (w_seq (wA (J6 (g7j131 X Q (g7l119 X Q a)) 0 1 2 8 10 14) w_any) (w_block (w_seq (w_seq (w_seq (wA (J8 (g7j153 X Q (g7l119 X Q a)) 0 1 2 8 10 14 15 16) (w_seq (w_seq (wA (J9 (g7j163 X Q (g7l119 X Q a)) 0 1 2 8 10 14 15 16 17) (w_seq (wA (J9 (g7j174 X Q (g7l119 X Q a)) 0 1 2 8 10 14 15 16 17) w_any) w_any)) w_any) w_any)) w_any) w_any) w_any))) w_any)))) w_any)) w_any)) (w_seq (w_block (wL (fun m => J7 (g7l251 X Q m) 0 1 2 8 9 10 11) (fun a => (w_seq (w_seq (wA (J7 (g7j264 X Q (g7l251 X Q a)) 0 1 2 8 9 10 11) w_any) (w_block (w_seq (w_seq (w_seq (wA (J8 (g7j287 X Q (g7l251 X Q a)) 0 1 2 8 9 11 12 13) (w_seq (wA (J8 (g7j297 X Q (g7l251 X Q a)) 0 1 2 8 9 11 12 13) w_any) w_any)) w_any) w_any) w_any))) w_any)))) w_any)) w_any) w_any) w_any) w_any) w_any) w_any)
def g20j2 (X : Mode) (Q : F1) : F0 :=
  s2 (I 0) (I 0) Q
def g20j42 (X : Mode) (Q : F1) (a : F3) : F4 :=
  fun b c d g => oNFL 2 b fun h => oBin .neq 69 h .nptr fun h => cN h (oNFL 2 b fun b => oNFL 0 b fun b => oAsg b fun b => s2 b (I 27) Q) (oAdd3 g (I 1) fun b => a c d b)
def g20j35 (a : F3) : F5 :=
  fun b c d g h => oFL 3 b fun i => oG X 37 [c, i] fun i => oNFL 2 c fun i => oBin .eql 69 i .nptr fun i => cN i (oFL 4 b fun b => oG X 38 [c, b] fun b => g20j42 X Q a c d g h) (g20j42 X Q a c d g h)
def g20j122 (X : Mode) (Q : F1) (a : F3) (a : F8) : F8 :=
  fun b c d g h i j k => oAdd3 k (I 1) fun k => a b c d g h i j k
def g20l142b (a : F3) (b : F8) (c : F11) : F11 :=
  fun d g h i j k l o p q r => oLss3 r q fun t => cN t (oIA 5 p r fun t => oLoadN 5 t fun t => oBx [S0, I 0, I 0, .nil, I 0] fun u => oStore 5 t u fun _ => dS (dV (dNil g fun t => dFL 0 t fun t => dFL 0 u fun v => dFL 3 u fun u => dG X 36 [u] fun u => dQ (updateQ Tryz.prog 67 t v u) fun _ => dE [0, 1, 3, 7, 0, 16, 0, 64, 192, 511] (oAdd3 r (I 1) fun r => c d g h i j k l o p q r)))) (g20j122 X Q a b d g h i j k l o)
def g20l142 (a : F3) (b : F8) : Nat → F11
  | 0 => N11
  | m + 1 => g20l142b X Q a b (g20l142 a b m)
def g20l108b (a : F3) (b : F8) : F8 :=
  fun c d g h i j k l => oLss3 l k fun o => cN o (oIA 1 j l fun o => oLoad1 o fun o => oAsg o fun o => oLenL o fun p => e11 (g20l142 X Q a b) c d g h i j k l o p (I 0)) (g20j35 X Q a c d g h i)
def g20l108 (a : F3) : Nat → F8
  | 0 => N8
  | m + 1 => g20l108b X Q a (g20l108 a m)
def g20l10b (a : F3) : F3 :=
  fun b c d => oLss3 d c fun g => cN g (oIA 6 b d fun g => oLoadN 6 g fun g => oBx zS fun h => oStore 6 g h fun _ => oMap fun g => oBuild [.nmap, .nmap, .nptr] [(some (0, 1), g)] fun g => oBox g fun g => oAsg g fun g => oFL 1 h fun i => oFL 2 h fun j => oFL 3 h fun k => oBslN 1 [i, j, k] fun i => oLenL i fun j => e8 (g20l108 X Q a) h g b c d i j (I 0)) (g20j2 X Q)
def g20l10 : Nat → F3
  | 0 => N3
  | m + 1 => g20l10b X Q (g20l10  m)
def g20 : F1 :=
  fun a => oBox a fun a => oFL 0 a fun a => oLenL a fun b => e3 (g20l10 X Q) a b (I 0)
theorem g20_cd : D1 false 20 g20 :=
  d1 func20 76 fun X Q => (w_seq (w_seq (wA (J0 (g20j2 X Q)) w_any) (w_seq (w_block (wL (fun m => J3 (g20l10 X Q m) 12 13 14) (fun a => (w_seq (w_seq (w_seq w_any (w_block (w_seq (w_seq (w_seq (wA (J5 (g20j35 X Q (g20l10 X Q a)) 5 6 12 13 14) (w_seq (wA (J4 (g20j42 X Q (g20l10 X Q a)) 6 12 13 14) w_any) w_any)) (w_seq (w_block (wL (fun m => J8 (g20l108 X Q (g20l10 X Q a) m) 5 6 12 13 14 27 28 29) (fun b => (w_seq (w_seq (w_seq (wA (J8 (g20j122 X Q (g20l10 X Q a) (g20l108 X Q (g20l10 X Q a) b)) 5 6 12 13 14 27 28 29) w_any) (w_block (w_seq (w_seq (w_block (wL (fun m => J11 (g20l142 X Q (g20l10 X Q a) (g20l108 X Q (g20l10 X Q a) b) m) 5 6 12 13 14 27 28 29 33 34 35) (fun a => w_any))) w_any) w_any))) w_any) w_any)))) w_any)) w_any) w_any))) w_any) w_any)))) w_any)) w_any)
def g37j12 (X : Mode) (Q : F1) (a : F4) : F4 :=
  fun b c d g => oAdd3 g (I 1) fun g => a b c d g
def g37l34b (a : F4) (b : F8) : F8 :=
  fun c d g h i j k l => oLss3 l k fun o => cN o (oIA 2 j l fun o => oLoadN 2 o fun o => oBx [S0, bF] fun p => oAsg l fun q => oStore 2 o p fun _ => dS (dV (dNil c fun o => dFL 0 o fun o => dFL 0 p fun r => dQ (lookupQ Tryz.prog 67 o r false) fun o => dFL 3 d fun r => dV (dSlL 2 false true r [q] fun q => dG X 58 [o, q] fun o => dUn .not o fun o => dV (eVF o c fun q => eQF o (qFA 0 p) fun p => eQF o (qLoad1 p) fun p => eQF o (qBsl 1 [p]) fun p => eGF o X 59 [q, p] fun p => eQF o (qUn .not p) fun p => dPick o bT p fun o => dE [0, 1, 3, 7, 0, 16, 63, 0, 128, 0, 896, 2047, 4095, 8191, 16383, 16383, 49151, 114687, 262143, 524287, 1048575] (cN o (oFL 4 d fun o => oG X 60 [c, o] fun o => s0 Q) (oAdd3 l (I 1) fun l => b c d g h i j k l))))))) (g37j12 X Q a c g h i)
def g37l34 (a : F4) : Nat → F8
  | 0 => N8
  | m + 1 => g37l34b X Q a (g37l34 a m)
def g37l2b (a : F4) : F4 :=
  fun b c d g => oLss3 g d fun h => cN h (oIA 5 c g fun h => oLoadN 5 h fun h => oBx [S0, I 0, I 0, .nil, I 0] fun i => oStore 5 h i fun _ => oFL 3 i fun h => oLenL h fun j => e8 (g37l34 X Q a) b i c d g h j (I 0)) (s0 Q)
def g37l2 : Nat → F4
  | 0 => N4
  | m + 1 => g37l2b X Q (g37l2  m)
def g37 : F2 :=
  fun a b => oLenL b fun c => e4 (g37l2 X Q) a b c (I 0)
theorem g37_cd : D2 false 37 g37 :=
  d2 func37 49 fun X Q => (w_seq (w_block (wL (fun m => J4 (g37l2 X Q m) 0 8 9 10) (fun a => (w_seq (w_seq (w_seq (wA (J4 (g37j12 X Q (g37l2 X Q a)) 0 8 9 10) w_any) (w_block (w_seq (w_seq (w_block (wL (fun m => J8 (g37l34 X Q (g37l2 X Q a) m) 0 5 8 9 10 15 16 17) (fun a => w_any))) w_any) w_any))) w_any) w_any)))) w_any)
def g38j27 (X : Mode) (Q : F1) (a : F4) : F4 :=
  fun b c d g => oNFL 2 b fun h => oBin .neq 69 h .nptr fun h => cN h (s0 Q) (oAdd3 g (I 1) fun g => a b c d g)
def g38j20 (a : F4) : F5 :=
  fun b c d g h => oFL 10 c fun i => oLenL i fun i => oEql3 i (I 0) fun i => cN i (oLoadN 12 c fun c => oG X 62 [b, c] fun c => g38j27 X Q a b d g h) (g38j27 X Q a b d g h)
def g38l61b (a : F4) (b : F8) : F8 :=
  fun c d g h i j k l => oLss3 l k fun o => cN o (oIA 6 j l fun o => oLoadN 6 o fun o => oBx zS fun p => oStore 6 o p fun _ => oLoadN 6 p fun o => oG X 61 [c, o] fun o => oNFL 2 c fun o => oBin .neq 69 o .nptr fun o => cN o (s0 Q) (oAdd3 l (I 1) fun l => b c d g h i j k l)) (g38j20 X Q a c d g h i)
def g38l61 (a : F4) : Nat → F8
  | 0 => N8
  | m + 1 => g38l61b X Q a (g38l61 a m)
def g38l2b (a : F4) : F4 :=
  fun b c d g => oLss3 g d fun h => cN h (oIA 12 c g fun h => oLoadN 12 h fun h => oBx zI fun i => oStore 12 h i fun _ => oFL 10 i fun h => oLenL h fun j => e8 (g38l61 X Q a) b i c d g h j (I 0)) (s0 Q)
def g38l2 : Nat → F4
  | 0 => N4
  | m + 1 => g38l2b X Q (g38l2  m)
def g38 : F2 :=
  fun a b => oLenL b fun c => e4 (g38l2 X Q) a b c (I 0)
theorem g38_cd : D2 false 38 g38 :=
  d2 func38 43 fun X Q => (w_seq (w_block (wL (fun m => J4 (g38l2 X Q m) 0 8 9 10) (fun a => (w_seq (w_seq (w_seq w_any (w_block (w_seq (w_seq (wA (J5 (g38j20 X Q (g38l2 X Q a)) 0 5 8 9 10) (w_seq (wA (J4 (g38j27 X Q (g38l2 X Q a)) 0 8 9 10) w_any) w_any)) (w_seq (w_block (wL (fun m => J8 (g38l61 X Q (g38l2 X Q a) m) 0 5 8 9 10 15 16 17) (fun a => w_any))) w_any)) w_any))) w_any) w_any)))) w_any)
end
section
variable (e n : Nat) (Q : QT)
def c58j6 : F1 :=
  fun a => oUn .not a fun a => oAsg a fun a => r1 a e n Q
def c58l15b (a : F5) : F5 :=
  fun b c d g h => oLss3 h g fun i => cN i (oAsg h fun i => dS (dV (dV (dIA 2 b i fun j => dLoadN 2 j fun j => dV (dV (dIA 2 c i fun i => dLoadN 2 i fun i => dBin .neq 80 j i fun i => dE [0, 0, 3, 7, 0, 0, 48, 112, 255] (cN i (c58j6 e n Q bT) (oAdd3 h (I 1) fun h => a b c d g h)))))))) (c58j6 e n Q d)
def c58l15 : Nat → F5
  | 0 => N5
  | m + 1 => c58l15b e n Q (c58l15  m)
def c58 : F2 :=
  fun a b => oLenL a fun c => oLenL b fun d => oNeq3 c d fun c => cN c (r1 bF e n Q) (oLenL a fun c => e5 (c58l15 e n Q) a b bF c (I 0))
theorem c58_pq : P2 58 c58 :=
  p2 func58 29 fun e n Q => (w_seq (w_scope (w_seq (w_seq (w_seq (w_seq (wA (J1 (c58j6 e n Q) 5) w_any) (w_seq (w_block (wL (fun m => J5 (c58l15 e n Q m) 0 1 5 13 14) (fun a => w_any))) w_any)) w_any) w_any) w_any)) w_any)
def g59j8 (X : Mode) (Q : F1) : F0 :=
  s1 bT Q
end
section
variable (X : Mode) (Q : F1)
def g59l12b (a : F4) : F4 :=
  fun b c d g => oLss3 g d fun h => cN h (oIA 1 c g fun h => oLoad1 h fun h => oAsg h fun h => oNFL 1 b fun i => oQ (lookupQ Tryz.prog 68 i h false) fun i => oEql3 i (I 0) fun i => hVT i b fun j => hQT i (qNil j) fun j => hQT i (qFA 0 j) fun j => hQT i (qLoad1 j) fun j => hVT i h fun h => hQT i (lookupQ Tryz.prog 67 j h false) fun h => hQT i (qLenL h) fun h => hQT i (qGtr3 h (I 0)) fun h => oPick i h bF fun h => cN h (s1 bF Q) (oAdd3 g (I 1) fun g => a b c d g)) (g59j8 X Q)
def g59l12 : Nat → F4
  | 0 => N4
  | m + 1 => g59l12b X Q (g59l12  m)
def g59 : F2 :=
  fun a b => oNFL 1 a fun c => oBin .eql 68 c .nmap fun c => cN c (s1 bT Q) (oLenL b fun c => e4 (g59l12 X Q) a b c (I 0))
theorem g59_cd : D2 false 59 g59 :=
  d2 func59 36 fun X Q => (w_seq (w_seq (w_seq (wA (J0 (g59j8 X Q)) w_any) (w_seq (w_block (wL (fun m => J4 (g59l12 X Q m) 0 12 13 14) (fun a => w_any))) w_any)) w_any) w_any)
def g60j2 (X : Mode) (Q : F1) : F1 :=
  fun a => oBuild [bF, .nil] [(some (0, 1), bT)] fun b => oStore 2 b a fun _ => sF (fun s => [qCell (qLoadN 2 a) s]) Q
def g60 : F2 :=
  fun a b => oBx [bF, .nil] fun c => oNFL 2 a fun d => oBin .eql 69 d .nptr fun d => cN d (oBuild [I 0] [(some (0, 1), b)] fun b => oBox b fun b => oNil a fun a => oFS 2 1 b a fun _ => g60j2 X Q c) (g60j2 X Q c)
theorem g60_cd : D2 false 60 g60 :=
  d2 func60 17 fun X Q => (w_seq (w_seq (wA (J1 (g60j2 X Q) 4) w_any) w_any) w_any)
def g62l54b (a : F6) : F6 :=
  fun b c d g h i => oLss3 i h fun j => cN j (oIA 1 g i fun j => oLoad1 j fun j => oAsg j fun j => oNFL 0 b fun k => oQ (lookupQ Tryz.prog 67 k j false) fun j => oAsg j fun j => dS (dLoadN 2 d fun k => dV (dG X 99 [k, j] fun k => dUn .not k fun k => dV (eVF k j fun j => eVF k b fun l => eQF k (qNil l) fun l => eQF k (qFA 0 l) fun l => eQF k (qLoad1 l) fun l => eQF k (qFA 0 c) fun o => eQF k (qLoad1 o) fun o => eQF k (qIA 1 o (I 0)) fun o => eQF k (qLoad1 o) fun o => eQF k (lookupQ Tryz.prog 67 l o false) fun l => eGF k X 58 [j, l] fun j => eQF k (qUn .not j) fun j => dPick k bT j fun j => dE [0, 0, 3, 7, 15, 31, 31, 95, 223, 479, 31, 1055, 3103, 7199, 16351, 32767, 65535, 131071] (cN j (oFL 11 c fun j => oG X 60 [b, j] fun j => s0 Q) (oAdd3 i (I 1) fun i => a b c d g h i)))))) (s0 Q)
def g62l54 : Nat → F6
  | 0 => N6
  | m + 1 => g62l54b X Q (g62l54  m)
def g62 : F2 :=
  fun a b => oBox b fun b => oFL 0 b fun c => oG X 59 [a, c] fun c => oUn .not c fun c => hVF c a fun d => hQF c (qFA 1 b) fun g => hQF c (qLoadN 9 g) fun g => hGF c X 97 [g] fun g => hGF c X 59 [d, g] fun d => hQF c (qUn .not d) fun d => oPick c bT d fun c => cN c (oFL 11 b fun c => oG X 60 [a, c] fun c => s0 Q) (oFA 1 b fun c => oLoadN 9 c fun c => oG X 98 [a, c] fun c => oBx [bF, .nil] fun d => oStore 2 c d fun _ => oNFL 2 a fun c => oBin .neq 69 c .nptr fun c => cN c (s0 Q) (oFL 0 b fun c => oLenL c fun g => e6 (g62l54 X Q) a b d c g (I 0)))
theorem g62_cd : D2 false 62 g62 :=
  d2 func62 70 fun X Q => (w_seq (w_seq (w_seq (w_seq (w_seq (w_block (wL (fun m => J6 (g62l54 X Q m) 0 3 4 35 36 37) (fun a => w_any))) w_any) w_any) w_any) w_any) w_any)
def g98j6 : F4 :=
  fun a b c d => dS (dV (dFL 0 b fun g => dG X 116 [a, g] fun a => dLoadN 9 b fun b => dV (dD X [a, b, d] fun a => dStore 2 a c fun _ => dE [0, 0, 2, 7, 0, 0, 63, 127] (sF (fun s => [qCell (qLoadN 2 c) s]) Q))))
def g98l42b (a : F7) : F7 :=
  fun b c d g h i j => oLss3 j i fun k => cN k (oIA 9 h j fun k => oLoadN 9 k fun k => oBx zE fun l => oStore 9 k l fun _ => oLoadN 9 l fun k => oG X 98 [b, k] fun k => oBsl 2 [k] fun k => oApp 2 32 g k fun k => oAsg k fun k => oNFL 2 b fun l => oBin .neq 69 l .nptr fun l => cN l (oBuild [bF, .nil] [(some (0, 1), bT)] fun l => oStore 2 l d fun _ => sF (fun s => [qCell (qLoadN 2 d) s]) Q) (oAdd3 j (I 1) fun j => a b c d k h i j)) (g98j6 X Q b c d g)
def g98l42 : Nat → F7
  | 0 => N7
  | m + 1 => g98l42b X Q (g98l42  m)
def g98 : F2 :=
  fun a b => oBox b fun b => oBx [bF, .nil] fun c => oOwn fun d => oFL 7 b fun g => oLenL g fun h => e7 (g98l42 X Q) a b c d g h (I 0)
theorem g98_cd : D2 false 98 g98 :=
  d2 func98 35 fun X Q => (w_seq (w_seq (w_seq (wA (J4 (g98j6 X Q) 0 3 4 5) w_any) (w_seq (w_block (wL (fun m => J7 (g98l42 X Q m) 0 3 4 5 9 10 11) (fun a => w_any))) w_any)) w_any) w_any)
end
section
variable (e n : Nat) (Q : QT)
def c99 : F2 :=
  fun a b => oBox a fun a => oFL 0 a fun c => hQF c (qFA 1 a) fun a => hQF c (qLoad1 a) fun a => hVF c b fun b => hCF c 58 [a, b] fun a => oPick c bT a fun a => oAsg a fun a => r1 a e n Q
theorem c99_pq : P2 99 c99 :=
  p2 func99 13 fun e n Q => w_any
def g116 (X : Mode) (Q : F1) : F2 :=
  fun a b => oEql3A b (I 2) fun c => cN c (oAsg (.bfn 135 [a]) fun c => s1 c Q) (oEql3A b (I 9) fun c => cN c (oAsg (.bfn 136 [a]) fun c => s1 c Q) (oEql3A b (I 10) fun b => cN b (oAsg (.bfn 137 [a]) fun b => s1 b Q) (oAsg (.bfn 138 [a]) fun a => s1 a Q)))
theorem g116_cd : D2 false 116 g116 :=
  d2 func116 20 fun X Q => w_any
def g135 (X : Mode) (Q : F1) : F3 :=
  fun a b c => oBox b fun b => oBx [bF, .nil] fun c => dS (dV (dNil a fun a => dFL 0 a fun a => dFL 2 b fun b => dQ (lookupQ Tryz.prog 67 a b false) fun a => dBuild [bF, .nil] [(some (1, 1), a)] fun a => dStore 2 a c fun _ => dE [0, 1, 3, 7, 0, 16, 63, 127, 255] (sF (fun s => [qCell (qLoadN 2 c) s]) Q)))
theorem g135_cd : D3 false 135 g135 :=
  d3 func135 15 fun X Q => w_any
end
section
variable (X : Mode) (Q : F1)
def g136 : F3 :=
  fun a b c => oBox b fun b => oBx [bF, .nil] fun d => dS (dV (dNil a fun g => dFL 0 g fun g => dFL 2 b fun h => dQ (lookupQ Tryz.prog 67 g h false) fun g => dAsg g fun g => dE [0, 1, 3, 7, 0, 16, 63, 127] (oLenL c fun h => oNeq3 h (I 1) fun h => hVF h c fun c => hQF h (qIA 2 c (I 0)) fun c => hQF h (qLoadN 2 c) fun c => hVF h g fun i => hGF h X 99 [c, i] fun c => hQF h (qUn .not c) fun c => oPick h bT c fun c => cN c (oFL 8 b fun c => oG X 60 [a, c] fun a => oStore 2 a d fun _ => sF (fun s => [qCell (qLoadN 2 d) s]) Q) (oFL 2 b fun a => oFL 5 b fun b => oNeq3 b (I 0) fun b => oG X 158 [g, a, b] fun a => oBuild [bF, .nil] [(some (1, 1), a)] fun a => oStore 2 a d fun _ => sF (fun s => [qCell (qLoadN 2 d) s]) Q))))
theorem g136_cd : D3 false 136 g136 :=
  d3 func136 38 fun X Q => w_any
def g137 : F3 :=
  fun a b c => oBox b fun b => oBx [bF, .nil] fun d => dS (dV (dNil a fun g => dFL 0 g fun g => dFL 2 b fun h => dQ (lookupQ Tryz.prog 67 g h false) fun g => dAsg g fun g => dE [0, 1, 3, 7, 0, 16, 63, 127] (dS (dV (dLenL c fun h => dNeq3 h (I 2) fun h => dV (eVF h c fun i => eQF h (qIA 2 i (I 0)) fun i => eQF h (qLoadN 2 i) fun i => eVF h g fun j => eQF h (qFA 2 b) fun k => eQF h (qLoad1 k) fun k => eGF h X 158 [j, k, bT] fun j => eGF h X 99 [i, j] fun i => eQF h (qUn .not i) fun i => dPick h bT i fun h => dV (eVF h c fun c => eQF h (qIA 2 c (I 1)) fun c => eQF h (qLoadN 2 c) fun c => eVF h g fun i => eQF h (qFA 2 b) fun j => eQF h (qLoad1 j) fun j => eGF h X 158 [i, j, bF] fun i => eGF h X 99 [c, i] fun c => eQF h (qUn .not c) fun c => dPick h bT c fun c => dE [0, 1, 3, 7, 15, 31, 63, 15, 15, 271, 911, 2047, 4095, 8191, 16383, 32767, 65535, 131071, 32767, 32767, 557055, 1867775, 4194303, 8388607, 16777215] (cN c (oFL 8 b fun b => oG X 60 [a, b] fun a => oStore 2 a d fun _ => sF (fun s => [qCell (qLoadN 2 d) s]) Q) (oBuild [bF, .nil] [(some (1, 1), g)] fun a => oStore 2 a d fun _ => sF (fun s => [qCell (qLoadN 2 d) s]) Q)))))))))
theorem g137_cd : D3 false 137 g137 :=
  d3 func137 46 fun X Q => w_any
def g138j10 (X : Mode) (Q : F1) : F2 :=
  fun a b => oLoadN 2 b fun b => oStore 2 b a fun _ => sF (fun s => [qCell (qLoadN 2 a) s]) Q
def g138j33 (X : Mode) (Q : F1) (a : F7) : F7 :=
  fun b c d g h i j => oAdd3 j (I 1) fun j => a b c d g h i j
def g138l20b (a : F7) : F7 :=
  fun b c d g h i j => oLss3 j i fun k => cN k (oIA 2 h j fun k => oLoadN 2 k fun k => oBx [bF, .nil] fun l => oStore 2 k l fun _ => oFL 0 l fun k => oAsg k fun k => cN k (g138j33 X Q a b c d g h i j) (oFL 0 g fun k => oAsg k fun k => cN k (oLoadN 2 l fun k => oStore 2 k g fun _ => g138j33 X Q a b c d g h i j) (oFL 1 g fun k => oFL 1 l fun l => oG X 58 [k, l] fun k => oUn .not k fun k => oAsg k fun k => cN k (oFL 8 c fun k => oG X 60 [b, k] fun k => oStore 2 k d fun _ => sF (fun s => [qCell (qLoadN 2 d) s]) Q) (g138j33 X Q a b c d g h i j)))) (g138j10 X Q d g)
def g138l20 : Nat → F7
  | 0 => N7
  | m + 1 => g138l20b X Q (g138l20  m)
def g138 : F3 :=
  fun a b c => oBox b fun b => oBx [bF, .nil] fun d => oBuild [bF, .nil] [(some (0, 1), bT)] fun g => oBx [bF, .nil] fun h => oStore 2 g h fun _ => oLenL c fun g => e7 (g138l20 X Q) a b d h c g (I 0)
theorem g138_cd : D3 false 138 g138 :=
  d3 func138 37 fun X Q => (w_seq (w_seq (w_seq (wA (J2 (g138j10 X Q) 6 7) w_any) (w_seq (w_block (wL (fun m => J7 (g138l20 X Q m) 0 4 6 7 11 12 13) (fun a => (w_seq (w_seq (w_seq (wA (J7 (g138j33 X Q (g138l20 X Q a)) 0 4 6 7 11 12 13) w_any) w_any) w_any) w_any)))) w_any)) w_any) w_any)
end
section
variable (e n : Nat) (Q : QT)
def c36 : F1 :=
  fun a => oOwn fun b => oBin .eql 75 a .nil fun b => cN b (oOwn fun b => r1 b e n Q) (oBsl 2 [] fun b => oApp 2 24 b a fun a => oAsg a fun a => r1 a e n Q)
theorem c36_pq : P1 36 c36 :=
  p1 func36 8 fun e n Q => w_any
end
section
variable (X : Mode) (Q : F1)
def g97 : F1 :=
  fun a => oBox a fun a => oOwn fun b => oLoadN 9 a fun a => oG X 114 [a, (.fn 115 [])] fun a => oAsg a fun a => s1 a Q
theorem g97_cd : D1 false 97 g97 :=
  d1 func97 5 fun X Q => w_any
def g114r16 (X : Mode) (a b : PV) (c : PV) (d : F0) : F0 :=
  oBx zE fun g => oStore 9 c g fun _ => oLoad1 a fun a => oLoadN 9 g fun c => oD X [a, c] fun a => oEx 0 a fun c => oEx 1 a fun a => oAsg c fun c => oAsg a fun a => cN a (oLoad1 b fun a => oBsl 1 [c] fun c => oApp 1 16 a c fun a => oStore 1 a b fun _ => d) (d)
def g114 : F2 :=
  fun a b => oBox a fun a => oBox b fun b => oOwn fun c => oBx [.nil] fun c => oLoadN 9 a fun a => oG X 134 [a] fun a => oR X a (g114r16 X b c) (oLoad1 c fun a => oAsg a fun a => s1 a Q)
theorem g114_cd : D2 false 114 g114 :=
  d2 func114 24 fun X Q => (w_seq (w_seq (w_seq w_any (w_seq (w_block (w_rng rfl rfl (fun f => (f 10)) (fun _ => rfl) (fun f => g114r16 X (f 3) (f 5)) (fun _ _ _ _ => by kernel_rfl))) w_any)) w_any) w_any)
def g115j6 (X : Mode) (Q : F1) : F1 :=
  fun a => oFL 2 a fun a => oAsg a fun a => s2 a bT Q
def g115j19 : F2 :=
  fun a b => cN b (g115j6 X Q a) (s2 S0 bF Q)
def g115 : F1 :=
  fun a => oBox a fun a => oFL 0 a fun b => oEql3A b (I 2) fun c => cN c (g115j6 X Q a) (oEql3A b (I 9) fun c => cN c (g115j19 X Q a c) (oEql3A b (I 10) fun b => g115j19 X Q a b))
theorem g115_cd : D1 false 115 g115 :=
  d1 func115 13 fun X Q => (w_seq (w_seq w_any (w_seq (w_block (w_seq (wA (J1 (g115j6 X Q) 1) w_any) (w_block (w_block (w_seq w_any (w_seq (w_seq (wA (J2 (g115j19 X Q) 1 8) w_any) w_any) w_any)))))) w_any)) w_any)
def g134 (X : Mode) (Q : F1) : F1 :=
  fun a => oBox a fun a => oAsg (.fn 156 [a]) fun a => s1 a Q
theorem g134_cd : D1 false 134 g134 :=
  d1 func134 4 fun X Q => w_any
def g156 : F2 :=
  fun a b => oLoadN 9 b fun b => oG X 157 [b, a] fun a => s0 Q
theorem g156_cd : D2 false 156 g156 :=
  d2 func156 6 fun X Q => w_any
def g157j8 (X : Mode) (Q : F1) : F0 :=
  s1 bT Q
def g157l16b (a : F4) : F4 :=
  fun b c d g => oLss3 g d fun h => cN h (oIA 9 c g fun h => oLoadN 9 h fun h => oBx zE fun i => oStore 9 h i fun _ => oLoadN 9 i fun h => oG X 157 [h, b] fun h => oUn .not h fun h => cN h (s1 bF Q) (oAdd3 g (I 1) fun g => a b c d g)) (g157j8 X Q)
def g157l16 : Nat → F4
  | 0 => N4
  | m + 1 => g157l16b X Q (g157l16  m)
def g157 : F2 :=
  fun a b => oBox a fun a => oLoadN 9 a fun c => oD X [b, c] fun c => oUn .not c fun c => cN c (s1 bF Q) (oFL 7 a fun a => oLenL a fun c => e4 (g157l16 X Q) b a c (I 0))
theorem g157_cd : D2 false 157 g157 :=
  d2 func157 23 fun X Q => (w_seq (w_seq (w_seq (wA (J0 (g157j8 X Q)) w_any) (w_seq (w_block (wL (fun m => J4 (g157l16 X Q m) 1 12 13 14) (fun a => w_any))) w_any)) w_any) w_any)
def g18 : F0 :=
  oBin .add 9 (.str ⟨#[110, 111, 100, 101, 32, 102, 40, 120, 58, 32, 105, 56, 59, 32, 99, 58, 32, 98, 111, 111, 108, 41, 32, 114, 101, 116, 117, 114, 110, 115, 32, 40, 121, 58, 32, 105, 56, 41, 32, 118, 97, 114, 32, 122, 58, 32, 105, 56, 32, 119, 104, 101, 110, 32, 99, 59, 32, 108, 101, 116, 32, 121, 32, 61, 32, 109, 101, 114, 103, 101, 40, 99, 44, 32, 122, 44, 32, 119, 104, 101, 110, 40, 48, 105, 56, 44, 32, 110, 111, 116, 32, 99, 41, 41, 59, 32, 122, 32, 61, 32]⟩) (.str ⟨#[119, 104, 101, 110, 40, 120, 44, 32, 99, 41, 59, 32, 116, 101, 108]⟩) fun a => oG X 19 [a] fun a => oEx 0 a fun b => oEx 1 a fun a => oBx [.nil] fun c => oStore 1 b c fun _ => oAsg a fun a => oBin .add 9 (.str ⟨#[110, 111, 100, 101, 32, 102, 40, 120, 58, 32, 105, 56, 59, 32, 99, 58, 32, 98, 111, 111, 108, 41, 32, 114, 101, 116, 117, 114, 110, 115, 32, 40, 121, 58, 32, 105, 56, 41, 32, 118, 97, 114, 32, 122, 58, 32, 105, 56, 32, 119, 104, 101, 110, 32, 99, 59, 32, 108, 101, 116, 32, 121, 32, 61, 32, 109, 101, 114, 103, 101, 40, 99, 44, 32, 122, 44, 32, 119, 104, 101, 110, 40, 48, 105, 56, 44, 32, 110, 111, 116, 32, 99, 41, 41, 59, 32, 122, 32, 61, 32]⟩) (.str ⟨#[120, 59, 32, 116, 101, 108]⟩) fun b => oG X 19 [b] fun b => oEx 0 b fun d => oEx 1 b fun b => oBx [.nil] fun g => oStore 1 d g fun _ => oAsg b fun b => oLoadN 1 c fun c => oG X 20 [c] fun c => oEx 0 c fun d => oEx 1 c fun c => oAsg d fun d => oAsg c fun c => oLoadN 1 g fun d => oG X 20 [d] fun d => oEx 0 d fun g => oEx 1 d fun d => oAsg g fun g => oAsg d fun d => hVT a b fun b => oPick a b bF fun a => hVT a c fun b => hGT a X 21 [b] fun b => hQT a (qEql3 b (I 0)) fun b => oPick a b bF fun a => hVT a d fun b => hGT a X 21 [b] fun b => hQT a (qEql3 b (I 27)) fun b => oPick a b bF fun a => hVT a g fun b => hVT a (.str ⟨#[110, 111, 100, 101, 32, 102, 40, 120, 58, 32, 105, 56, 59, 32, 99, 58, 32, 98, 111, 111, 108, 41, 32, 114, 101, 116, 117, 114, 110, 115, 32, 40, 121, 58, 32, 105, 56, 41, 32, 118, 97, 114, 32, 122, 58, 32, 105, 56, 32, 119, 104, 101, 110, 32, 99, 59, 32, 108, 101, 116, 32, 121, 32, 61, 32, 109, 101, 114, 103, 101, 40, 99, 44, 32, 122, 44, 32, 119, 104, 101, 110, 40, 48, 105, 56, 44, 32, 110, 111, 116, 32, 99, 41, 41, 59, 32, 122, 32, 61, 32]⟩) fun c => hQT a (qLenS c) fun c => hQT a (qSub3 c (I 4)) fun c => hQT a (qEql3 b c) fun b => oPick a b bF fun a => oAsg a fun a => s1 a Q
theorem g18_cd : D0 false 18 g18 :=
  d0 func18 53 fun X Q => w_any
end
section
variable (e n : Nat) (Q : QT)
def c21 : F1 :=
  fun a => oAsg a fun a => r1 a e n Q
theorem c21_pq : P1 21 c21 :=
  p1 func21 4 fun e n Q => w_any
def c158 : F3 :=
  fun a b c => oOwn fun d => oLenL a fun d => oLenL a fun g => oCap 2 a [d, g] fun a => oBuild [S0, bF] [(some (0, 1), b), (some (1, 1), c)] fun b => oBsl 2 [b] fun b => oApp 2 24 a b fun a => oAsg a fun a => r1 a e n Q
theorem c158_pq : P3 158 c158 :=
  p3 func158 18 fun e n Q => w_any
end
end Go.Vi
