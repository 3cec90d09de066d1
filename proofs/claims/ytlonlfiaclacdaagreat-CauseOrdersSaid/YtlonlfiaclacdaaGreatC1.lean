/- Part of the proof of CauseOrders (own work, made small). -/
import Derived.Test.YtlonlfiaclacdaaGreatB3
set_option linter.all false
set_option maxRecDepth 100000
namespace Go.Vi
section
open Go.Proofs Go.Proofs.Tryz
section
variable(e n:Nat) (Q:QT)
def c83:F1:=λa=>MM [.nil] λb=>oC 106 [a] λa=>bV 0 a λc=>bV 1 a λd=>bV 2 a λa=>HL c λc=>HL d λd=>HL a λa=>Nc a (I 0) λg=>cN g (JI [.nil] [] λg=>HG 1 g b λ_=>HL d λd=>HL a λa=>rF (λs=>[I8 (G4 1 b) s,some d,some a]) e n Q) (JI [.nil,I 0,I 0,I 0,I 0] [(some (0,1),c)] λa=>Mr a λa=>HL a λa=>oC 107 [a] λc=>MM [.nil] λd=>HG 1 c d λ_=>KZ 2 a λc=>Nc c (I 0) λc=>cN c (dS (gZ [.nil] [] λc=>dV (Nk a λg=>MJ 3 g λg=>dV (Nk a λa=>MJ 2 a λa=>MD 1 c b λ_=>QR g λc=>QR a λa=>dE [0,0,2,6,14,0,32,96,224,1,543,2047] (rF (λs=>[I8 (G4 1 b) s,some c,some a]) e n Q))))) (HN 1 d λa=>HG 1 a b λ_=>rF (λs=>[I8 (G4 1 b) s,some (I 0),some (I 0)]) e n Q))
def ANt:P1 83 c83:=p1 func83 41 λe n Q=>Gs
def S1(a:F3):F4:=λb c d g=>Hv c λh=>ZO h (I 20000) λh=>cN h (Le λh=>HL d λi=>r3 h i (I 2) e n Q) (HN 6 g λh=>Om 6 [h] λh=>PU 6 56 c h λc=>HL c λc=>Ia 0 g λh=>KA h (I 5) λh=>cN h (HL c λh=>r3 h (I 0) (I 0) e n Q) (Ia 1 g λg=>Xc g λg=>H3 d g λd=>a b c d))
def OP(a:F3):F3:=λb c d=>JI zT [(some (0,1),(I 5)),(some (5,1),d)] λg=>MM zT λh=>HG 6 g h λ_=>Xc b λg=>ID d g λg=>cN g (oC 118 [b,d] λg=>bV 0 g λi=>bV 1 g λg=>MM zT λj=>HG 6 i j λ_=>HL g λg=>Nc g (I 0) λi=>cN i (Le λi=>HL d λk=>HL g λg=>r3 i k g e n Q) (HN 6 j λg=>HG 6 g h λ_=>S1 e n Q a b c d h)) (S1 e n Q a b c d h)
def Oy(e n:Nat)(Q:QT)(a:F3)(a:F3)(b:F3):F3:=λc d g=>Xc c λh=>ID g h λh=>Mx h c λi=>Mx h g λj=>Is h (Kp i j) λi=>Is h (qB .neq 5 i (.int .u8 10)) λi=>Hy h i bF λh=>cN h (H3 g (I 1) λh=>b c d h) (a c d g)
def YB(a:F3)(b:F3):Nat->F3
 |0=>N3
 |m+1=>Oy e n Q a b (YB a b m)
def Qe(a:F3)(b:F3):F3:=λc d g=>Xc c λh=>ID g h λh=>cN h (oIS c g λh=>JB .eql 5 h (.int .u8 32) λh=>U8 h c λi=>U8 h g λj=>Kz h (Kp i j) λi=>Kz h (qB .eql 5 i (.int .u8 9)) λi=>Hy h bT i λh=>U8 h c λi=>U8 h g λj=>Kz h (Kp i j) λi=>Kz h (qB .eql 5 i (.int .u8 10)) λi=>Hy h bT i λh=>U8 h c λi=>U8 h g λj=>Kz h (Kp i j) λi=>Kz h (qB .eql 5 i (.int .u8 13)) λi=>Hy h bT i λh=>cN h (H3 g (I 1) λh=>b c d h) (oIS c g λh=>JB .eql 5 h (.int .u8 45) λh=>Mx h g λi=>Is h (AM2 i (I 1)) λi=>Mx h c λj=>Is h (Hw j) λj=>Is h (fU i j) λi=>Hy h i bF λh=>Mx h c λi=>Mx h g λj=>Is h (AM2 j (I 1)) λj=>Is h (Kp i j) λi=>Is h (qB .eql 5 i (.int .u8 45)) λi=>Hy h i bF λh=>cN h (e3 (YB e n Q a b) c d g) (OP e n Q a c d g))) (OP e n Q a c d g)
def WL(a:F3):Nat->F3
 |0=>N3
 |m+1=>Qe e n Q a (WL a m)
def OY(a:F3):F3:=λb c d=>e3 (WL e n Q a) b c d
def Qd:Nat->F3
 |0=>N3
 |m+1=>OY e n Q (Qd m)
def ARh:F1:=λa=>Le λb=>Xc a λb=>QM b (I 65536) λb=>cN b (Le λb=>r3 b (I 0) (I 2) e n Q) (Le λb=>e3 (Qd e n Q) a b (I 0))
def AIq:P1 106 ARh:=p1 func106 105 λe n Q=>(Gt (Gt (Gt (Gt (G7 (wL (λm=>J3 (Qd e n Q m) 0 5 6) λa=>(G7 (Gt (wA (J3 (OP e n Q (Qd e n Q a)) 0 5 6) (Gt (Gt (wA (J4 (S1 e n Q (Qd e n Q a)) 0 5 6 7) Gs) Gs) Gs)) (G7 (wL (λm=>J3 (WL e n Q (Qd e n Q a) m) 0 5 6) λb=>(Gt (G7 (Gt (Jj Gs (Gt (Jj (G7 (wL (λm=>J3 (YB e n Q (Qd e n Q a) (WL e n Q (Qd e n Q a) b) m) 0 5 6) λa=>Gs)) Gs) Gs)) Gs)) Gs))))))) Gs) Gs) Gs) Gs)
def Zl:F2:=λa b=>HN 6 b λb=>HG 6 b a λ_=>rF (λs=>[I8 (G4 6 a) s,some (I 0)]) e n Q
def kX:F4:=λa b c d=>jO d b λg=>QM g (I 40) λg=>cN g (JI zT [] λg=>HG 6 g c λ_=>rF (λs=>[I8 (G4 6 c) s,some (I 2)]) e n Q) (ADj true true a [b,d] λa=>JI zT [(some (0,1),(I 1)),(some (1,1),a),(some (5,1),b)] λa=>MM zT λb=>HG 6 a b λ_=>Ia 1 b λa=>XM 141 [a] λa=>cN a (Nb 0 1 (I 3) b λ_=>Zl e n Q c b) (Zl e n Q c b))
def YJ(a:F4):F4:=λb c d g=>Xc b λh=>ID g h λh=>Mx h b λi=>Mx h g λj=>Is h (Kp i j) λi=>hCT h 139 [i] λi=>Mx h i λi=>U8 i b λj=>U8 i g λk=>Kz i (Kp j k) λj=>hCF i 140 [j] λj=>Is h (Hf i bT j) λi=>Hy h i bF λh=>cN h (H3 g (I 1) λh=>a b c d h) (kX e n Q b c d g)
def Zm:Nat->F4
 |0=>N4
 |m+1=>YJ e n Q (Zm m)
def YH:F6:=λa b c d g h=>ADj true true a [d,h] λi=>XM 142 [i] λi=>QM h d λd=>Mx d i λj=>Is d (fU j (I 2)) λj=>Hy d j bF λd=>cN d (JI zT [] λd=>HG 6 d c λ_=>rF (λs=>[I8 (G4 6 c) s,some (I 11)]) e n Q) (oC 143 [g,i] λd=>bV 0 d λg=>bV 1 d λd=>HL g λg=>HL d λd=>WC .not d λd=>cN d (JI zT [] λd=>HG 6 d c λ_=>rF (λs=>[I8 (G4 6 c) s,some (I 11)]) e n Q) (ADj true true a [b,h] λa=>JI [I 0,I 0] [(some (0,1),i)] λd=>JI zT [(some (0,1),(I 2)),(some (1,1),a),(some (2,1),g),(some (3,2),d),(some (5,1),b)] λa=>HG 6 a c λ_=>rF (λs=>[I8 (G4 6 c) s,some (I 0)]) e n Q))
def VW(a:F6):F6:=λb c d g h i=>Xc b λj=>ID i j λj=>Mx j b λk=>Mx j i λl=>Is j (Kp k l) λk=>hCT j 139 [k] λk=>Mx j k λk=>U8 k b λl=>U8 k i λo=>Kz k (Kp l o) λl=>hCF k 140 [l] λl=>Is j (Hf k bT l) λk=>Hy j k bF λj=>cN j (H3 i (I 1) λj=>a b c d g h j) (YH e n Q b c d g h i)
def YI:Nat->F6
 |0=>N6
 |m+1=>VW e n Q (YI m)
def dw:F4:=λa b c d=>ADj true true a [b,d] λg=>HL g λg=>HL d λh=>e6 (YI e n Q) a b c d g h
def VY(a:F4):F4:=λb c d g=>Xc b λh=>ID g h λh=>Mx h b λi=>Mx h g λj=>Is h (Kp i j) λi=>hCT h 140 [i] λi=>Hy h i bF λh=>cN h (H3 g (I 1) λh=>a b c d h) (dw e n Q b c d g)
def VX:Nat->F4
 |0=>N4
 |m+1=>VY e n Q (VX m)
def ARo:F2:=λa b=>MM zT λc=>HL b λd=>oIS a b λg=>oC 139 [g] λg=>cN g (e4 (Zm e n Q) a b c d) (oIS a b λg=>oC 140 [g] λg=>cN g (e4 (VX e n Q) a b c d) (XM 144 [a,b] λd=>KA d (I 0) λg=>cN g (JI zT [] λg=>HG 6 g c λ_=>rF (λs=>[I8 (G4 6 c) s,some (I 10)]) e n Q) (Ky b d λd=>ADj true true a [b,d] λa=>JI zT [(some (0,1),(I 4)),(some (1,1),a),(some (5,1),b)] λa=>HG 6 a c λ_=>rF (λs=>[I8 (G4 6 c) s,some (I 0)]) e n Q)))
def AIx:P2 118 ARo:=p2 func118 139 λe n Q=>(Gt (Gt (Gt (Gt Gs (Gt (Jj (Gt (wA (J4 (dw e n Q) 0 1 4 6) (Gt (Gt (Gt (wA (J6 (YH e n Q) 0 1 4 6 9 10) Gs) (G7 (wL (λm=>J6 (YI e n Q m) 0 1 4 6 9 10) λa=>Gs))) Gs) Gs)) (G7 (wL (λm=>J4 (VX e n Q m) 0 1 4 6) λa=>Gs))) Gs) Gs)) (Gt (Jj (Gt (wA (J4 (kX e n Q) 0 1 4 6) (Gt (Gt (Gt (Gt (wA (J2 (Zl e n Q) 4 7) Gs) Gs) Gs) Gs) Gs)) (G7 (wL (λm=>J4 (Zm e n Q m) 0 1 4 6) λa=>Gs))) Gs) Gs)) Gs) Gs)
def ARp:F1:=λa=>MM zT λb=>dS (dV (Nk a λc=>MJ 0 c λc=>dV (Nk a λa=>MJ 1 a λa=>PL 6 c a λa=>Jz 6 a λa=>MD 6 a b λ_=>dE [0,1,3,7,0,16,48,112,255,511,1023] (rF (λs=>[I8 (G4 6 b) s]) e n Q))))
def AIy:P1 119 ARp:=p1 func119 13 λe n Q=>Gs
def ARq:F2:=λa b=>oC 119 [a] λc=>MM zT λd=>HG 6 c d λ_=>KZ 2 a λa=>KA a (I 0) λa=>Is a (Iz 0 d) λc=>Is a (G3 c) λc=>Is a (JJ c (I 3)) λc=>Mx a c λc=>Kz c (Iz 0 d) λg=>Kz c (G3 g) λg=>Kz c (JJ g (I 4)) λg=>Is a (Hf c bT g) λc=>Hy a c bF λa=>Is a (Iz 1 d) λc=>Is a (G3 c) λc=>Mx a b λb=>Is a (qB .eql 9 c b) λb=>Hy a b bF λa=>HL a λa=>r1 a e n Q
def AIz:P2 120 ARq:=p2 func120 29 λe n Q=>Gs
def yF:F1:=λa=>KZ 0 a λb=>Hv b λb=>jO b (I 1) λb=>On a λa=>Nb 1 1 b a λ_=>r0 e n Q
def ARr:F2:=λa b=>KZ 2 a λc=>KA c (I 0) λc=>cN c (On a λc=>Nb 2 1 b c λ_=>dS (dV (dV (Nk a λb=>MJ 0 b λb=>dV (Nk a λc=>MJ 1 c λc=>PL 6 b c λb=>MJ 5 b λb=>Nk a λc=>ga 3 c λc=>MD 1 b c λ_=>dE [0,0,2,6,14,0,32,96,224,510,1022,2046,4095,8191,16383] (yF e n Q a)))))) (yF e n Q a)
def AI0:P2 121 ARr:=p2 func121 36 λe n Q=>(Gt (wA (J1 (yF e n Q) 0) Gs) Gs)
def ARt:F3:=λa b c=>ZO b c λb=>cN b (oC 121 [a,I 2] λa=>r1 bT e n Q) (r1 bF e n Q)
def AI1:P3 122 ARt:=p3 func122 12 λe n Q=>Gs
def PS:F2:=λa b=>HN 1 b λb=>HG 1 b a λ_=>rF (λs=>[I8 (G4 1 a) s]) e n Q
def KM(a:F3):F3:=λb c d=>KZ 2 b λg=>KA g (I 0) λg=>Mx g b λh=>hCT g 119 [h] λh=>Is g (LH 0 h) λh=>Is g (UF h (I 5)) λh=>Hy g h bF λg=>cN g (oC 120 [b,(.HK ⟨#[110,111,100,101]⟩)] λg=>HL g λg=>WC .not g λg=>cN g (oC 121 [b,I 12] λg=>PS e n Q c d) (Ia 0 d λg=>Hv g λg=>XM 122 [b,g,I 60] λg=>cN g (PS e n Q c d) (dS (MJ 0 d λg=>dV (dC 123 [b] λh=>Xj 6 [h] λh=>O2 6 120 g h λg=>ga 0 d λh=>MD 1 g h λ_=>dE [0,1,0,4,12,31,63,127] (a b c d)))))) (PS e n Q c d)
def UZ:Nat->F3
 |0=>N3
 |m+1=>KM e n Q (UZ m)
def ARi:F1:=λa=>MM [.nil] λb=>MM [.nil] λc=>e3 (UZ e n Q) a b c
def AIr:P1 107 ARi:=p1 func107 37 λe n Q=>(Gt (Gt (Gt (wA (J2 (PS e n Q) 2 3) Gs) (G7 (wL (λm=>J3 (UZ e n Q m) 0 2 3) λa=>Gs))) Gs) Gs)
def Ub:F3:=λa b c=>oC 145 [a,(.HK ⟨#[108,101,116]⟩)] λd=>oC 150 [a] λd=>Nb 4 1 d c λ_=>oC 145 [a,(.HK ⟨#[116,101,108]⟩)] λa=>HN 6 c λa=>HG 6 a b λ_=>rF (λs=>[I8 (G4 6 b) s]) e n Q
def Ua:F3:=λa b c=>oC 145 [a,(.HK ⟨#[41]⟩)] λd=>oC 145 [a,(.HK ⟨#[114,101,116,117,114,110,115]⟩)] λd=>oC 145 [a,(.HK ⟨#[40]⟩)] λd=>oC 147 [a] λd=>Nb 2 1 d c λ_=>oC 145 [a,(.HK ⟨#[41]⟩)] λd=>oC 148 [a,(.HK ⟨#[118,97,114]⟩)] λd=>HL d λd=>cN d (oC 149 [a] λd=>Nb 3 1 d c λ_=>Ub e n Q a b c) (Ub e n Q a b c)
def ARu:F1:=λa=>MM zS λb=>oC 119 [a] λc=>oF1 5 c λc=>JI zS [(some (5,1),c)] λc=>MM zS λd=>HG 6 c d λ_=>oC 145 [a,(.HK ⟨#[110,111,100,101]⟩)] λc=>oC 146 [a] λc=>Nb 0 1 c d λ_=>oC 145 [a,(.HK ⟨#[40]⟩)] λc=>oC 120 [a,(.HK ⟨#[41]⟩)] λc=>HL c λc=>WC .not c λc=>cN c (oC 147 [a] λc=>Nb 1 1 c d λ_=>Ua e n Q a b d) (Ua e n Q a b d)
def AI2:P1 123 ARu:=p1 func123 49 λe n Q=>(Gt (Gt (Gt (Gt (Gt (Gt (Gt (wA (J3 (Ua e n Q) 0 2 3) (Gt (Gt (Gt (Gt (Gt (Gt (Gt (wA (J3 (Ub e n Q) 0 2 3) Gs) Gs) Gs) Gs) Gs) Gs) Gs) Gs)) Gs) Gs) Gs) Gs) Gs) Gs) Gs)
def ARx:F1:=λa=>JB .geq 5 a (.int .u8 97) λb=>Mx b a λc=>Is b (qB .leq 5 c (.int .u8 122)) λc=>Hy b c bF λb=>U8 b a λc=>Kz b (qB .geq 5 c (.int .u8 65)) λc=>U8 b c λc=>Mx c a λd=>Is c (qB .leq 5 d (.int .u8 90)) λd=>Kz b (Hf c d bF) λc=>Hy b bT c λb=>U8 b a λa=>Kz b (qB .eql 5 a (.int .u8 95)) λa=>Hy b bT a λa=>HL a λa=>r1 a e n Q
def AI5:P1 139 ARx:=p1 func139 21 λe n Q=>Gs
def ARy:F1:=λa=>JB .geq 5 a (.int .u8 48) λb=>Mx b a λa=>Is b (qB .leq 5 a (.int .u8 57)) λa=>Hy b a bF λa=>HL a λa=>r1 a e n Q
def AI6:P1 140 ARy:=p1 func140 9 λe n Q=>Gs
def KI:F1:=λa=>cN a (r1 bT e n Q) (r1 bF e n Q)
def ARz:F1:=λa=>oC 142 [a] λb=>QM b (I 0) λb=>cN b (r1 bT e n Q) (JB .eql 9 a (.HK ⟨#[110,111,100,101]⟩) λb=>HL b λb=>cN b (KI e n Q b) (JB .eql 9 a (.HK ⟨#[114,101,116,117,114,110,115]⟩) λb=>HL b λb=>cN b (KI e n Q b) (JB .eql 9 a (.HK ⟨#[118,97,114]⟩) λb=>HL b λb=>cN b (KI e n Q b) (JB .eql 9 a (.HK ⟨#[108,101,116]⟩) λb=>HL b λb=>cN b (KI e n Q b) (JB .eql 9 a (.HK ⟨#[116,101,108]⟩) λb=>HL b λb=>cN b (KI e n Q b) (JB .eql 9 a (.HK ⟨#[105,102]⟩) λb=>HL b λb=>cN b (KI e n Q b) (JB .eql 9 a (.HK ⟨#[116,104,101,110]⟩) λb=>HL b λb=>cN b (KI e n Q b) (JB .eql 9 a (.HK ⟨#[101,108,115,101]⟩) λb=>HL b λb=>cN b (KI e n Q b) (JB .eql 9 a (.HK ⟨#[110,111,116]⟩) λb=>HL b λb=>cN b (KI e n Q b) (JB .eql 9 a (.HK ⟨#[97,110,100]⟩) λb=>HL b λb=>cN b (KI e n Q b) (JB .eql 9 a (.HK ⟨#[111,114]⟩) λb=>HL b λb=>cN b (KI e n Q b) (JB .eql 9 a (.HK ⟨#[120,111,114]⟩) λb=>HL b λb=>cN b (KI e n Q b) (JB .eql 9 a (.HK ⟨#[109,111,100]⟩) λb=>HL b λb=>cN b (KI e n Q b) (JB .eql 9 a (.HK ⟨#[112,114,101]⟩) λb=>HL b λb=>cN b (KI e n Q b) (JB .eql 9 a (.HK ⟨#[102,98,121]⟩) λb=>HL b λb=>cN b (KI e n Q b) (JB .eql 9 a (.HK ⟨#[119,104,101,110]⟩) λb=>HL b λb=>cN b (KI e n Q b) (JB .eql 9 a (.HK ⟨#[109,101,114,103,101]⟩) λb=>HL b λb=>cN b (KI e n Q b) (JB .eql 9 a (.HK ⟨#[99,97,115,116]⟩) λb=>HL b λb=>cN b (KI e n Q b) (JB .eql 9 a (.HK ⟨#[116,105,99,107]⟩) λb=>HL b λb=>cN b (KI e n Q b) (JB .eql 9 a (.HK ⟨#[114,101,115,101,116]⟩) λb=>HL b λb=>cN b (KI e n Q b) (JB .eql 9 a (.HK ⟨#[114,101,112]⟩) λb=>HL b λb=>cN b (KI e n Q b) (JB .eql 9 a (.HK ⟨#[109,97,112]⟩) λb=>HL b λb=>cN b (KI e n Q b) (JB .eql 9 a (.HK ⟨#[102,111,108,100]⟩) λb=>HL b λb=>cN b (KI e n Q b) (JB .eql 9 a (.HK ⟨#[111,110]⟩) λb=>HL b λb=>cN b (KI e n Q b) (JB .eql 9 a (.HK ⟨#[116,114,117,101]⟩) λb=>HL b λb=>cN b (KI e n Q b) (JB .eql 9 a (.HK ⟨#[102,97,108,115,101]⟩) λb=>HL b λb=>cN b (KI e n Q b) (JB .eql 9 a (.HK ⟨#[97,117,116,111,109,97,116,111,110]⟩) λb=>HL b λb=>cN b (KI e n Q b) (JB .eql 9 a (.HK ⟨#[115,116,97,116,101]⟩) λb=>HL b λb=>cN b (KI e n Q b) (JB .eql 9 a (.HK ⟨#[100,111]⟩) λb=>HL b λb=>cN b (KI e n Q b) (JB .eql 9 a (.HK ⟨#[117,110,108,101,115,115]⟩) λb=>HL b λb=>cN b (KI e n Q b) (JB .eql 9 a (.HK ⟨#[117,110,116,105,108]⟩) λb=>HL b λb=>cN b (KI e n Q b) (JB .eql 9 a (.HK ⟨#[99,111,110,116,105,110,117,101]⟩) λb=>HL b λb=>cN b (KI e n Q b) (JB .eql 9 a (.HK ⟨#[101,110,100]⟩) λa=>HL a λa=>KI e n Q a)))))))))))))))))))))))))))))))))
def AI7:P1 141 ARz:=p1 func141 41 λe n Q=>(Gt (Gt (Gt Gs (Gt (G7 (Gt (wA (J1 (KI e n Q) 7) Gs) Gs)) Gs)) Gs) Gs)
def rC:F0:=r1 (I 0) e n Q
def WO(a:F3):F3:=λb c d=>Hv c λg=>ID d g λg=>cN g (Kq 1 c d λg=>JR g λg=>JB .eql 9 g b λg=>cN g (H3 d (I 1) λg=>r1 g e n Q) (H3 d (I 1) λd=>a b c d)) (rC e n Q)
def kY:Nat->F3
 |0=>N3
 |m+1=>WO e n Q (kY m)
def AR0:F1:=λa=>Om 1 [(.HK ⟨#[98,111,111,108]⟩),(.HK ⟨#[105,56]⟩),(.HK ⟨#[105,49,54]⟩),(.HK ⟨#[105,51,50]⟩),(.HK ⟨#[105,54,52]⟩),(.HK ⟨#[117,56]⟩),(.HK ⟨#[117,49,54]⟩),(.HK ⟨#[117,51,50]⟩),(.HK ⟨#[117,54,52]⟩)] λb=>HL b λb=>e3 (kY e n Q) a b (I 0)
def AI8:P1 142 AR0:=p1 func142 20 λe n Q=>(Gt (Gt (Gt (wA (J0 (rC e n Q)) Gs) (Gt (G7 (wL (λm=>J3 (kY e n Q m) 0 3 4) λa=>Gs)) Gs)) Gs) Gs)
def dz:F3:=λa b c=>oC 155 [a] λd=>cN d (AUi c (I 2) λd=>QM b d λd=>cN d (r2 (I 0) bF e n Q) (XM 128 [a,b] λa=>r2 a bT e n Q)) (ID b c λa=>HL b λb=>HL a λa=>r2 b a e n Q)
def YK(a:F5):F5:=λb c d g h=>ID h d λi=>cN i (AG2 (I 2) g λi=>H3 h (I 1) λh=>a b c d i h) (dz e n Q b c g)
def eA:Nat->F5
 |0=>N5
 |m+1=>YK e n Q (eA m)
def dy:F2:=λa b=>KA a (I 0) λc=>U8 c a λd=>Kz c (JJ d (I 9)) λd=>Hy c bT d λc=>cN c (HL b λc=>r2 c bT e n Q) (KA a (I 5) λc=>cN c (KA b (I (-9223372036854775808)) λc=>cN c (HL b λc=>r2 c bT e n Q) (WC .neg b λc=>HL c λc=>r2 c bT e n Q)) (XM 152 [a] λc=>e5 (eA e n Q) a b c (I 1) (I 0)))
def Pa(e n:Nat)(Q:QT)(a:F4):F4:=λb c d g=>H3 g (I 1) λg=>a b c d g
def Od(a:F4):F7:=λb c d g h i j=>cN j (ABr (I 10) d λj=>H3 j h λj=>QM c (I 0) λk=>Mx k j λl=>Is k (UE l (I 8589934592)) λl=>Hy k l bF λk=>cN k (r2 (I 0) bF e n Q) (Pa e n Q a b c j g)) (IX i (I 5) λj=>cN j (ID d (I (-922337203685477580)) λj=>U8 j d λk=>Kz j (JJ k (I (-922337203685477580))) λk=>U8 j k λk=>Mx k h λl=>Is k (UE l (I 8)) λl=>Kz j (Hf k l bF) λk=>Hy j bT k λj=>cN j (r2 (I 0) bF e n Q) (ABr (I 10) d λj=>XN j h λj=>Pa e n Q a b c j g)) (IX i (I 9) λi=>cN i (ID d (I 0) λi=>U8 i d λj=>Kz i (UE j (I 1844674407370955161)) λj=>Hy i bT j λi=>U8 i d λj=>Kz i (JJ j (I 1844674407370955161)) λj=>U8 i j λj=>Mx j h λk=>Is j (UE k (I 5)) λk=>Kz i (Hf j k bF) λj=>Hy i bT j λi=>cN i (r2 (I 0) bF e n Q) (ABr (I 10) d λi=>H3 i h λh=>Pa e n Q a b c h g)) (Pa e n Q a b c d g)))
def YL(a:F4):F4:=λb c d g=>Xc b λh=>ID g h λh=>cN h (oIS b g λh=>JB .sub 5 h (.int .u8 48) λh=>AUg .i64 h λh=>HL h λh=>IX c (I 0) λi=>cN i (Od e n Q a b c d g h c i) (IX c (I 2) λi=>cN i (Od e n Q a b c d g h c i) (IX c (I 3) λi=>cN i (Od e n Q a b c d g h c i) (IX c (I 4) λi=>cN i (Od e n Q a b c d g h c i) (IX c (I 6) λi=>cN i (Od e n Q a b c d g h c i) (IX c (I 7) λi=>cN i (Od e n Q a b c d g h c i) (IX c (I 8) λi=>Od e n Q a b c d g h c i))))))) (dy e n Q c d)
def Uc:Nat->F4
 |0=>N4
 |m+1=>YL e n Q (Uc m)
def AR1:F2:=λa b=>Xc a λc=>QM c (I 20) λc=>U8 c b λd=>Kz c (JJ d (I 0)) λd=>U8 c d λd=>Mx d a λg=>Is d (Hw g) λg=>Is d (UE g (I 9)) λg=>Kz c (Hf d g bF) λd=>Hy c bT d λc=>cN c (r2 (I 0) bF e n Q) (e4 (Uc e n Q) a b (I 0) (I 0))
def AI9:P2 143 AR1:=p2 func143 126 λe n Q=>(Gt (Gt (Gt (Gt (wA (J2 (dy e n Q) 1 6) (Gt (Gt (Gt (Gt (Gt (wA (J3 (dz e n Q) 1 6 10) Gs) (Gt (G7 (wL (λm=>J5 (eA e n Q m) 1 6 9 10 11) λa=>Gs)) Gs)) Gs) Gs) Gs) Gs)) (Gt (G7 (wL (λm=>J4 (Uc e n Q m) 0 1 6 7) λa=>(Gt (Gt (wA (J4 (Pa e n Q (Uc e n Q a)) 0 1 6 7) Gs) (G7 (Gt (Gt (G7 (Gt (wA (J7 (Od e n Q (Uc e n Q a)) 0 1 6 7 8 35 36) Gs) Gs)) Gs) Gs))) Gs))) Gs)) Gs) Gs) Gs)
def NV:F1:=λa=>cN a (r1 (I 1) e n Q) (r1 (I 0) e n Q)
def kZ:F2:=λa b=>oIS a b λa=>JB .eql 5 a (.int .u8 40) λb=>HL b λb=>cN b (NV e n Q b) (JB .eql 5 a (.int .u8 41) λb=>HL b λb=>cN b (NV e n Q b) (JB .eql 5 a (.int .u8 91) λb=>HL b λb=>cN b (NV e n Q b) (JB .eql 5 a (.int .u8 93) λb=>HL b λb=>cN b (NV e n Q b) (JB .eql 5 a (.int .u8 44) λb=>HL b λb=>cN b (NV e n Q b) (JB .eql 5 a (.int .u8 59) λb=>HL b λb=>cN b (NV e n Q b) (JB .eql 5 a (.int .u8 58) λb=>HL b λb=>cN b (NV e n Q b) (JB .eql 5 a (.int .u8 61) λb=>HL b λb=>cN b (NV e n Q b) (JB .eql 5 a (.int .u8 60) λb=>HL b λb=>cN b (NV e n Q b) (JB .eql 5 a (.int .u8 62) λb=>HL b λb=>cN b (NV e n Q b) (JB .eql 5 a (.int .u8 43) λb=>HL b λb=>cN b (NV e n Q b) (JB .eql 5 a (.int .u8 45) λb=>HL b λb=>cN b (NV e n Q b) (JB .eql 5 a (.int .u8 42) λb=>HL b λb=>cN b (NV e n Q b) (JB .eql 5 a (.int .u8 47) λb=>HL b λb=>cN b (NV e n Q b) (JB .eql 5 a (.int .u8 38) λb=>HL b λb=>cN b (NV e n Q b) (JB .eql 5 a (.int .u8 124) λb=>HL b λb=>cN b (NV e n Q b) (JB .eql 5 a (.int .u8 94) λa=>HL a λa=>NV e n Q a))))))))))))))))
def Rf:F3:=λa b c=>cN c (r1 (I 2) e n Q) (kZ e n Q a b)
def AR2:F2:=λa b=>Ky b (I 2) λc=>Xc a λd=>AUh c d λc=>cN c (Ky b (I 2) λc=>ADj true true a [b,c] λc=>JB .eql 9 c (.HK ⟨#[45,62]⟩) λd=>HL d λd=>cN d (Rf e n Q a b d) (JB .eql 9 c (.HK ⟨#[61,62]⟩) λd=>HL d λd=>cN d (Rf e n Q a b d) (JB .eql 9 c (.HK ⟨#[60,62]⟩) λd=>HL d λd=>cN d (Rf e n Q a b d) (JB .eql 9 c (.HK ⟨#[60,61]⟩) λd=>HL d λd=>cN d (Rf e n Q a b d) (JB .eql 9 c (.HK ⟨#[62,61]⟩) λd=>HL d λd=>cN d (Rf e n Q a b d) (JB .eql 9 c (.HK ⟨#[60,60]⟩) λd=>HL d λd=>cN d (Rf e n Q a b d) (JB .eql 9 c (.HK ⟨#[62,62]⟩) λc=>HL c λc=>Rf e n Q a b c))))))) (kZ e n Q a b)
def AJA:P2 144 AR2:=p2 func144 44 λe n Q=>(Gt (Gt (wA (J2 (kZ e n Q) 0 1) (Gt Gs (Gt (G7 (Gt (wA (J1 (NV e n Q) 26) Gs) Gs)) Gs))) (Gt (Jj (Gt (G7 (Gt (wA (J3 (Rf e n Q) 0 1 15) Gs) Gs)) Gs) Gs) Gs)) Gs)
def AR3:F2:=λa b=>XM 120 [a,b] λb=>WC .not b λb=>cN b (oC 121 [a,I 12] λb=>r0 e n Q) (KZ 1 a λb=>Ky b (I 1) λb=>On a λa=>Nb 1 1 b a λ_=>r0 e n Q)
def AJB:P2 145 AR3:=p2 func145 19 λe n Q=>Gs
def AR4:F1:=λa=>oC 119 [a] λb=>MM zT λc=>HG 6 b c λ_=>KZ 2 a λb=>Nc b (I 0) λb=>Kz b (Iz 0 c) λd=>Kz b (G3 d) λd=>Kz b (UF d (I 1)) λd=>Hy b bT d λb=>cN b (oC 121 [a,I 12] λb=>r1 S0 e n Q) (KZ 1 a λb=>Ky b (I 1) λb=>On a λa=>Nb 1 1 b a λ_=>Ia 1 c λa=>HL a λa=>r1 a e n Q)
def AJC:P1 146 AR4:=p1 func146 27 λe n Q=>Gs
def yG:F1:=λa=>HL a λa=>r1 a e n Q
def AR5:F2:=λa b=>XM 120 [a,b] λb=>cN b (KZ 1 a λc=>Ky c (I 1) λc=>On a λa=>Nb 1 1 c a λ_=>yG e n Q b) (yG e n Q b)
def AJD:P2 148 AR5:=p2 func148 18 λe n Q=>(Gt (Gt (Gt (wA (J1 (yG e n Q) 5) Gs) Gs) Gs) Gs)
def eB(a:F2):F1:=λa=>HL a λa=>r1 a e n Q
def Qi(a:F2):F2:=λb c=>KZ 2 b λd=>Nc d (I 0) λd=>cN d (HL c λd=>r1 d e n Q) (XM 161 [b] λd=>WC .not d λd=>cN d (Hv c λd=>KA d (I 0) λd=>cN d (oC 121 [b,I 12] λd=>eB e n Q a c) (eB e n Q a c)) (Hv c λd=>XM 122 [b,d,I 200] λd=>cN d (HL c λd=>r1 d e n Q) (oC 162 [b] λd=>Om 12 [d] λd=>PU 12 152 c d λc=>HL c λc=>a b c)))
def br:Nat->F2
 |0=>N2
 |m+1=>Qi e n Q (br m)
def AR6:F1:=λa=>Le λb=>Le λb=>e2 (br e n Q) a b
def AJE:P1 150 AR6:=p1 func150 33 λe n Q=>(Gt (Gt (G7 (wL (λm=>J2 (br e n Q m) 0 3) λa=>(G7 (Gt (Gt (Gt Gs (Gt (Jj (Gt (wA (J1 (eB e n Q (br e n Q a)) 3) Gs) Gs) Gs) Gs)) Gs) Gs)))) Gs) Gs)
def rH:F1:=λa=>HL a λa=>r1 a e n Q
def Qj(a:F2):F2:=λb c=>KZ 2 b λd=>KA d (I 0) λd=>cN d (oC 165 [b] λd=>Om 2 [d] λd=>PU 2 24 c d λd=>HL d λd=>oC 120 [b,(.HK ⟨#[97,110,100]⟩)] λg=>HL g λg=>WC .not g λg=>cN g (rH e n Q d) (KZ 1 b λg=>Ky g (I 1) λg=>On b λh=>Nb 1 1 g h λ_=>Hv d λg=>XM 122 [b,g,I 16] λg=>cN g (rH e n Q d) (a b d))) (rH e n Q c)
def gH:Nat->F2
 |0=>N2
 |m+1=>Qj e n Q (gH m)
def ASB:F1:=λa=>Le λb=>Le λb=>e2 (gH e n Q) a b
def AJJ:P1 160 ASB:=p1 func160 33 λe n Q=>(Gt (Gt (Gt (wA (J1 (rH e n Q) 3) Gs) (G7 (wL (λm=>J2 (gH e n Q m) 0 3) λa=>Gs))) Gs) Gs)
def ASC:F1:=λa=>KZ 2 a λb=>Nc b (I 0) λb=>cN b (r1 bF e n Q) (oC 120 [a,(.HK ⟨#[97,117,116,111,109,97,116,111,110]⟩)] λb=>HL b λb=>oC 120 [a,(.HK ⟨#[40]⟩)] λc=>HL c λc=>U8 b c λc=>Hy b bT c λb=>U8 b a λa=>hCF b 119 [a] λa=>Kz b (LH 0 a) λa=>Kz b (JJ a (I 1)) λa=>Hy b bT a λa=>HL a λa=>r1 a e n Q)
def AJK:P1 161 ASC:=p1 func161 24 λe n Q=>Gs
def NQ:F3:=λa b c=>oC 145 [a,(.HK ⟨#[101,110,100]⟩)] λd=>KZ 4 a λd=>jO d (I 1) λd=>On a λa=>Nb 4 1 d a λ_=>HN 12 c λa=>HG 12 a b λ_=>rF (λs=>[I8 (G4 12 b) s]) e n Q
def SA(a:F3):F3:=λa b c=>NQ e n Q a b c
def Li(a:F3):F3:=λb c d=>KZ 2 b λg=>KA g (I 0) λg=>cN g (oC 120 [b,(.HK ⟨#[115,116,97,116,101]⟩)] λg=>HL g λg=>WC .not g λg=>cN g (Ia 10 d λg=>Hv g λg=>KA g (I 0) λg=>cN g (oC 121 [b,I 12] λg=>SA e n Q a b c d) (SA e n Q a b c d)) (Ia 10 d λg=>Hv g λg=>XM 122 [b,g,I 16] λg=>cN g (NQ e n Q b c d) (dS (MJ 10 d λg=>dV (dC 166 [b] λh=>Xj 6 [h] λh=>O2 6 120 g h λg=>ga 10 d λh=>MD 1 g h λ_=>dE [0,1,0,4,12,31,63,127] (a b c d)))))) (NQ e n Q b c d)
def S2:Nat->F3
 |0=>N3
 |m+1=>Li e n Q (S2 m)
def NW:F3:=λa b c=>oC 145 [a,(.HK ⟨#[61]⟩)] λd=>oC 167 [a] λd=>Nb 1 9 d c λ_=>oC 145 [a,(.HK ⟨#[59]⟩)] λa=>HN 12 c λa=>HG 12 a b λ_=>rF (λs=>[I8 (G4 12 b) s]) e n Q
def Pb:F3:=λa b c=>oC 145 [a,(.HK ⟨#[41]⟩)] λd=>NW e n Q a b c
def Ml(a:F3):F3:=λb c d=>dS (MJ 0 d λg=>dV (dC 146 [b] λh=>Xj 1 [h] λh=>O2 1 16 g h λg=>ga 0 d λh=>MD 1 g h λ_=>dE [0,1,0,4,12,31,63,127] (oC 148 [b,(.HK ⟨#[44]⟩)] λg=>HL g λg=>WC .not g λg=>cN g (Pb e n Q b c d) (a b c d))))
def KX(a:F3):F3:=λb c d=>KZ 2 b λg=>KA g (I 0) λg=>cN g (oC 119 [b] λg=>oF1 0 g λg=>KA g (I 1) λg=>cN g (Ia 0 d λg=>Hv g λg=>XM 122 [b,g,I 16] λg=>cN g (HN 12 d λg=>HG 12 g c λ_=>rF (λs=>[I8 (G4 12 c) s]) e n Q) (Ml e n Q a b c d)) (Ml e n Q a b c d)) (Pb e n Q b c d)
def Mm:Nat->F3
 |0=>N3
 |m+1=>KX e n Q (Mm m)
def ASD:F1:=λa=>MM zI λb=>oC 119 [a] λc=>oF1 5 c λc=>JI zI [(some (11,1),c)] λc=>MM zI λd=>HG 12 c d λ_=>oC 120 [a,(.HK ⟨#[97,117,116,111,109,97,116,111,110]⟩)] λc=>HL c λc=>cN c (KZ 4 a λc=>Ky c (I 1) λc=>On a λg=>Nb 4 1 c g λ_=>KZ 4 a λc=>QM c (I 40) λc=>cN c (oC 121 [a,I 2] λc=>HN 12 d λc=>HG 12 c b λ_=>rF (λs=>[I8 (G4 12 b) s]) e n Q) (KZ 1 a λc=>Ky c (I 1) λc=>On a λg=>Nb 1 1 c g λ_=>e3 (S2 e n Q) a b d)) (oC 148 [a,(.HK ⟨#[40]⟩)] λc=>HL c λc=>WC .not c λc=>cN c (oC 146 [a] λc=>Om 1 [c] λc=>Nb 0 1 c d λ_=>NW e n Q a b d) (e3 (Mm e n Q) a b d))
def AJL:P1 162 ASD:=p1 func162 122 λe n Q=>(Gt (Gt (Gt (Gt (Gt (Gt (wA (J3 (NW e n Q) 0 2 3) Gs) (Gt (Jj Gs (Gt (wA (J3 (Pb e n Q) 0 2 3) Gs) (G7 (wL (λm=>J3 (Mm e n Q m) 0 2 3) λa=>(Gt (G7 (Gt (wA (J3 (Ml e n Q (Mm e n Q a)) 0 2 3) Gs) Gs)) Gs))))) Gs)) Gs) (Gt (Jj (Gt (Gt (Gt (Gt (wA (J3 (NQ e n Q) 0 2 3) Gs) (G7 (wL (λm=>J3 (S2 e n Q m) 0 2 3) λa=>(Gt (G7 (Gt (Gt Gs (Gt (Jj (Gt (wA (J3 (SA e n Q (S2 e n Q a)) 0 2 3) Gs) Gs) Gs) Gs)) Gs)) Gs)))) Gs) Gs) Gs) Gs) Gs)) Gs) Gs) Gs)
def ASE:F1:=λa=>oC 119 [a] λb=>MM zT λc=>HG 6 b c λ_=>KZ 2 a λb=>Nc b (I 0) λb=>Kz b (Iz 0 c) λd=>Kz b (G3 d) λd=>Kz b (UF d (I 3)) λd=>Hy b bT d λb=>Kz b (Iz 1 c) λd=>Kz b (G3 d) λd=>hCF b 142 [d] λd=>Kz b (JJ d (I 0)) λd=>Hy b bT d λb=>cN b (oC 121 [a,I 12] λb=>r1 (I 0) e n Q) (KZ 1 a λb=>Ky b (I 1) λb=>On a λa=>Nb 1 1 b a λ_=>Ia 1 c λa=>XM 142 [a] λa=>r1 a e n Q)
def AJM:P1 163 ASE:=p1 func163 34 λe n Q=>Gs
def ASF:F1:=λa=>oC 119 [a] λb=>MM zT λc=>HG 6 b c λ_=>KZ 2 a λb=>Nc b (I 0) λb=>Kz b (Iz 0 c) λd=>Kz b (G3 d) λd=>Kz b (UF d (I 2)) λd=>Hy b bT d λb=>Kz b (Iz 3 c) λd=>Kz b (Iz 0 d) λd=>Kz b (G3 d) λd=>Kz b (UF d (I 0)) λd=>Hy b bT d λb=>cN b (oC 121 [a,I 12] λb=>r1 (I 0) e n Q) (KZ 1 a λb=>Ky b (I 1) λb=>On a λa=>Nb 1 1 b a λ_=>Ia 2 c λa=>HL a λa=>r1 a e n Q)
def AJN:P1 164 ASF:=p1 func164 33 λe n Q=>Gs
def ASG:F1:=λa=>MM [S0,bF] λb=>oC 148 [a,(.HK ⟨#[110,111,116]⟩)] λc=>HL c λc=>WC .not c λc=>oC 146 [a] λa=>JI [S0,bF] [(some (1,1),c),(some (0,1),a)] λa=>HG 2 a b λ_=>rF (λs=>[I8 (G4 2 b) s]) e n Q
def AJO:P1 165 ASG:=p1 func165 11 λe n Q=>Gs
def WR:F3:=λa b c=>oC 145 [a,(.HK ⟨#[100,111]⟩)] λd=>oC 150 [a] λd=>Nb 4 1 d c λ_=>oC 168 [a,(.HK ⟨#[117,110,116,105,108]⟩)] λa=>Nb 2 1 a c λ_=>HN 6 c λa=>HG 6 a b λ_=>rF (λs=>[I8 (G4 6 b) s]) e n Q
def ASH:F1:=λa=>MM zS λb=>oC 119 [a] λc=>oF1 5 c λc=>JI zS [(some (5,1),c)] λc=>MM zS λd=>HG 6 c d λ_=>oC 145 [a,(.HK ⟨#[115,116,97,116,101]⟩)] λc=>oC 146 [a] λc=>Nb 0 1 c d λ_=>oC 168 [a,(.HK ⟨#[117,110,108,101,115,115]⟩)] λc=>Nb 1 1 c d λ_=>oC 148 [a,(.HK ⟨#[118,97,114]⟩)] λc=>HL c λc=>cN c (oC 149 [a] λc=>Nb 3 1 c d λ_=>WR e n Q a b d) (WR e n Q a b d)
def AJP:P1 166 ASH:=p1 func166 32 λe n Q=>(Gt (Gt (Gt (Gt (Gt (Gt (Gt (wA (J3 (WR e n Q) 0 2 3) Gs) Gs) Gs) Gs) Gs) Gs) Gs) Gs)
def ASI:F1:=λa=>MM zE λb=>XM 169 [a] λc=>WC .not c λc=>cN c (JI zE [] λc=>HG 9 c b λ_=>rF (λs=>[I8 (G4 9 b) s]) e n Q) (oC 170 [a] λc=>MM zE λd=>HG 9 c d λ_=>KZ 4 a λc=>jO c (I 1) λc=>On a λa=>Nb 4 1 c a λ_=>HN 9 d λa=>HG 9 a b λ_=>rF (λs=>[I8 (G4 9 b) s]) e n Q)
def AJQ:P1 167 ASI:=p1 func167 20 λe n Q=>Gs
def eC(e n:Nat)(Q:QT)(a:F3):F4:=λb c d g=>oC 146 [b] λh=>Nb 9 1 h g λ_=>oC 145 [b,(.HK ⟨#[59]⟩)] λh=>HN 12 g λg=>Om 12 [g] λg=>PU 12 128 d g λd=>HL d λd=>a b c d
def Qk(a:F3):F3:=λb c d=>XM 120 [b,c] λg=>WC .not g λg=>cN g (HL d λg=>r1 g e n Q) (Hv d λg=>XM 122 [b,g,I 16] λg=>cN g (HL d λg=>r1 g e n Q) (KZ 1 b λg=>Ky g (I 1) λg=>On b λh=>Nb 1 1 g h λ_=>oC 119 [b] λg=>oF1 5 g λg=>JI [I 0,I 0,S0,I 0,I 0,I 0,I 0,.nil,I 0,S0,bF,I 0] [(some (11,1),g)] λg=>MM [I 0,I 0,S0,I 0,I 0,I 0,I 0,.nil,I 0,S0,bF,I 0] λh=>HG 12 g h λ_=>oC 167 [b] λg=>Nb 0 9 g h λ_=>oC 148 [b,(.HK ⟨#[99,111,110,116,105,110,117,101]⟩)] λg=>Nb 10 1 g h λ_=>Ia 10 h λg=>WC .not g λg=>cN g (oC 145 [b,(.HK ⟨#[116,104,101,110]⟩)] λg=>eC e n Q a b c d h) (eC e n Q a b c d h)))
def YM:Nat->F3
 |0=>N3
 |m+1=>Qk e n Q (YM m)
def ASJ:F2:=λa b=>Le λc=>Le λc=>e3 (YM e n Q) a b c
def AJR:P2 168 ASJ:=p2 func168 52 λe n Q=>(Gt (Gt (G7 (wL (λm=>J3 (YM e n Q m) 0 1 5) λa=>(G7 (Gt (Gt (Gt (Gt (Gt (Gt (Gt (Gt (Gt (wA (J4 (eC e n Q (YM e n Q a)) 0 1 5 8) Gs) Gs) Gs) Gs) Gs) Gs) Gs) Gs) Gs) Gs)))) Gs) Gs)
def ASK:F1:=λa=>KZ 4 a λb=>Ky b (I 1) λb=>On a λc=>Nb 4 1 b c λ_=>KZ 4 a λb=>QM b (I 40) λb=>cN b (oC 121 [a,I 2] λa=>r1 bF e n Q) (r1 bT e n Q)
def AJS:P1 169 ASK:=p1 func169 17 λe n Q=>Gs
def ASL:F1:=λa=>MM zE λb=>oC 171 [a] λc=>MM zE λd=>HG 9 c d λ_=>oC 148 [a,(.HK ⟨#[45,62]⟩)] λc=>HL c λc=>WC .not c λc=>cN c (HN 9 d λc=>HG 9 c b λ_=>rF (λs=>[I8 (G4 9 b) s]) e n Q) (oC 170 [a] λa=>MM zE λc=>HG 9 a c λ_=>HN 9 d λa=>HN 9 c λc=>oC 172 [I 7,I 0,a,c] λa=>HG 9 a b λ_=>rF (λs=>[I8 (G4 9 b) s]) e n Q)
def AJT:P1 170 ASL:=p1 func170 18 λe n Q=>Gs
def ASM:F1:=λa=>MM zE λb=>oC 173 [a] λc=>MM zE λd=>HG 9 c d λ_=>oC 148 [a,(.HK ⟨#[102,98,121]⟩)] λc=>HL c λc=>WC .not c λc=>cN c (HN 9 d λc=>HG 9 c b λ_=>rF (λs=>[I8 (G4 9 b) s]) e n Q) (oC 171 [a] λa=>MM zE λc=>HG 9 a c λ_=>HN 9 d λa=>HN 9 c λc=>oC 172 [I 8,I 0,a,c] λa=>HG 9 a b λ_=>rF (λs=>[I8 (G4 9 b) s]) e n Q)
def AJU:P1 171 ASM:=p1 func171 18 λe n Q=>Gs
def ASN:F4:=λa b c d=>Mr c λc=>Mr d λd=>MM zE λg=>HN 9 c λh=>HN 9 d λd=>Om 9 [h,d] λd=>Ia 8 c λc=>JI zE [(some (0,1),a),(some (1,1),b),(some (7,1),d),(some (8,1),c)] λa=>HG 9 a g λ_=>rF (λs=>[I8 (G4 9 g) s]) e n Q
def AJV:P4 172 ASN:=p4 func172 17 λe n Q=>Gs
def ASO:F1:=λa=>MM zE λb=>oC 174 [a,I 0] λc=>MM zE λd=>HG 9 c d λ_=>oC 148 [a,(.HK ⟨#[61,62]⟩)] λc=>HL c λc=>WC .not c λc=>cN c (HN 9 d λc=>HG 9 c b λ_=>rF (λs=>[I8 (G4 9 b) s]) e n Q) (oC 173 [a] λa=>MM zE λc=>HG 9 a c λ_=>HN 9 d λa=>HN 9 c λc=>oC 172 [I 4,I 11,a,c] λa=>HG 9 a b λ_=>rF (λs=>[I8 (G4 9 b) s]) e n Q)
def AJW:P1 173 ASO:=p1 func173 18 λe n Q=>Gs
def jq:F2:=λa b=>HN 9 b λb=>HG 9 b a λ_=>rF (λs=>[I8 (G4 9 a) s]) e n Q
def Oe(a:F4):F4:=λb c d g=>KZ 2 b λh=>KA h (I 0) λh=>cN h (XM 176 [b,c] λh=>KA h (I 0) λi=>cN i (jq e n Q d g) (KZ 1 b λi=>Ky i (I 1) λi=>On b λj=>Nb 1 1 i j λ_=>Ky c (I 1) λi=>oC 174 [b,i] λi=>MM zE λj=>HG 9 i j λ_=>HN 9 g λi=>HN 9 j λj=>oC 172 [I 4,h,i,j] λh=>HG 9 h g λ_=>KA c (I 2) λh=>cN h (jq e n Q d g) (a b c d g))) (jq e n Q d g)
def Zo:Nat->F4
 |0=>N4
 |m+1=>Oe e n Q (Zo m)
def ANR:F2:=λa b=>MM zE λc=>KA b (I 8) λd=>cN d (oC 175 [a] λd=>HG 9 d c λ_=>rF (λs=>[I8 (G4 9 c) s]) e n Q) (Ky b (I 1) λd=>oC 174 [a,d] λd=>MM zE λg=>HG 9 d g λ_=>e4 (Zo e n Q) a b c g)
def AAk:P2 174 ANR:=p2 func174 44 λe n Q=>(Gt (Gt (Gt (Gt (wA (J2 (jq e n Q) 4 5) Gs) (G7 (wL (λm=>J4 (Zo e n Q m) 0 1 4 5) λa=>Gs))) Gs) Gs) Gs)
def ASP:F1:=λa=>MM zE λb=>oC 120 [a,(.HK ⟨#[110,111,116]⟩)] λc=>HL c λc=>oC 120 [a,(.HK ⟨#[45]⟩)] λd=>HL d λd=>oC 120 [a,(.HK ⟨#[112,114,101]⟩)] λg=>HL g λg=>WC .not c λc=>Mx c d λd=>Is c (KV .not d) λd=>Hy c d bF λc=>Mx c g λd=>Is c (KV .not d) λd=>Hy c d bF λc=>cN c (oC 177 [a] λc=>HG 9 c b λ_=>rF (λs=>[I8 (G4 9 b) s]) e n Q) (XM 169 [a] λc=>WC .not c λc=>cN c (JI zE [] λc=>HG 9 c b λ_=>rF (λs=>[I8 (G4 9 b) s]) e n Q) (oC 177 [a] λc=>MM zE λd=>HG 9 c d λ_=>KZ 4 a λc=>jO c (I 1) λc=>On a λa=>Nb 4 1 c a λ_=>HN 9 d λa=>HG 9 a b λ_=>rF (λs=>[I8 (G4 9 b) s]) e n Q))
def AJX:P1 175 ASP:=p1 func175 41 λe n Q=>Gs
def Rg:F0:=r1 (I 0) e n Q
def ASQ:F2:=λa b=>oC 119 [a] λc=>MM zT λd=>HG 6 c d λ_=>KZ 2 a λa=>Nc a (I 0) λa=>Kz a (Iz 0 d) λc=>Kz a (G3 c) λc=>Kz a (UF c (I 3)) λc=>U8 a c λc=>Is c (Iz 0 d) λg=>Is c (G3 g) λg=>Is c (UF g (I 4)) λg=>Kz a (Hf c g bF) λc=>Hy a bT c λa=>cN a (r1 (I 0) e n Q) (IX b (I 0) λa=>cN a (Ia 1 d λa=>JB .eql 9 a (.HK ⟨#[111,114]⟩) λc=>HL c λc=>cN c (r1 (I 9) e n Q) (JB .eql 9 a (.HK ⟨#[120,111,114]⟩) λa=>HL a λa=>cN a (r1 (I 10) e n Q) (Rg e n Q))) (IX b (I 1) λa=>cN a (Ia 1 d λa=>JB .eql 9 a (.HK ⟨#[97,110,100]⟩) λa=>cN a (r1 (I 8) e n Q) (Rg e n Q)) (IX b (I 2) λa=>cN a (Ia 1 d λa=>JB .eql 9 a (.HK ⟨#[61]⟩) λc=>HL c λc=>cN c (r1 (I 14) e n Q) (JB .eql 9 a (.HK ⟨#[60,62]⟩) λc=>HL c λc=>cN c (r1 (I 15) e n Q) (JB .eql 9 a (.HK ⟨#[60]⟩) λc=>HL c λc=>cN c (r1 (I 16) e n Q) (JB .eql 9 a (.HK ⟨#[60,61]⟩) λc=>HL c λc=>cN c (r1 (I 17) e n Q) (JB .eql 9 a (.HK ⟨#[62]⟩) λc=>HL c λc=>cN c (r1 (I 18) e n Q) (JB .eql 9 a (.HK ⟨#[62,61]⟩) λa=>HL a λa=>cN a (r1 (I 19) e n Q) (Rg e n Q))))))) (IX b (I 3) λa=>cN a (Ia 1 d λa=>JB .eql 9 a (.HK ⟨#[124]⟩) λc=>HL c λc=>cN c (r1 (I 9) e n Q) (JB .eql 9 a (.HK ⟨#[94]⟩) λa=>HL a λa=>cN a (r1 (I 10) e n Q) (Rg e n Q))) (IX b (I 4) λa=>cN a (Ia 1 d λa=>JB .eql 9 a (.HK ⟨#[38]⟩) λa=>cN a (r1 (I 8) e n Q) (Rg e n Q)) (IX b (I 5) λa=>cN a (Ia 1 d λa=>JB .eql 9 a (.HK ⟨#[60,60]⟩) λc=>HL c λc=>cN c (r1 (I 12) e n Q) (JB .eql 9 a (.HK ⟨#[62,62]⟩) λa=>HL a λa=>cN a (r1 (I 13) e n Q) (Rg e n Q))) (IX b (I 6) λa=>cN a (Ia 1 d λa=>JB .eql 9 a (.HK ⟨#[43]⟩) λc=>HL c λc=>cN c (r1 (I 3) e n Q) (JB .eql 9 a (.HK ⟨#[45]⟩) λa=>HL a λa=>cN a (r1 (I 4) e n Q) (Rg e n Q))) (IX b (I 7) λa=>cN a (Ia 1 d λa=>JB .eql 9 a (.HK ⟨#[42]⟩) λb=>HL b λb=>cN b (r1 (I 5) e n Q) (JB .eql 9 a (.HK ⟨#[47]⟩) λb=>HL b λb=>cN b (r1 (I 6) e n Q) (JB .eql 9 a (.HK ⟨#[109,111,100]⟩) λa=>HL a λa=>cN a (r1 (I 7) e n Q) (Rg e n Q)))) (Rg e n Q)))))))))
def AJY:P2 176 ASQ:=p2 func176 92 λe n Q=>(Gt (Gt (Gt (Gt (wA (J0 (Rg e n Q)) Gs) Gs) Gs) Gs) Gs)
def ASR:F1:=λa=>MM zE λb=>oC 119 [a] λc=>oF1 5 c λc=>HL c λc=>oC 148 [a,(.HK ⟨#[110,111,116]⟩)] λd=>HL d λd=>cN d (oC 175 [a] λd=>Om 9 [d] λd=>JI zE [(some (0,1),(I 3)),(some (1,1),(I 1)),(some (7,1),d),(some (8,1),c)] λd=>HG 9 d b λ_=>rF (λs=>[I8 (G4 9 b) s]) e n Q) (oC 148 [a,(.HK ⟨#[112,114,101]⟩)] λd=>HL d λd=>cN d (oC 175 [a] λd=>Om 9 [d] λd=>JI zE [(some (0,1),(I 6)),(some (7,1),d),(some (8,1),c)] λd=>HG 9 d b λ_=>rF (λs=>[I8 (G4 9 b) s]) e n Q) (oC 148 [a,(.HK ⟨#[45]⟩)] λd=>HL d λd=>cN d (oC 119 [a] λd=>MM zT λg=>HG 6 d g λ_=>KZ 2 a λd=>KA d (I 0) λd=>Is d (Iz 0 g) λh=>Is d (G3 h) λh=>Is d (JJ h (I 2)) λh=>Hy d h bF λd=>Is d (Iz 3 g) λh=>Is d (Iz 0 h) λh=>Is d (G3 h) λh=>Is d (UE h (I 0)) λh=>Hy d h bF λd=>cN d (KZ 1 a λd=>Ky d (I 1) λd=>On a λh=>Nb 1 1 d h λ_=>dS (ga 3 g λd=>Jz 2 d λd=>ga 3 g λh=>MJ 0 h λh=>MJ 2 g λg=>dUn .neg g λg=>dC 128 [h,g] λg=>dV (gZ zE [(some (0,1),(I 1)),(some (3,2),d),(some (5,1),g),(some (8,1),c)] λd=>dBx zE λg=>MD 9 d g λ_=>dE [0,1,0,4,12,0,32,96,252,0,1023,0,4095] (HN 9 g λd=>oC 178 [a,d] λd=>HG 9 d b λ_=>rF (λs=>[I8 (G4 9 b) s]) e n Q)))) (oC 175 [a] λd=>Om 9 [d] λd=>JI zE [(some (0,1),(I 3)),(some (1,1),(I 2)),(some (7,1),d),(some (8,1),c)] λc=>HG 9 c b λ_=>rF (λs=>[I8 (G4 9 b) s]) e n Q)) (oC 179 [a] λc=>oC 178 [a,c] λa=>HG 9 a b λ_=>rF (λs=>[I8 (G4 9 b) s]) e n Q)))
def AJZ:P1 177 ASR:=p1 func177 79 λe n Q=>Gs
def WS(a:F3):F3:=λb c d=>oC 148 [b,(.HK ⟨#[91]⟩)] λg=>HL g λg=>WC .not g λg=>cN g (HN 9 c λg=>HG 9 g d λ_=>rF (λs=>[I8 (G4 9 d) s]) e n Q) (XM 164 [b] λg=>oC 145 [b,(.HK ⟨#[93]⟩)] λh=>HN 9 c λh=>Om 9 [h] λh=>Ia 8 c λi=>JI zE [(some (0,1),(I 16)),(some (5,1),g),(some (7,1),h),(some (8,1),i)] λg=>HG 9 g c λ_=>a b c d)
def gI:Nat->F3
 |0=>N3
 |m+1=>WS e n Q (gI m)
def ASS:F2:=λa b=>Mr b λb=>MM zE λc=>e3 (gI e n Q) a b c
def AJa:P2 178 ASS:=p2 func178 22 λe n Q=>(Gt (G7 (wL (λm=>J3 (gI e n Q m) 0 3 4) λa=>Gs)) Gs)
end
end
section
open Go.Proofs Go.Proofs.Tryz
section
variable(e n:Nat) (Q:QT)
def eD:F3:=λa b c=>oC 121 [a,I 12] λa=>HN 9 c λa=>HG 9 a b λ_=>rF (λs=>[I8 (G4 9 b) s]) e n Q
def rI:F2:=λa b=>HN 9 b λb=>HG 9 b a λ_=>rF (λs=>[I8 (G4 9 a) s]) e n Q
def AST:F1:=λa=>MM zE λb=>oC 119 [a] λc=>MM zT λd=>HG 6 c d λ_=>Ia 5 d λc=>JI zE [(some (8,1),c)] λc=>MM zE λg=>HG 9 c g λ_=>KZ 2 a λc=>Nc c (I 0) λc=>cN c (HN 9 g λc=>HG 9 c b λ_=>rF (λs=>[I8 (G4 9 b) s]) e n Q) (Ia 0 d λc=>IX c (I 1) λh=>cN h (KZ 1 a λh=>Ky h (I 1) λh=>On a λi=>Nb 1 1 h i λ_=>Ia 1 d λh=>Nb 2 1 h g λ_=>Nb 0 1 (I 2) g λ_=>oC 120 [a,(.HK ⟨#[40]⟩)] λh=>HL h λh=>cN h (Nb 0 1 (I 13) g λ_=>oC 180 [a] λh=>Nb 7 1 h g λ_=>rI e n Q b g) (rI e n Q b g)) (IX c (I 2) λh=>cN h (iS 3 d λh=>Ia 0 h λh=>oC 155 [h] λh=>Is h (Iz 2 d) λi=>Is h (G3 i) λi=>Is h (fU i (I 0)) λi=>Hy h i bF λh=>HL h λh=>iS 3 d λi=>Ia 0 i λi=>KA i (I 0) λi=>U8 i h λh=>Hy i bT h λh=>cN h (oC 121 [a,I 12] λh=>HN 9 g λh=>HG 9 h b λ_=>rF (λs=>[I8 (G4 9 b) s]) e n Q) (KZ 1 a λh=>Ky h (I 1) λh=>On a λi=>Nb 1 1 h i λ_=>Nb 0 1 (I 1) g λ_=>iS 3 d λh=>HN 2 h λh=>Nb 3 2 h g λ_=>Ia 2 d λh=>Nb 5 1 h g λ_=>HN 9 g λh=>HG 9 h b λ_=>rF (λs=>[I8 (G4 9 b) s]) e n Q)) (IX c (I 4) λh=>cN h (Ia 1 d λh=>JB .eql 9 h (.HK ⟨#[40]⟩) λh=>cN h (KZ 1 a λh=>Ky h (I 1) λh=>On a λi=>Nb 1 1 h i λ_=>oC 167 [a] λh=>MM zE λi=>HG 9 h i λ_=>oC 145 [a,(.HK ⟨#[41]⟩)] λh=>HN 9 i λh=>HG 9 h b λ_=>rF (λs=>[I8 (G4 9 b) s]) e n Q) (Ia 1 d λh=>JB .eql 9 h (.HK ⟨#[91]⟩) λh=>cN h (KZ 1 a λh=>Ky h (I 1) λh=>On a λi=>Nb 1 1 h i λ_=>Nb 0 1 (I 15) g λ_=>oC 181 [a,I 0] λh=>Nb 7 1 h g λ_=>oC 145 [a,(.HK ⟨#[93]⟩)] λh=>HN 9 g λh=>HG 9 h b λ_=>rF (λs=>[I8 (G4 9 b) s]) e n Q) (eD e n Q a b g))) (IX c (I 3) λc=>cN c (HN 6 d λc=>oC 182 [a,c] λc=>HG 9 c b λ_=>rF (λs=>[I8 (G4 9 b) s]) e n Q) (eD e n Q a b g)))))
def AJb:P1 179 AST:=p1 func179 120 λe n Q=>(Gt (Gt (Gt (Gt (Gt (wA (J3 (eD e n Q) 0 2 4) Gs) (Gt (G7 (Gt (Jj (Gt (Gt (Gt (Gt (Gt (wA (J2 (rI e n Q) 2 4) Gs) Gs) Gs) Gs) Gs) Gs) Gs) Gs)) Gs)) Gs) Gs) Gs) Gs)
def eE:F2:=λa b=>oC 145 [a,(.HK ⟨#[41]⟩)] λa=>HL b λa=>r1 a e n Q
def ASU:F1:=λa=>Le λb=>oC 145 [a,(.HK ⟨#[40]⟩)] λb=>Le λb=>oC 120 [a,(.HK ⟨#[41]⟩)] λc=>HL c λc=>WC .not c λc=>cN c (XM 181 [a,I 0] λc=>eE e n Q a c) (eE e n Q a b)
def AJc:P1 180 ASU:=p1 func180 16 λe n Q=>(Gt (Gt (Gt (Gt (Gt (wA (J2 (eE e n Q) 0 3) Gs) Gs) Gs) Gs) Gs) Gs)
def rJ:F1:=λa=>HL a λa=>r1 a e n Q
def Ql(a:F3):F3:=λb c d=>KZ 2 b λg=>KA g (I 0) λg=>cN g (Hv d λg=>Ky c g λg=>XM 122 [b,g,I 16] λg=>cN g (rJ e n Q d) (oC 167 [b] λg=>Om 9 [g] λg=>PU 9 96 d g λg=>HL g λg=>oC 148 [b,(.HK ⟨#[44]⟩)] λh=>HL h λh=>WC .not h λh=>cN h (rJ e n Q g) (a b c g))) (rJ e n Q d)
def gJ:Nat->F3
 |0=>N3
 |m+1=>Ql e n Q (gJ m)
def ASV:F2:=λa b=>Le λc=>Le λc=>e3 (gJ e n Q) a b c
def AJd:P2 181 ASV:=p2 func181 30 λe n Q=>(Gt (Gt (Gt (wA (J1 (rJ e n Q) 5) Gs) (G7 (wL (λm=>J3 (gJ e n Q m) 0 1 5) λa=>Gs))) Gs) Gs)
def rK:F2:=λa b=>HN 9 b λb=>HG 9 b a λ_=>rF (λs=>[I8 (G4 9 a) s]) e n Q
def KN:F3:=λa b c=>oC 145 [a,(.HK ⟨#[41]⟩)] λa=>HN 9 c λa=>HG 9 a b λ_=>rF (λs=>[I8 (G4 9 b) s]) e n Q
def NX:F5:=λa b c d g=>cN g (KZ 1 a λg=>Ky g (I 1) λg=>On a λh=>Nb 1 1 g h λ_=>oC 145 [a,(.HK ⟨#[40]⟩)] λg=>Ia 1 b λb=>JB .eql 9 b (.HK ⟨#[119,104,101,110]⟩) λg=>HL g λg=>cN g (Nb 0 1 (I 9) d λ_=>oC 167 [a] λg=>Om 9 [g] λg=>Nb 7 1 g d λ_=>oC 145 [a,(.HK ⟨#[44]⟩)] λg=>oC 165 [a] λg=>MM [S0,bF] λh=>HG 2 g h λ_=>Ia 0 h λg=>Nb 2 1 g d λ_=>Ia 1 h λg=>cN g (Nb 5 1 (I 1) d λ_=>KN e n Q a c d) (KN e n Q a c d)) (JB .eql 9 b (.HK ⟨#[109,101,114,103,101]⟩) λg=>HL g λg=>cN g (Nb 0 1 (I 10) d λ_=>oC 146 [a] λg=>Nb 2 1 g d λ_=>oC 145 [a,(.HK ⟨#[44]⟩)] λg=>oC 167 [a] λg=>MM zE λh=>HG 9 g h λ_=>oC 145 [a,(.HK ⟨#[44]⟩)] λg=>dS (Jz 9 h λg=>dV (dC 167 [a] λh=>Xj 9 [g,h] λg=>ga 7 d λh=>MD 1 g h λ_=>dE [0,0,2,7,15,31] (KN e n Q a c d)))) (JB .eql 9 b (.HK ⟨#[99,97,115,116]⟩) λg=>HL g λg=>cN g (Nb 0 1 (I 11) d λ_=>oC 163 [a] λg=>JI [I 0,I 0] [(some (0,1),g)] λg=>Nb 3 2 g d λ_=>oC 145 [a,(.HK ⟨#[44]⟩)] λg=>oC 167 [a] λg=>Om 9 [g] λg=>Nb 7 1 g d λ_=>KN e n Q a c d) (JB .eql 9 b (.HK ⟨#[116,105,99,107]⟩) λg=>HL g λg=>cN g (Nb 0 1 (I 12) d λ_=>oC 164 [a] λg=>Nb 5 1 g d λ_=>oC 145 [a,(.HK ⟨#[44]⟩)] λg=>oC 164 [a] λg=>Nb 6 1 g d λ_=>KN e n Q a c d) (JB .eql 9 b (.HK ⟨#[114,101,115,101,116]⟩) λg=>HL g λg=>cN g (Nb 0 1 (I 14) d λ_=>oC 146 [a] λg=>Nb 2 1 g d λ_=>oC 180 [a] λg=>Nb 7 1 g d λ_=>oC 145 [a,(.HK ⟨#[44]⟩)] λg=>dS (MJ 7 d λg=>dV (dC 167 [a] λh=>Xj 9 [h] λh=>O2 9 96 g h λg=>ga 7 d λh=>MD 1 g h λ_=>dE [0,1,0,4,12,31,63,127] (KN e n Q a c d)))) (JB .eql 9 b (.HK ⟨#[114,101,112]⟩) λg=>HL g λg=>cN g (Nb 0 1 (I 17) d λ_=>oC 167 [a] λg=>Om 9 [g] λg=>Nb 7 1 g d λ_=>oC 145 [a,(.HK ⟨#[44]⟩)] λg=>oC 164 [a] λg=>Nb 5 1 g d λ_=>KN e n Q a c d) (JB .eql 9 b (.HK ⟨#[109,97,112]⟩) λg=>HL g λg=>cN g (Nb 0 1 (I 18) d λ_=>oC 146 [a] λg=>Nb 2 1 g d λ_=>oC 145 [a,(.HK ⟨#[44]⟩)] λg=>oC 181 [a,I 0] λg=>Nb 7 1 g d λ_=>KN e n Q a c d) (JB .eql 9 b (.HK ⟨#[102,111,108,100]⟩) λb=>HL b λb=>cN b (Nb 0 1 (I 19) d λ_=>oC 146 [a] λb=>Nb 2 1 b d λ_=>oC 145 [a,(.HK ⟨#[44]⟩)] λb=>oC 167 [a] λb=>MM zE λg=>HG 9 b g λ_=>oC 145 [a,(.HK ⟨#[44]⟩)] λb=>dS (Jz 9 g λb=>dV (dC 167 [a] λg=>Xj 9 [b,g] λb=>ga 7 d λg=>MD 1 b g λ_=>dE [0,0,2,7,15,31] (KN e n Q a c d)))) (KN e n Q a c d))))))))) (oC 121 [a,I 12] λa=>HN 9 d λa=>HG 9 a c λ_=>rF (λs=>[I8 (G4 9 c) s]) e n Q)
def eF:F6:=λa b c d g h=>cN h (KZ 1 a λh=>Ky h (I 1) λh=>On a λi=>Nb 1 1 h i λ_=>Nb 0 1 (I 1) d λ_=>JI [I 0,I 0] [(some (0,1),(I 1))] λh=>Nb 3 2 h d λ_=>Ia 1 b λh=>JB .eql 9 h (.HK ⟨#[116,114,117,101]⟩) λh=>cN h (Nb 5 1 (I 1) d λ_=>rK e n Q c d) (rK e n Q c d)) (JB .eql 9 g (.HK ⟨#[105,102]⟩) λh=>HL h λh=>cN h (KZ 1 a λh=>Ky h (I 1) λh=>On a λi=>Nb 1 1 h i λ_=>oC 167 [a] λh=>MM zE λi=>HG 9 h i λ_=>oC 145 [a,(.HK ⟨#[116,104,101,110]⟩)] λh=>oC 167 [a] λh=>MM zE λj=>HG 9 h j λ_=>oC 145 [a,(.HK ⟨#[101,108,115,101]⟩)] λh=>Nb 0 1 (I 5) d λ_=>dS (Jz 9 i λh=>Jz 9 j λi=>dV (dC 167 [a] λj=>Xj 9 [h,i,j] λh=>ga 7 d λi=>MD 1 h i λ_=>dE [0,0,0,4,15,31,63] (HN 9 d λh=>HG 9 h c λ_=>rF (λs=>[I8 (G4 9 c) s]) e n Q)))) (JB .eql 9 g (.HK ⟨#[119,104,101,110]⟩) λh=>HL h λh=>cN h (NX e n Q a b c d h) (JB .eql 9 g (.HK ⟨#[109,101,114,103,101]⟩) λh=>HL h λh=>cN h (NX e n Q a b c d h) (JB .eql 9 g (.HK ⟨#[99,97,115,116]⟩) λh=>HL h λh=>cN h (NX e n Q a b c d h) (JB .eql 9 g (.HK ⟨#[116,105,99,107]⟩) λh=>HL h λh=>cN h (NX e n Q a b c d h) (JB .eql 9 g (.HK ⟨#[114,101,115,101,116]⟩) λh=>HL h λh=>cN h (NX e n Q a b c d h) (JB .eql 9 g (.HK ⟨#[114,101,112]⟩) λh=>HL h λh=>cN h (NX e n Q a b c d h) (JB .eql 9 g (.HK ⟨#[109,97,112]⟩) λh=>HL h λh=>cN h (NX e n Q a b c d h) (JB .eql 9 g (.HK ⟨#[102,111,108,100]⟩) λg=>HL g λg=>NX e n Q a b c d g)))))))))
def ASW:F2:=λa b=>Mr b λb=>MM zE λc=>Ia 5 b λd=>JI zE [(some (8,1),d)] λd=>MM zE λg=>HG 9 d g λ_=>Ia 1 b λd=>JB .eql 9 d (.HK ⟨#[116,114,117,101]⟩) λh=>HL h λh=>cN h (eF e n Q a b c g d h) (JB .eql 9 d (.HK ⟨#[102,97,108,115,101]⟩) λh=>HL h λh=>eF e n Q a b c g d h)
def AJe:P2 182 ASW:=p2 func182 201 λe n Q=>(Gt (Gt (Gt (Gt (Gt (Gt (wA (J3 (KN e n Q) 0 4 5) Gs) Gs) Gs) Gs) (Gt (G7 (Gt (wA (J6 (eF e n Q) 0 3 4 5 15 19) (Jj (Gt (Gt (Gt (Gt (wA (J2 (rK e n Q) 4 5) Gs) Gs) Gs) Gs) Gs) (Gt (Jj Gs (Gt (wA (J5 (NX e n Q) 0 3 4 5 62) Gs) Gs)) Gs))) Gs)) Gs)) Gs) Gs)
def WU:F1:=λa=>dS (dV (Nk a λb=>MJ 2 b λb=>dV (Nk a λa=>MJ 1 a λa=>QR b λb=>QR a λa=>dE [0,1,3,7,0,16,48,112,15,511] (r2 b a e n Q))))
def YU(e n:Nat)(Q:QT)(a:F3):F3:=λb c d=>H3 d (I 1) λd=>a b c d
def S5(a:F3):F5:=λb c d g h=>Ia 3 g λi=>oC 87 [c,i,h] λi=>KZ 1 c λi=>KA i (I 0) λi=>cN i (Ia 4 g λg=>oC 88 [c,g,h] λg=>YU e n Q a b c d) (YU e n Q a b c d)
def Ug(e n:Nat)(Q:QT)(a:F3)(a:F8):F8:=λb c d g h i j k=>H3 k (I 1) λk=>a b c d g h i j k
def Ty(a:F3)(b:F8):F8:=λc d g h i j k l=>Hv i λo=>ID l o λo=>Mx o d λp=>Is o (IA p) λp=>Is o (Iz 1 p) λp=>Is o (G3 p) λp=>Is o (JJ p (I 0)) λp=>Hy o p bF λo=>cN o (Kq 5 i l λo=>Ia 0 o λo=>oC 85 [k,o] λo=>WC .not o λo=>cN o (Kq 5 i l λo=>Ia 4 o λo=>oC 68 [d,o,I 24] λo=>Ug e n Q a b c d g h i j k l) (Ug e n Q a b c d g h i j k l)) (S5 e n Q a c d g h j)
def Zs(a:F3):Nat->F8
 |0=>N8
 |m+1=>Ty e n Q a (Zs a m)
def S4(a:F3):F6:=λb c d g h i=>KZ 1 c λj=>Nc j (I 0) λj=>cN j (WU e n Q c) (Ia 1 g λj=>Hv j λj=>AK3 1 true false i [j] λj=>HL j λj=>Ia 4 g λk=>XM 86 [c,k,i,j,d] λj=>Ia 1 g λk=>Hv k λk=>HL k λk=>e8 (Zs e n Q a) b c d g h i j k)
def Uh(e n:Nat)(Q:QT)(a:F3)(a:F7):F7:=λb c d g h i j=>Kq 5 h j λk=>Ia 0 k λk=>Om 1 [k] λk=>PU 1 16 i k λi=>HL i λi=>H3 j (I 1) λj=>a b c d g h i j
def YV(a:F3)(b:F7):F7:=λc d g h i j k=>Hv i λl=>ID k l λl=>cN l (Kq 5 i k λl=>Ia 0 l λl=>oC 85 [j,l] λl=>cN l (Kq 5 i k λl=>Ia 4 l λl=>oC 68 [d,l,I 20] λl=>Uh e n Q a b c d g h i j k) (Uh e n Q a b c d g h i j k)) (S4 e n Q a c d g h i j)
def WV(a:F3):Nat->F7
 |0=>N7
 |m+1=>YV e n Q a (WV a m)
def eN(a:F3):F3:=λb c d=>Ia 0 b λg=>Hv g λg=>ID d g λg=>Mx g c λh=>Is g (IA h) λh=>Is g (Iz 1 h) λh=>Is g (G3 h) λh=>Is g (JJ h (I 0)) λh=>Hy g h bF λg=>cN g (Ia 0 b λg=>Kq 6 g d λg=>HN 6 g λg=>MM zS λh=>HG 6 g h λ_=>HN 1 b λg=>Ia 0 h λi=>oC 84 [g,i,d] λg=>ZO g (I 0) λg=>cN g (Ia 5 h λg=>oC 68 [c,g,I 20] λg=>WU e n Q c) (dS (MJ 1 h λg=>O2 5 64 .nil g λg=>MJ 2 h λi=>O2 5 64 g i λg=>MJ 3 h λi=>O2 5 64 g i λg=>QR g λg=>dE [0,1,3,0,8,31,0,64,255,511] (Le λi=>e7 (WV e n Q a) b c d h g i (I 0))))) (WU e n Q c)
def Mn:Nat->F3
 |0=>N3
 |m+1=>eN e n Q (Mn m)
def c54:F1:=λa=>Mr a λa=>HN 1 a λb=>JI [.nil,I 0,I 0] [(some (0,1),b)] λb=>Mr b λb=>HL b λb=>e3 (Mn e n Q) a b (I 0)
def ANd:P1 54 c54:=p1 func54 153 λe n Q=>(Gt (Gt (Gt (wA (J1 (WU e n Q) 4) Gs) (Gt (G7 (wL (λm=>J3 (Mn e n Q m) 1 4 5) λa=>(Gt (Gt (wA (J3 (YU e n Q (Mn e n Q a)) 1 4 5) Gs) (G7 (Gt (Gt (Gt (Gt (Gt (wA (J6 (S4 e n Q (Mn e n Q a)) 1 4 5 6 7 8) (Gt (Gt (Gt (Gt (wA (J5 (S5 e n Q (Mn e n Q a)) 1 4 5 6 8) Gs) (Gt (G7 (wL (λm=>J8 (Zs e n Q (Mn e n Q a) m) 1 4 5 6 7 8 11 12) λb=>(Gt (Gt (wA (J8 (Ug e n Q (Mn e n Q a) (Zs e n Q (Mn e n Q a) b)) 1 4 5 6 7 8 11 12) Gs) Gs) Gs))) Gs)) Gs) Gs) Gs)) (Gt (G7 (wL (λm=>J7 (WV e n Q (Mn e n Q a) m) 1 4 5 6 7 8 9) λb=>(Gt (Gt Gs (G7 (Gt (wA (J7 (Uh e n Q (Mn e n Q a) (WV e n Q (Mn e n Q a) b)) 1 4 5 6 7 8 9) Gs) Gs))) Gs))) Gs)) Gs) Gs) Gs) Gs))) Gs))) Gs)) Gs) Gs)
def o9:F0:=r1 (I (-1)) e n Q
def lI(a:F4):F4:=λb c d g=>ID g c λh=>Mx h g λi=>Is h (Iz 0 d) λj=>Is h (G3 j) λj=>Is h (Hg j) λj=>Is h (fU i j) λi=>Hy h i bF λh=>cN h (Ia 0 d λh=>Kq 6 h g λh=>Ia 0 h λh=>JB .eql 9 h b λh=>cN h (HL g λh=>r1 h e n Q) (H3 g (I 1) λg=>a b c d g)) (o9 e n Q)
def ud:Nat->F4
 |0=>N4
 |m+1=>lI e n Q (ud m)
def c84:F3:=λa b c=>Mr a λa=>e4 (ud e n Q) b c a (I 0)
def ANu:P3 84 c84:=p3 func84 29 λe n Q=>(Gt (Gt (wA (J0 (o9 e n Q)) Gs) (Gt (G7 (wL (λm=>J4 (ud e n Q m) 1 2 3 7) λa=>Gs)) Gs)) Gs)
def AAq:F0:=r1 bF e n Q
def lJ(a:F3):F3:=λb c d=>Hv b λg=>ID d g λg=>cN g (Kq 1 b d λg=>JR g λg=>JB .eql 9 g c λg=>cN g (r1 bT e n Q) (H3 d (I 1) λd=>a b c d)) (AAq e n Q)
def AAr:Nat->F3
 |0=>N3
 |m+1=>lJ e n Q (AAr m)
def c85:F2:=λa b=>e3 (AAr e n Q) a b (I 0)
def ANv:P2 85 c85:=p2 func85 18 λe n Q=>(Gt (Gt (wA (J0 (AAq e n Q)) Gs) (Gt (G7 (wL (λm=>J3 (AAr e n Q m) 0 1 5) λa=>Gs)) Gs)) Gs)
def pA:F1:=λa=>HL a λa=>r1 a e n Q
def Wd(e n:Nat)(Q:QT)(a:F7):F7:=λb c d g h i j=>H3 j (I 1) λj=>a b c d g h i j
def gT(a:F7):F8:=λb c d g h i j k=>PU 1 16 .nil i λi=>PU 1 16 i k λi=>HL i λi=>Wd e n Q a b c d g h i j
def Wa(e n:Nat)(Q:QT)(a:F7)(a:F10):F10:=λb c d g h i j k l o=>H3 o (I 1) λo=>a b c d g h i j k l o
def We(a:F7)(b:F10):F10:=λc d g h i j k l o p=>Hv o λq=>ID p q λq=>Mx q c λr=>Is q (IA r) λr=>Is q (Iz 1 r) λr=>Is q (G3 r) λr=>Is q (JJ r (I 0)) λr=>Hy q r bF λq=>cN q (Kq 1 o p λq=>JR q λq=>oC 85 [j,q] λq=>cN q (Ia 11 l λq=>oC 68 [c,q,I 20] λq=>Wa e n Q a b c d g h i j k l o p) (Wa e n Q a b c d g h i j k l o p)) (gT e n Q a c d g h i j k o)
def lK(a:F7):Nat->F10
 |0=>N10
 |m+1=>We e n Q a (lK a m)
def Wb(a:F7):F8:=λb c d g h i j k=>KZ 1 b λl=>KA l (I 0) λl=>cN l (iS 1 k λk=>HN 9 k λk=>oC 109 [b,k,d,h] λk=>Wd e n Q a b c d g h i j) (Wd e n Q a b c d g h i j)
def Uk(e n:Nat)(Q:QT)(a:F7)(a:F9):F9:=λb c d g h i j k l=>dS (dV (O2 1 16 .nil i λi=>MJ 0 k λo=>dV (PL 1 o l λo=>MC o λo=>Xj 1 [o] λo=>O2 1 16 i o λi=>QR i λi=>dE [0,1,0,4,0,28,60,124,255,511] (H3 l (I 1) λl=>a b c d g h i j k l))))
def Wc(a:F7)(b:F9):F9:=λc d g h i j k l o=>Ia 0 l λp=>Kq 1 p o λp=>JR p λp=>oC 85 [j,p] λp=>cN p (Ia 11 l λp=>oC 68 [c,p,I 20] λp=>Uk e n Q a b c d g h i j k l o) (Uk e n Q a b c d g h i j k l o)
def Tz(a:F7)(b:F9):F9:=λc d g h i j k l o=>Ia 0 l λp=>Hv p λp=>ID o p λp=>Mx p c λq=>Is p (IA q) λq=>Is p (Iz 1 q) λq=>Is p (G3 q) λq=>Is p (JJ q (I 0)) λq=>Hy p q bF λp=>cN p (Ia 0 l λp=>Kq 1 p o λp=>JR p λp=>oC 85 [h,p] λp=>WC .not p λp=>cN p (Ia 11 l λp=>oC 68 [c,p,I 21] λp=>Wc e n Q a b c d g h i j k l o) (Wc e n Q a b c d g h i j k l o)) (Wb e n Q a c d g h i j k l)
def Ul(a:F7):Nat->F9
 |0=>N9
 |m+1=>Tz e n Q a (Ul a m)
def Wf(a:F7):F7:=λb c d g h i j=>Hv c λk=>ID j k λk=>Mx k b λl=>Is k (IA l) λl=>Is k (Iz 1 l) λl=>Is k (G3 l) λl=>Is k (JJ l (I 0)) λl=>Hy k l bF λk=>cN k (Kq 12 c j λk=>HN 12 k λk=>MM zI λl=>HG 12 k l λ_=>Ia 10 l λk=>Hv k λk=>QM k (I 0) λk=>cN k (HN 12 l λk=>XM 108 [b,k,d,g,h] λk=>e10 (lK e n Q a) b c d g h i j l k (I 0)) (e9 (Ul e n Q a) b c d g h i j l (I 0))) (pA e n Q i)
def OB:Nat->F7
 |0=>N7
 |m+1=>Wf e n Q (OB m)
def c86:F5:=λa b c d g=>Le λh=>Le λh=>e7 (OB e n Q) a b c d g h (I 0)
def ANw:P5 86 c86:=p5 func86 129 λe n Q=>(Gt (Gt (Gt (wA (J1 (pA e n Q) 11) Gs) (Gt (G7 (wL (λm=>J7 (OB e n Q m) 0 1 2 3 4 11 12) λa=>(Gt (Gt (wA (J7 (Wd e n Q (OB e n Q a)) 0 1 2 3 4 11 12) Gs) (G7 (Gt (Gt (Gt (wA (J8 (Wb e n Q (OB e n Q a)) 0 1 2 3 4 11 12 13) Gs) (Gt (G7 (wL (λm=>J9 (Ul e n Q (OB e n Q a) m) 0 1 2 3 4 11 12 13 16) λb=>(Gt (Gt Gs (G7 (Gt (wA (J9 (Wc e n Q (OB e n Q a) (Ul e n Q (OB e n Q a) b)) 0 1 2 3 4 11 12 13 16) (Gt (wA (J9 (Uk e n Q (OB e n Q a) (Ul e n Q (OB e n Q a) b)) 0 1 2 3 4 11 12 13 16) Gs) Gs)) Gs))) Gs))) Gs)) (Gt (Jj (Gt (Gt (wA (J8 (gT e n Q (OB e n Q a)) 0 1 2 3 4 11 12 14) Gs) (Gt (G7 (wL (λm=>J10 (lK e n Q (OB e n Q a) m) 0 1 2 3 4 11 12 13 14 15) λb=>(Gt (Gt (wA (J10 (Wa e n Q (OB e n Q a) (lK e n Q (OB e n Q a) b)) 0 1 2 3 4 11 12 13 14 15) Gs) Gs) Gs))) Gs)) Gs) Gs) Gs)) Gs))) Gs))) Gs)) Gs) Gs)
def yH(e n:Nat)(Q:QT)(a:F4):F4:=λb c d g=>H3 g (I 1) λg=>a b c d g
def Wh(a:F4)(b:F5):F5:=λc d g h i=>Kq 5 d h λj=>Ia 3 j λj=>Hv j λj=>ID i j λj=>cN j (Kq 5 d h λj=>Ia 3 j λj=>Kq 2 j i λj=>Ia 0 j λj=>HL j λj=>oC 85 [g,j] λk=>WC .not k λk=>U8 k j λj=>U8 k d λl=>U8 k h λo=>Kz k (Jq 5 l o) λl=>Kz k (Iz 0 l) λl=>Kz k (G3 l) λl=>Kz k (qB .eql 9 j l) λj=>Hy k bT j λj=>cN j (Kq 5 d h λj=>Ia 4 j λj=>oC 68 [c,j,I 21] λj=>r0 e n Q) (H3 i (I 1) λi=>b c d g h i)) (yH e n Q a c d g h)
def lL(a:F4):Nat->F5
 |0=>N5
 |m+1=>Wh e n Q a (lL a m)
def Wg(a:F4):F4:=λb c d g=>Hv c λh=>ID g h λh=>Mx h b λi=>Is h (IA i) λi=>Is h (Iz 1 i) λi=>Is h (G3 i) λi=>Is h (JJ i (I 0)) λi=>Hy h i bF λh=>cN h (e5 (lL e n Q a) b c d g (I 0)) (r0 e n Q)
def eT:Nat->F4
 |0=>N4
 |m+1=>Wg e n Q (eT m)
def c87:F3:=λa b c=>e4 (eT e n Q) a b c (I 0)
def ANx:P3 87 c87:=p3 func87 61 λe n Q=>(Gt (G7 (wL (λm=>J4 (eT e n Q m) 0 1 2 6) λa=>(Gt (Gt (wA (J4 (yH e n Q (eT e n Q a)) 0 1 2 6) Gs) (G7 (Gt (G7 (wL (λm=>J5 (lL e n Q (eT e n Q a) m) 0 1 2 6 7) λa=>Gs)) Gs))) Gs))) Gs)
def yI(e n:Nat)(Q:QT)(a:F4):F4:=λb c d g=>H3 g (I 1) λg=>a b c d g
def eU(a:F4)(b:F5):F5:=λc d g h i=>Kq 12 d h λj=>Ia 10 j λj=>Hv j λj=>ID i j λj=>cN j (Kq 12 d h λj=>Ia 10 j λj=>Kq 6 j i λj=>HN 6 j λj=>MM zS λk=>HG 6 j k λ_=>dS (dV (O2 1 16 .nil g λj=>MJ 3 k λl=>dC 69 [l] λl=>O2 1 16 j l λj=>QR j λj=>dE [0,1,0,4,15,31,63] (Ia 3 k λl=>oC 87 [c,l,j] λl=>Ia 4 k λk=>oC 88 [c,k,j] λj=>H3 i (I 1) λi=>b c d g h i)))) (yI e n Q a c d g h)
def lN(a:F4):Nat->F5
 |0=>N5
 |m+1=>eU e n Q a (lN a m)
def lM(a:F4):F4:=λb c d g=>Hv c λh=>ID g h λh=>cN h (e5 (lN e n Q a) b c d g (I 0)) (r0 e n Q)
def bE:Nat->F4
 |0=>N4
 |m+1=>lM e n Q (bE m)
def c88:F3:=λa b c=>e4 (bE e n Q) a b c (I 0)
def ANy:P3 88 c88:=p3 func88 50 λe n Q=>(Gt (G7 (wL (λm=>J4 (bE e n Q m) 0 1 2 6) λa=>(Gt (Gt (wA (J4 (yI e n Q (bE e n Q a)) 0 1 2 6) Gs) (G7 (Gt (G7 (wL (λm=>J5 (lN e n Q (bE e n Q a) m) 0 1 2 6 7) λa=>Gs)) Gs))) Gs))) Gs)
def Qf:F1:=λa=>HL a λa=>r1 a e n Q
def Rd:F4:=λa b c d=>ZO d (I 0) λg=>Mx g a λh=>Is g (IA h) λh=>Is g (Iz 1 h) λh=>Is g (G3 h) λh=>Is g (JJ h (I 0)) λh=>Hy g h bF λg=>cN g (Ia 10 b λb=>Kq 6 b d λb=>Ia 5 b λb=>oC 68 [a,b,I 25] λa=>Qf e n Q c) (Qf e n Q c)
def Pm(e n:Nat)(Q:QT)(a:F9):F9:=λb c d g h i j k l=>H3 l (I 1) λl=>a b c d g h i j k l
def PZ(a:F9):F10:=λb c d g h i j k l o=>WC .not o λo=>Mx o k λp=>Is o (fU p (I 0)) λp=>Hy o p bF λo=>cN o (HL l λo=>Pm e n Q a b c d g h i j o l) (Pm e n Q a b c d g h i j k l)
def VQ(a:F9)(b:bl):bl:=λc d g h i j k l o p q r=>Hv p λt=>ID r t λt=>cN t (Mx q k λt=>Mx q p λu=>Mx q r λv=>Is q (Jq 1 u v) λu=>Is q (G3 u) λu=>hCT q 85 [t,u] λt=>Hy q t bF λt=>HL t λt=>H3 r (I 1) λr=>b c d g h i j k l o p t r) (PZ e n Q a c d g h i j k l o q)
def dt(a:F9):Nat->bl
 |0=>N12
 |m+1=>VQ e n Q a (dt a m)
def Ob(a:F9):F10:=λb c d g h i j k l o=>Hv j λp=>Hv o λq=>IX p q λp=>xT (dt e n Q a) b c d g h i j k l o p (I 0)
def Oa(a:F9):F10:=λb c d g h i j k l o=>KA l (I 0) λp=>cN p (HL o λp=>Ob e n Q a b c d g h i p k l o) (Ob e n Q a b c d g h i j k l o)
def Oc(e n:Nat)(Q:QT)(a:F9)(a:F13):F13:=λb c d g h i j k l o p q r=>H3 r (I 1) λr=>a b c d g h i j k l o p q r
def Oz(a:F9)(b:F13):F13:=λc d g h i j k l o p q r t=>Hv q λu=>ID t u λu=>cN u (Kq 1 q t λu=>JR u λu=>oC 85 [p,u] λu=>WC .not u λu=>cN u (Kq 1 q t λu=>JR u λu=>Om 1 [u] λu=>PU 1 16 r u λu=>HL u λu=>Oc e n Q a b c d g h i j k l o p q u t) (Oc e n Q a b c d g h i j k l o p q r t)) (Oa e n Q a c d g h i j k l o r)
def YC(a:F9):Nat->F13
 |0=>N13
 |m+1=>Oz e n Q a (YC a m)
def OZ(a:F9):F13:=λb c d g h i j k l o p q r=>Ia 2 o λo=>oC 124 [b,o,i,p,g] λo=>KZ 1 b λo=>Nc o (I 0) λo=>cN o (Le λo=>r1 o e n Q) (Le λo=>e13 (YC e n Q a) b c d g h i j k l q r o (I 0))
def O0(a:F9)(b:F14):F14:=λc d g h i j k l o p q r t u=>Ia 3 p λv=>Hv v λv=>ID u v λv=>cN v (Ia 3 p λv=>Kq 5 v u λv=>Ia 0 v λv=>oC 85 [t,v] λv=>WC .not v λv=>cN v (Ia 3 p λv=>Kq 5 v u λv=>Ia 4 v λv=>oC 68 [c,v,I 24] λv=>Le λv=>r1 v e n Q) (H3 u (I 1) λu=>b c d g h i j k l o p q r t u)) (OZ e n Q a c d g h i j k l o p q r t)
def du(a:F9):Nat->F14
 |0=>N14
 |m+1=>O0 e n Q a (du a m)
def NU(a:F9):qm:=λb c d g h i j k l o p=>Ia 1 o λq=>oC 124 [b,q,i,c,g] λq=>KZ 1 b λq=>Nc q (I 0) λq=>cN q (Le λq=>r1 q e n Q) (Ia 3 o λq=>XM 69 [q] λq=>dS (dV (MJ 4 o λr=>dV (dV (O2 1 16 .nil d λt=>dV (O2 1 16 t q λt=>dV (dC 86 [b,r,p,t,g] λr=>QR r λr=>dE [0,0,2,0,0,16,0,112,0,511,1023] (KZ 1 b λt=>Nc t (I 0) λt=>cN t (Le λt=>r1 t e n Q) (e14 (du e n Q a) b c d g h i j k l o p q r (I 0))))))))))
def RJ(a:F9)(b:bl):bl:=λc d g h i j k l o p q r=>Ia 3 p λt=>Hv t λt=>ID r t λt=>cN t (Ia 3 p λt=>Kq 5 t r λt=>Ia 0 t λt=>oC 85 [q,t] λt=>cN t (Ia 3 p λt=>Kq 5 t r λt=>Ia 4 t λt=>oC 68 [c,t,I 20] λt=>Le λt=>r1 t e n Q) (Ia 3 p λt=>Kq 5 t r λt=>Ia 0 t λt=>Om 1 [t] λt=>PU 1 16 q t λt=>HL t λt=>H3 r (I 1) λr=>b c d g h i j k l o p t r)) (NU e n Q a c d g h i j k l o p q)
def YD(a:F9):Nat->bl
 |0=>N12
 |m+1=>RJ e n Q a (YD a m)
def YF(a:F9):F9:=λb c d g h i j k l=>Ia 10 h λo=>Hv o λo=>ID l o λo=>Mx o b λp=>Is o (IA p) λp=>Is o (Iz 1 p) λp=>Is o (G3 p) λp=>Is o (JJ p (I 0)) λp=>Hy o p bF λo=>cN o (Ia 10 h λo=>Kq 6 o l λo=>HN 6 o λo=>MM zS λp=>HG 6 o p λ_=>PU 1 16 .nil c λo=>HL o λo=>xT (YD e n Q a) b c d g h i j k l p o (I 0)) (Rd e n Q b h j k)
def KW:Nat->F9
 |0=>N9
 |m+1=>YF e n Q (KW m)
def WM:F6:=λa b c d g h=>Le λi=>e9 (KW e n Q) a b c d g h i (I (-1)) (I 0)
def RK(a:F7):F7:=λb c d g h i j=>Ia 10 h λk=>Hv k λk=>ID j k λk=>cN k (Ia 10 h λk=>Kq 6 k j λk=>Ia 0 k λk=>oC 85 [i,k] λk=>cN k (Ia 10 h λk=>Kq 6 k j λk=>Ia 5 k λk=>oC 68 [b,k,I 20] λk=>Le λk=>r1 k e n Q) (Ia 10 h λk=>Kq 6 k j λk=>Ia 0 k λk=>Om 1 [k] λk=>PU 1 16 i k λk=>HL k λk=>H3 j (I 1) λj=>a b c d g h k j)) (WM e n Q b c d g h i)
def YE:Nat->F7
 |0=>N7
 |m+1=>RK e n Q (YE m)
def ARj:F5:=λa b c d g=>Mr b λb=>Le λh=>Le λh=>e7 (YE e n Q) a c d g b h (I 0)
def AIs:P5 108 ARj:=p5 func108 245 λe n Q=>(Gt (Gt (Gt (wA (J6 (WM e n Q) 0 2 3 4 6 11) (Gt (Gt (Gt (wA (J4 (Rd e n Q) 0 6 13 14) (Gt (wA (J1 (Qf e n Q) 13) Gs) Gs)) (Gt (G7 (wL (λm=>J9 (KW e n Q m) 0 2 3 4 6 11 13 14 15) λa=>(Gt (Gt (wA (J9 (Pm e n Q (KW e n Q a)) 0 2 3 4 6 11 13 14 15) Gs) (G7 (Gt (Gt (Gt (wA (J11 (NU e n Q (KW e n Q a)) 0 2 3 4 6 11 13 14 15 16 17) (Gt (Gt (Gt (Gt (Gt (Gt (wA (J13 (OZ e n Q (KW e n Q a)) 0 2 3 4 6 11 13 14 15 16 17 19 20) (Gt (Gt (Gt (Gt (wA (J10 (Oa e n Q (KW e n Q a)) 0 2 3 4 6 11 13 14 15 22) (Gt (wA (J10 (Ob e n Q (KW e n Q a)) 0 2 3 4 6 11 13 14 15 22) (Gt (Gt (wA (J10 (PZ e n Q (KW e n Q a)) 0 2 3 4 6 11 13 14 15 24) Gs) (Gt (G7 (wL (λm=>J12 (dt e n Q (KW e n Q a) m) 0 2 3 4 6 11 13 14 15 22 24 25) λb=>Gs)) Gs)) Gs)) Gs)) (Gt (G7 (wL (λm=>J13 (YC e n Q (KW e n Q a) m) 0 2 3 4 6 11 13 14 15 19 20 22 23) λb=>(Gt (Gt (wA (J13 (Oc e n Q (KW e n Q a) (YC e n Q (KW e n Q a) b)) 0 2 3 4 6 11 13 14 15 19 20 22 23) Gs) Gs) Gs))) Gs)) Gs) Gs) Gs)) (Gt (G7 (wL (λm=>J14 (du e n Q (KW e n Q a) m) 0 2 3 4 6 11 13 14 15 16 17 19 20 21) λb=>Gs)) Gs)) Gs) Gs) Gs) Gs) Gs)) (Gt (G7 (wL (λm=>J12 (YD e n Q (KW e n Q a) m) 0 2 3 4 6 11 13 14 15 16 17 18) λa=>Gs)) Gs)) Gs) Gs))) Gs))) Gs)) Gs) Gs)) (Gt (G7 (wL (λm=>J7 (YE e n Q m) 0 2 3 4 6 11 12) λa=>Gs)) Gs)) Gs) Gs)
def RL(a:F5):F5:=λb c d g h=>Ia 7 g λi=>Hv i λi=>ID h i λi=>Mx i b λj=>Is i (IA j) λj=>Is i (Iz 1 j) λj=>Is i (G3 j) λj=>Is i (JJ j (I 0)) λj=>Hy i j bF λi=>cN i (Ia 7 g λi=>Kq 9 i h λi=>HN 9 i λi=>oC 109 [b,i,c,d] λi=>H3 h (I 1) λh=>a b c d g h) (r0 e n Q)
def Tt:Nat->F5
 |0=>N5
 |m+1=>RL e n Q (Tt m)
def ARk:F4:=λa b c d=>Mr b λb=>Ia 0 b λg=>KA g (I 2) λg=>Kz g (Iz 0 b) λh=>Kz g (G3 h) λh=>Kz g (JJ h (I 9)) λh=>Hy g bT h λg=>Kz g (Iz 0 b) λh=>Kz g (G3 h) λh=>Kz g (JJ h (I 10)) λh=>Hy g bT h λg=>HL g λg=>Ia 2 b λh=>XM 85 [c,h] λh=>Mx g h λh=>Is g (KV .not h) λh=>Hy g h bF λg=>cN g (Ia 8 b λg=>oC 68 [a,g,I 21] λg=>r0 e n Q) (dS (MJ 0 b λg=>dC 117 [g] λg=>dV (eVT g a λh=>eQT g (IA h) λh=>eQT g (Iz 0 h) λh=>eQT g (G4 1 h) λh=>eQT g (Iz 2 b) λi=>eQT g (G3 i) λi=>eVT g d λj=>eCT g 84 [h,i,j] λh=>eQT g (fU h (I 0)) λh=>RE g h bF λg=>dE [0,1,3,7,15,31,63,127,15,271,15,2047,4095,8191] (cN g (Ia 8 b λg=>oC 68 [a,g,I 21] λg=>r0 e n Q) (Ia 0 b λg=>KA g (I 14) λg=>Kz g (Iz 0 b) λh=>Kz g (G3 h) λh=>Kz g (JJ h (I 15)) λh=>Hy g bT h λg=>Kz g (Iz 0 b) λh=>Kz g (G3 h) λh=>Kz g (JJ h (I 18)) λh=>Hy g bT h λg=>Is g (Iz 7 b) λh=>Is g (G3 h) λh=>Is g (Hg h) λh=>Is g (fU h (I 1)) λh=>Hy g h bF λg=>cN g (Ia 8 b λg=>oC 68 [a,g,I 23] λg=>r0 e n Q) (e5 (Tt e n Q) a c d b (I 0)))))))
def AIt:P4 109 ARk:=p4 func109 101 λe n Q=>(Gt (Gt (Gt (Gt (Gt (Gt (Gt (G7 (wL (λm=>J5 (Tt e n Q m) 0 2 3 5 10) λa=>Gs)) Gs) Gs) Gs) Gs) Gs) Gs) Gs)
def jl(e n:Nat)(Q:QT)(a:F6):F6:=λb c d g h i=>H3 i (I 1) λi=>a b c d g h i
def Qh(a:F6):F6:=λb c d g h i=>Hv c λj=>ID i j λj=>Mx j b λk=>Is j (IA k) λk=>Is j (Iz 1 k) λk=>Is j (G3 k) λk=>Is j (JJ k (I 0)) λk=>Hy j k bF λj=>cN j (Kq 12 c i λj=>Ia 9 j λj=>oC 85 [d,j] λj=>WC .not j λj=>cN j (Kq 12 c i λj=>Ia 11 j λj=>oC 68 [b,j,I 21] λj=>r0 e n Q) (Kq 12 c i λj=>iS 0 j λj=>HN 9 j λj=>oC 109 [b,j,g,h] λj=>Kq 12 c i λj=>iS 0 j λj=>HN 9 j λj=>XM 151 [j] λj=>cN j (Kq 12 c i λj=>Ia 11 j λj=>oC 68 [b,j,I 26] λj=>jl e n Q a b c d g h i) (jl e n Q a b c d g h i))) (r0 e n Q)
def WN:Nat->F6
 |0=>N6
 |m+1=>Qh e n Q (WN m)
def ARv:F5:=λa b c d g=>e6 (WN e n Q) a b c d g (I 0)
def AI3:P5 124 ARv:=p5 func124 63 λe n Q=>(Gt (G7 (wL (λm=>J6 (WN e n Q m) 0 1 2 3 4 10) λa=>(Gt (Gt (wA (J6 (jl e n Q (WN e n Q a)) 0 1 2 3 4 10) Gs) Gs) Gs))) Gs)
def jm:F0:=r1 bF e n Q
def Tw(a:F2):F2:=λb c=>Ia 7 b λd=>Hv d λd=>ID c d λd=>cN d (Ia 7 b λd=>Kq 9 d c λd=>HN 9 d λd=>XM 151 [d] λd=>cN d (r1 bT e n Q) (H3 c (I 1) λc=>a b c)) (jm e n Q)
def Zn:Nat->F2
 |0=>N2
 |m+1=>Tw e n Q (Zn m)
def AR7:F1:=λa=>Mr a λa=>Ia 0 a λb=>KA b (I 6) λb=>Kz b (Iz 0 a) λc=>Kz b (G3 c) λc=>Kz b (JJ c (I 7)) λc=>Hy b bT c λb=>Kz b (Iz 0 a) λc=>Kz b (G3 c) λc=>Kz b (JJ c (I 8)) λc=>Hy b bT c λb=>Kz b (Iz 0 a) λc=>Kz b (G3 c) λc=>Kz b (JJ c (I 12)) λc=>Hy b bT c λb=>Kz b (Iz 0 a) λc=>Kz b (G3 c) λc=>hCF b 117 [c] λc=>Hy b bT c λb=>cN b (r1 bT e n Q) (e2 (Zn e n Q) a (I 0))
def AJF:P1 151 AR7:=p1 func151 42 λe n Q=>(Gt (Gt (Gt (wA (J0 (jm e n Q)) Gs) (Gt (G7 (wL (λm=>J2 (Zn e n Q m) 1 3) λa=>Gs)) Gs)) Gs) Gs)
def AAp:F1:=λa=>HL a λa=>r1 a e n Q
def lA(a:F3):F3:=λb c d=>Hv b λg=>ID d g λg=>cN g (Kq 5 b d λg=>Ia 0 g λg=>Om 1 [g] λg=>PU 1 16 c g λg=>HL g λg=>H3 d (I 1) λd=>a b g d) (AAp e n Q c)
def o6:Nat->F3
 |0=>N3
 |m+1=>lA e n Q (o6 m)
def c69:F1:=λa=>Le λb=>Le λb=>e3 (o6 e n Q) a b (I 0)
def ANk:P1 69 c69:=p1 func69 20 λe n Q=>(Gt (Gt (Gt (wA (J1 (AAp e n Q) 3) Gs) (Gt (G7 (wL (λm=>J3 (o6 e n Q m) 0 3 4) λa=>Gs)) Gs)) Gs) Gs)
def kh:F1:=λa=>dS (dV (Nk a λb=>MJ 2 b λb=>dV (Nk a λa=>MJ 1 a λa=>QR b λb=>QR a λa=>dE [0,1,3,7,0,16,48,112,15,511] (r2 b a e n Q))))
def eI(a:F3):F3:=λb c d=>Ia 0 b λg=>Hv g λg=>ID d g λg=>Mx g c λh=>Is g (IA h) λh=>Is g (Iz 1 h) λh=>Is g (G3 h) λh=>Is g (JJ h (I 0)) λh=>Hy g h bF λg=>cN g (Ia 0 b λg=>Kq 6 g d λg=>HN 6 g λg=>MM zS λh=>HG 6 g h λ_=>HN 6 h λg=>XM 40 [g,.nil] λg=>oC 55 [c,g] λi=>Ia 3 h λi=>oC 56 [c,i,g] λi=>Ia 4 h λh=>oC 57 [c,h,g] λg=>H3 d (I 1) λd=>a b c d) (kh e n Q c)
def rL:Nat->F3
 |0=>N3
 |m+1=>eI e n Q (rL m)
def c35:F1:=λa=>Mr a λa=>HN 1 a λb=>JI [.nil,I 0,I 0] [(some (0,1),b)] λb=>Mr b λb=>HL b λb=>e3 (rL e n Q) a b (I 0)
def ANX:P1 35 c35:=p1 func35 53 λe n Q=>(Gt (Gt (Gt (wA (J1 (kh e n Q) 4) Gs) (Gt (G7 (wL (λm=>J3 (rL e n Q m) 1 4 5) λa=>Gs)) Gs)) Gs) Gs)
def c40:F2:=λa b=>Mr a λa=>Le λc=>Ia 1 a λc=>PU 5 64 .nil c λc=>HL c λc=>dS (dV (MJ 2 a λd=>O2 5 64 c d λc=>MJ 3 a λa=>O2 5 64 c a λa=>QR a λa=>dE [0,0,2,7,0,16,63,127] (PU 5 64 a b λa=>HL a λa=>r1 a e n Q)))
def ANY:P2 40 c40:=p2 func40 19 λe n Q=>Gs
def ku(a:F3):F3:=λb c d=>Hv c λg=>ID d g λg=>cN g (Kq 5 c d λg=>iS 1 g λg=>Ia 1 g λg=>QM g (I 16) λg=>cN g (Kq 5 c d λg=>Ia 4 g λg=>oC 68 [b,g,I 23] λg=>r0 e n Q) (H3 d (I 1) λd=>a b c d)) (r0 e n Q)
def AAm:Nat->F3
 |0=>N3
 |m+1=>ku e n Q (AAm m)
def c55:F2:=λa b=>e3 (AAm e n Q) a b (I 0)
def ANe:P2 55 c55:=p2 func55 25 λe n Q=>(Gt (G7 (wL (λm=>J3 (AAm e n Q m) 0 1 4) λa=>Gs)) Gs)
def rM(e n:Nat)(Q:QT)(a:F4):F4:=λb c d g=>H3 g (I 1) λg=>a b c d g
def gN(e n:Nat)(Q:QT)(a:F4)(a:F5):F5:=λb c d g h=>H3 h (I 1) λh=>a b c d g h
def eO(a:F4)(b:F5):F5:=λc d g h i=>Kq 5 d h λj=>Ia 3 j λj=>Hv j λj=>ID i j λj=>Mx j c λk=>Is j (IA k) λk=>Is j (Iz 1 k) λk=>Is j (G3 k) λk=>Is j (JJ k (I 0)) λk=>Hy j k bF λj=>cN j (dS (dV (dV (dV (dV (PL 5 d h λj=>MJ 3 j λj=>dV (PL 2 j i λj=>MJ 0 j λj=>dC 89 [g,j] λj=>PL 5 g j λj=>ga 1 j λj=>Jz 2 j λj=>dC 90 [] λk=>oO .neq 74 j k λj=>dE [0,0,0,0,12,28,60,0,252,508,1020,2046,4095,8191,16383,4094,65535] (cN j (Kq 5 d h λj=>Ia 4 j λj=>oC 68 [c,j,I 22] λj=>gN e n Q a b c d g h i) (gN e n Q a b c d g h i))))))))) (rM e n Q a c d g h)
def b8(a:F4):Nat->F5
 |0=>N5
 |m+1=>eO e n Q a (b8 a m)
def ky(a:F4):F4:=λb c d g=>Hv c λh=>ID g h λh=>Mx h b λi=>Is h (IA i) λi=>Is h (Iz 1 i) λi=>Is h (G3 i) λi=>Is h (JJ i (I 0)) λi=>Hy h i bF λh=>cN h (e5 (b8 e n Q a) b c d g (I 0)) (r0 e n Q)
def bD:Nat->F4
 |0=>N4
 |m+1=>ky e n Q (bD m)
def c56:F3:=λa b c=>e4 (bD e n Q) a b c (I 0)
def ANf:P3 56 c56:=p3 func56 62 λe n Q=>(Gt (G7 (wL (λm=>J4 (bD e n Q m) 0 1 2 6) λa=>(Gt (Gt (wA (J4 (rM e n Q (bD e n Q a)) 0 1 2 6) Gs) (G7 (Gt (G7 (wL (λm=>J5 (b8 e n Q (bD e n Q a) m) 0 1 2 6 7) λb=>(Gt (Gt (wA (J5 (gN e n Q (bD e n Q a) (b8 e n Q (bD e n Q a) b)) 0 1 2 6 7) Gs) Gs) Gs))) Gs))) Gs))) Gs)
end
end
section
open Go.Proofs Go.Proofs.Tryz
def cA(e n:Nat)(Q:QT)(a:F4):F4:=λb c d g=>H3 g (I 1) λg=>a b c d g
def WW(e n:Nat)(Q:QT)(a:F4)(a:F7):F7:=λb c d g h i j=>H3 j (I 1) λj=>a b c d g h i j
section
variable(e n:Nat) (Q:QT)
def eQ(a:F4)(b:F7):F7:=λc d g h i j k=>Ia 0 i λl=>Hv l λl=>ID k l λl=>Mx l c λo=>Is l (IA o) λo=>Is l (Iz 1 o) λo=>Is l (G3 o) λo=>Is l (JJ o (I 0)) λo=>Hy l o bF λl=>cN l (dS (dV (dV (MJ 0 i λl=>dV (PL 1 l k λl=>MC l λl=>dC 89 [g,l] λl=>PL 5 g l λl=>ga 1 l λl=>Jz 2 l λl=>dV (dV (PL 2 j k λo=>Jz 2 o λo=>oO .neq 74 l o λl=>dE [0,0,0,4,0,28,60,126,255,511,1023,0,0,6144,14336,32767] (cN l (Ia 11 i λl=>oC 68 [c,l,I 22] λl=>WW e n Q a b c d g h i j k) (WW e n Q a b c d g h i j k))))))))) (cA e n Q a c d g h)
def YZ(a:F4):Nat->F7
 |0=>N7
 |m+1=>eQ e n Q a (YZ a m)
def cB(a:F4):F6:=λb c d g h i=>e7 (YZ e n Q a) b c d g h i (I 0)
def YX(a:F4):F5:=λb c d g h=>Ia 10 h λi=>Hv i λi=>QM i (I 0) λi=>cN i (cA e n Q a b c d g) (iS 1 h λi=>HN 9 i λi=>XM 92 [b,i,d] λi=>KZ 1 b λj=>KA j (I 0) λj=>Mx j i λk=>Is j (Hg k) λk=>Is j (Iz 0 h) λl=>Is j (G3 l) λl=>Is j (Hg l) λl=>Is j (UF k l) λk=>Hy j k bF λj=>cN j (Ia 11 h λj=>oC 68 [b,j,I 23] λj=>cB e n Q a b c d g h i) (cB e n Q a b c d g h i))
def YY(a:F4)(b:F6):F6:=λc d g h i j=>Ia 10 i λk=>Hv k λk=>ID j k λk=>Mx k c λl=>Is k (IA l) λl=>Is k (Iz 1 l) λl=>Is k (G3 l) λl=>Is k (JJ l (I 0)) λl=>Hy k l bF λk=>cN k (Ia 10 i λk=>Kq 6 k j λk=>HN 6 k λk=>MM zS λl=>HG 6 k l λ_=>dS (dV (O2 5 64 .nil g λk=>MJ 3 l λo=>O2 5 64 k o λk=>QR k λk=>dE [0,1,0,4,15,31] (Ia 3 l λo=>oC 55 [c,o] λo=>Ia 3 l λo=>oC 56 [c,o,k] λo=>Ia 1 l λo=>oC 91 [c,o,g] λo=>Ia 4 l λo=>oC 57 [c,o,k] λo=>Ia 2 l λl=>oC 91 [c,l,k] λk=>H3 j (I 1) λj=>b c d g h i j)))) (YX e n Q a c d g h i)
def eP(a:F4):Nat->F6
 |0=>N6
 |m+1=>YY e n Q a (eP a m)
def kz(a:F4):F4:=λb c d g=>Hv c λh=>ID g h λh=>Mx h b λi=>Is h (IA i) λi=>Is h (Iz 1 i) λi=>Is h (G3 i) λi=>Is h (JJ i (I 0)) λi=>Hy h i bF λh=>cN h (Kq 12 c g λh=>HN 12 h λh=>MM zI λi=>HG 12 h i λ_=>e6 (eP e n Q a) b c d g i (I 0)) (r0 e n Q)
def PK:Nat->F4
 |0=>N4
 |m+1=>kz e n Q (PK m)
def c57:F3:=λa b c=>e4 (PK e n Q) a b c (I 0)
def ANg:P3 57 c57:=p3 func57 138 λe n Q=>(Gt (G7 (wL (λm=>J4 (PK e n Q m) 0 1 2 6) λa=>(Gt (Gt (wA (J4 (cA e n Q (PK e n Q a)) 0 1 2 6) Gs) (G7 (Gt (Gt (wA (J5 (YX e n Q (PK e n Q a)) 0 1 2 6 7) (Gt (Gt (Gt (wA (J6 (cB e n Q (PK e n Q a)) 0 1 2 6 7 11) (Gt (G7 (wL (λm=>J7 (YZ e n Q (PK e n Q a) m) 0 1 2 6 7 11 12) λb=>(Gt (Gt (wA (J7 (WW e n Q (PK e n Q a) (YZ e n Q (PK e n Q a) b)) 0 1 2 6 7 11 12) Gs) Gs) Gs))) Gs)) Gs) Gs) Gs)) (Gt (G7 (wL (λm=>J6 (eP e n Q (PK e n Q a) m) 0 1 2 6 7 8) λa=>Gs)) Gs)) Gs))) Gs))) Gs)
def AAs:F0:=r1 (I (-1)) e n Q
def lO(a:F3):F3:=λb c d=>ZO d (I 0) λg=>cN g (Kq 5 b d λg=>Ia 0 g λg=>JB .eql 9 g c λg=>cN g (HL d λg=>r1 g e n Q) (XN d (I 1) λd=>a b c d)) (AAs e n Q)
def AAt:Nat->F3
 |0=>N3
 |m+1=>lO e n Q (AAt m)
def c89:F2:=λa b=>Hv a λc=>XN c (I 1) λc=>e3 (AAt e n Q) a b c
def ANz:P2 89 c89:=p2 func89 21 λe n Q=>(Gt (Gt (wA (J0 (AAs e n Q)) Gs) (Gt (G7 (wL (λm=>J3 (AAt e n Q m) 0 1 5) λa=>Gs)) Gs)) Gs)
def c90:F0:=MM [I 0,I 0] λa=>JI [I 0,I 0] [(some (0,1),(I 1))] λb=>HG 2 b a λ_=>rF (λs=>[I8 (G4 2 a) s]) e n Q
def AN0:P0 90 c90:=p0 func90 2 λe n Q=>Gs
def gU(e n:Nat)(Q:QT)(a:F4):F4:=λb c d g=>H3 g (I 1) λg=>a b c d g
def cE(a:F4):F4:=λb c d g=>Hv c λh=>ID g h λh=>Mx h b λi=>Is h (IA i) λi=>Is h (Iz 1 i) λi=>Is h (G3 i) λi=>Is h (JJ i (I 0)) λi=>Hy h i bF λh=>cN h (Kq 12 c g λh=>iS 0 h λh=>HN 9 h λh=>oC 110 [b,h,d] λh=>MM [I 0,I 0] λi=>HG 2 h i λ_=>dS (dV (Nk b λh=>MJ 1 h λh=>AL1 h (I 0) λh=>dV (eQT h (G4 2 i) λi=>eCT h 90 [] λj=>eQT h (qB .neq 74 i j) λi=>RE h i bF λh=>dE [0,1,3,7,15,31,63,63,255,511] (cN h (Kq 12 c g λh=>Ia 11 h λh=>oC 68 [b,h,I 22] λh=>gU e n Q a b c d g) (gU e n Q a b c d g)))))) (r0 e n Q)
def iw:Nat->F4
 |0=>N4
 |m+1=>cE e n Q (iw m)
def c91:F3:=λa b c=>e4 (iw e n Q) a b c (I 0)
def AN1:P3 91 c91:=p3 func91 46 λe n Q=>(Gt (G7 (wL (λm=>J4 (iw e n Q m) 0 1 2 6) λa=>(Gt (Gt (wA (J4 (gU e n Q (iw e n Q a)) 0 1 2 6) Gs) Gs) Gs))) Gs)
def Mo:F4:=λa b c d=>Nc c (I 0) λg=>cN g (Ia 8 b λb=>oC 68 [a,b,c] λa=>Le λa=>r1 a e n Q) (HN 2 d λa=>Om 2 [a] λa=>HL a λa=>r1 a e n Q)
def S7:F5:=λa b c d g=>Kq 2 c (I 0) λc=>HN 2 c λc=>HG 2 c g λ_=>Mo e n Q a b d g
def S8:F5:=λa b c d g=>Nb 0 1 g d λ_=>Mo e n Q a b c d
def S9:F5:=λa b c d g=>Kq 2 c (I 1) λc=>HN 2 c λc=>HG 2 c g λ_=>Mo e n Q a b d g
def TB:F5:=λa b c d g=>Kq 2 c (I 0) λc=>HN 2 c λc=>HG 2 c g λ_=>Mo e n Q a b d g
def TC:F5:=λa b c d g=>Kq 2 c (I 0) λc=>HN 2 c λc=>HG 2 c g λ_=>Mo e n Q a b d g
def TD:F5:=λa b c d g=>Kq 2 c (I 0) λc=>HN 2 c λc=>HG 2 c g λ_=>Mo e n Q a b d g
def TE:F4:=λa b c d=>iS 3 b λg=>HN 2 g λg=>HG 2 g d λ_=>Mo e n Q a b c d
def TF:F4:=λa b c d=>oC 90 [] λg=>HG 2 g d λ_=>Mo e n Q a b c d
def Um:F5:=λa b c d g=>KA d (I 0) λh=>Mx h c λc=>Is h (Hg c) λc=>Is h (UE c (I 16)) λc=>Hy h c bF λc=>cN c (Mo e n Q a b (I 23) g) (Mo e n Q a b d g)
def TG(e n:Nat)(Q:QT)(a:F6):F6:=λb c d g h i=>H3 i (I 1) λi=>a b c d g h i
def Yc(a:F6):F6:=λb c d g h i=>Hv d λj=>ID i j λj=>cN j (dS (dV (dV (PL 2 d i λj=>Jz 2 j λj=>dV (PL 2 d (I 0) λk=>Jz 2 k λk=>oO .neq 74 j k λj=>dV (ju j d λk=>ju j i λl=>Nl j (Jq 2 k l) λk=>Nl j (Iz 1 k) λk=>Nl j (G3 k) λk=>Nl j (UE k (I 0)) λk=>RE j bT k λj=>dE [0,0,3,7,0,16,48,127,255,511,511,2047,4095,8191,16383,32767] (cN j (TG e n Q a b c d (I 22) h i) (TG e n Q a b c d g h i)))))))) (Um e n Q b c d g h)
def Wi:Nat->F6
 |0=>N6
 |m+1=>Yc e n Q (Wi m)
def Ri:F5:=λa b c d g=>Kq 2 c (I 0) λc=>Ia 0 c λc=>Nb 0 1 c g λ_=>Mo e n Q a b d g
def Rj:F5:=λa b c d g=>dS (dV (PL 2 c (I 0) λc=>MJ 0 c λc=>MJ 5 b λh=>gZ [I 0,I 0] [(some (0,1),c),(some (1,1),h)] λc=>MD 2 c g λ_=>dE [0,1,3,7,0,16,63,127] (Mo e n Q a b d g)))
def Qn:F7:=λa b c d g h i=>cN i (HN 9 b λi=>XM 113 [a,i,c] λi=>r1 i e n Q) (IX h (I 15) λi=>cN i (Kq 2 c (I 0) λi=>Ia 0 i λi=>Hv c λj=>JI [I 0,I 0] [(some (0,1),i),(some (1,1),j)] λi=>HG 2 i g λ_=>e6 (Wi e n Q) a b c d g (I 0)) (IX h (I 16) λi=>cN i (Kq 2 c (I 0) λi=>Ia 1 i λi=>IX i (I 0) λi=>cN i (Ri e n Q a b c (I 22) g) (dS (MJ 5 b λi=>dV (PL 2 c (I 0) λj=>MJ 1 j λj=>ASb i j λi=>QR i λi=>dE [0,1,0,4,12,28,63,127] (cN i (Ri e n Q a b c (I 23) g) (Ri e n Q a b c d g)))))) (IX h (I 17) λh=>cN h (Kq 2 c (I 0) λh=>Ia 1 h λh=>AG0 h (I 0) λh=>cN h (Rj e n Q a b c (I 22) g) (Ia 5 b λh=>ID h (I 1) λh=>Kz h (Iz 5 b) λi=>Kz h (G3 i) λi=>Kz h (UE i (I 16)) λi=>Hy h bT i λh=>HL h λh=>cN h (Rj e n Q a b c (I 23) g) (Rj e n Q a b c d g))) (Mo e n Q a b d g))))
def TA:F8:=λa b c d g h i j=>cN j (dS (dV (PL 2 d (I 0) λj=>Jz 2 j λj=>dV (PL 2 d (I 1) λk=>Jz 2 k λk=>oO .neq 74 j k λj=>dE [0,1,3,0,8,24,63] (cN j (TB e n Q a c d (I 22) h) (TB e n Q a c d g h)))))) (IX i (I 9) λj=>cN j (dS (dV (dV (MJ 2 c λj=>dC 89 [b,j] λj=>PL 5 b j λj=>ga 1 j λj=>Jz 2 j λj=>dC 90 [] λk=>oO .neq 74 j k λj=>dE [0,0,0,4,14,31,63,127,30,511] (cN j (TC e n Q a c d (I 22) h) (TC e n Q a c d g h)))))) (IX i (I 10) λj=>cN j (dS (dV (dV (MJ 2 c λj=>dC 89 [b,j] λj=>PL 5 b j λb=>ga 1 b λb=>Jz 2 b λb=>dC 90 [] λj=>oO .neq 74 b j λb=>dV (ju b d λj=>Nl b (Jq 2 j (I 0)) λj=>Nl b (G4 2 j) λj=>ju b d λk=>Nl b (Jq 2 k (I 1)) λk=>Nl b (G4 2 k) λk=>Nl b (qB .neq 74 j k) λj=>RE b bT j λb=>dE [0,0,0,4,14,31,63,127,30,511,1023,2047,4095,8191,2047,18431,51199,131071,262143] (cN b (TD e n Q a c d (I 22) h) (TD e n Q a c d g h))))))) (IX i (I 11) λb=>cN b (Kq 2 d (I 0) λb=>Ia 1 b λb=>QM b (I 0) λb=>cN b (TE e n Q a c (I 22) h) (TE e n Q a c g h)) (IX i (I 12) λb=>cN b (Ia 5 c λb=>ID b (I 1) λb=>Kz b (Iz 5 c) λj=>Kz b (G3 j) λj=>Kz b (UE j (I 64)) λj=>Hy b bT j λb=>Kz b (Iz 6 c) λj=>Kz b (G3 j) λj=>Kz b (Iz 5 c) λk=>Kz b (G3 k) λk=>Kz b (AHS j k) λj=>Hy b bT j λb=>cN b (TF e n Q a c (I 23) h) (TF e n Q a c g h)) (IX i (I 13) λb=>cN b (Qn e n Q a c d g h i b) (IX i (I 14) λb=>cN b (Qn e n Q a c d g h i b) (IX i (I 18) λb=>cN b (Qn e n Q a c d g h i b) (IX i (I 19) λb=>Qn e n Q a c d g h i b))))))))
def eV:F4:=λa b c d=>KZ 1 a λg=>Nc g (I 0) λg=>cN g (Le λg=>r1 g e n Q) (JI [I 0,I 0] [] λg=>MM [I 0,I 0] λh=>HG 2 g h λ_=>Ia 0 c λg=>IX g (I 1) λi=>cN i (iS 3 c λi=>HN 2 i λi=>HG 2 i h λ_=>Mo e n Q a c (I 0) h) (IX g (I 2) λi=>cN i (Ia 2 c λi=>oC 89 [b,i] λi=>Kq 5 b i λi=>iS 1 i λi=>HN 2 i λi=>HG 2 i h λ_=>Mo e n Q a c (I 0) h) (IX g (I 3) λi=>cN i (dS (MJ 1 c λi=>dV (PL 2 d (I 0) λj=>MJ 0 j λj=>dC 111 [i,j,I 0] λi=>dV (dEx 0 i λj=>dEx 1 i λi=>QR j λj=>QR i λi=>dE [0,1,0,4,12,28,63,127,255,255,511,2047] (WC .not i λi=>U8 i d λj=>Kz i (Jq 2 j (I 0)) λj=>Kz i (Iz 1 j) λj=>Kz i (G3 j) λj=>Kz i (UE j (I 0)) λj=>Hy i bT j λi=>cN i (S7 e n Q a c d (I 22) h) (S7 e n Q a c d (I 0) h)))))) (IX g (I 4) λi=>cN i (dS (MJ 1 c λi=>dV (PL 2 d (I 0) λj=>MJ 0 j λj=>dC 112 [i,j,I 0,I 0] λi=>dV (dEx 0 i λj=>dEx 1 i λk=>dEx 2 i λi=>QR j λj=>QR k λj=>QR i λi=>dE [0,1,0,4,12,28,63,127,255,255,255,511,3071,8191] (dS (dV (dUn .not i λi=>dV (ju i d λk=>Nl i (Jq 2 k (I 0)) λk=>Nl i (Iz 1 k) λk=>Nl i (G3 k) λk=>Nl i (UE k (I 0)) λk=>RE i bT k λi=>dV (ju i d λk=>Nl i (Jq 2 k (I 1)) λk=>Nl i (G4 2 k) λk=>ju i d λl=>Nl i (Jq 2 l (I 0)) λl=>Nl i (G4 2 l) λl=>Nl i (qB .neq 74 k l) λk=>RE i bT k λi=>dE [0,1,3,7,15,31,63,127,255,511,1023,2047,4095,1023,9215,25599,65535,131071] (cN i (S8 e n Q a c (I 22) h j) (S8 e n Q a c (I 0) h j))))))))))) (IX g (I 5) λi=>cN i (dS (dV (PL 2 d (I 0) λi=>Jz 2 i λi=>dC 90 [] λj=>oO .neq 74 i j λi=>dV (ju i d λj=>Nl i (Jq 2 j (I 1)) λj=>Nl i (G4 2 j) λj=>ju i d λk=>Nl i (Jq 2 k (I 2)) λk=>Nl i (G4 2 k) λk=>Nl i (qB .neq 74 j k) λj=>RE i bT j λi=>dE [0,1,3,0,15,31,63,127,255,63,575,1599,4095,8191] (cN i (S9 e n Q a c d (I 22) h) (S9 e n Q a c d (I 0) h)))))) (IX g (I 6) λi=>cN i (Kq 2 d (I 0) λi=>HN 2 i λi=>HG 2 i h λ_=>Mo e n Q a c (I 0) h) (IX g (I 7) λi=>cN i (TA e n Q a b c d (I 0) h g i) (IX g (I 8) λi=>TA e n Q a b c d (I 0) h g i))))))))
def Yd(a:F5):F5:=λb c d g h=>Ia 7 d λi=>Hv i λi=>ID h i λi=>Mx i b λj=>Is i (IA j) λj=>Is i (Iz 1 j) λj=>Is i (G3 j) λj=>Is i (JJ j (I 0)) λj=>Hy i j bF λi=>cN i (Ia 7 d λi=>Kq 9 i h λi=>HN 9 i λi=>oC 110 [b,i,c] λi=>Om 2 [i] λi=>PU 2 16 g i λi=>HL i λi=>H3 h (I 1) λh=>a b c d i h) (eV e n Q b c d g)
def eW:Nat->F5
 |0=>N5
 |m+1=>Yd e n Q (eW m)
def c92:F3:=λa b c=>Mr b λb=>Le λd=>Le λd=>e5 (eW e n Q) a c b d (I 0)
def AN2:P3 92 c92:=p3 func92 325 λe n Q=>(Gt (Gt (Gt (wA (J4 (eV e n Q) 0 2 4 7) (Gt (Gt (Gt (Gt (wA (J4 (Mo e n Q) 0 4 9 10) Gs) (Gt (G7 (Gt (Jj Gs (Gt (Jj Gs (Gt (Jj (Gt (Gt (wA (J5 (S7 e n Q) 0 4 7 9 10) Gs) Gs) Gs) (Gt (Jj (Gt (Gt (wA (J5 (S8 e n Q) 0 4 9 10 14) Gs) Gs) Gs) (Gt (Jj (Gt (wA (J5 (S9 e n Q) 0 4 7 9 10) Gs) Gs) (Gt (Jj Gs (Gt (wA (J8 (TA e n Q) 0 2 4 7 9 10 49 145) (Jj (Gt (wA (J5 (TB e n Q) 0 4 7 9 10) Gs) Gs) (Gt (Jj (Gt (wA (J5 (TC e n Q) 0 4 7 9 10) Gs) Gs) (Gt (Jj (Gt (wA (J5 (TD e n Q) 0 4 7 9 10) Gs) Gs) (Gt (Jj (Gt (wA (J4 (TE e n Q) 0 4 9 10) Gs) Gs) (Gt (Jj (Gt (wA (J4 (TF e n Q) 0 4 9 10) Gs) Gs) (Gt (wA (J7 (Qn e n Q) 0 4 7 9 10 49 224) (Jj Gs (Gt (Jj (Gt (Gt (wA (J5 (Um e n Q) 0 4 7 9 10) Gs) (Gt (G7 (wL (λm=>J6 (Wi e n Q m) 0 4 7 9 10 16) λa=>(Gt (Gt (wA (J6 (TG e n Q (Wi e n Q a)) 0 4 7 9 10 16) Gs) Gs) Gs))) Gs)) Gs) (Gt (Jj (Gt (wA (J5 (Ri e n Q) 0 4 7 9 10) Gs) Gs) (Gt (Jj (Gt (wA (J5 (Rj e n Q) 0 4 7 9 10) Gs) Gs) Gs) Gs)) Gs)) Gs))) Gs)) Gs)) Gs)) Gs)) Gs))) Gs)) Gs)) Gs)) Gs)) Gs)) Gs)) Gs)) Gs)) Gs) Gs) Gs)) (Gt (G7 (wL (λm=>J5 (eW e n Q m) 0 2 4 7 8) λa=>Gs)) Gs)) Gs) Gs)
def Zk:F3:=λa b c=>KZ 1 a λa=>Nc a (I 0) λa=>cN a (JI [I 0,I 0] [] λa=>HG 2 a b λ_=>rF (λs=>[I8 (G4 2 b) s]) e n Q) (Kq 2 c (I 0) λa=>HN 2 a λa=>HG 2 a b λ_=>rF (λs=>[I8 (G4 2 b) s]) e n Q)
def ARl:F3:=λa b c=>Mr b λb=>MM [I 0,I 0] λd=>HN 9 b λg=>XM 92 [a,g,c] λc=>KZ 1 a λg=>KA g (I 0) λg=>Mx g c λh=>Is g (Hg h) λh=>Is g (UF h (I 1)) λh=>Hy g h bF λg=>cN g (Ia 8 b λb=>oC 68 [a,b,I 23] λb=>Zk e n Q a d c) (Zk e n Q a d c)
def AIu:P3 110 ARl:=p3 func110 35 λe n Q=>(Gt (Gt (Gt (wA (J3 (Zk e n Q) 0 6 7) Gs) Gs) Gs) Gs)
def Re:F4:=λa b c d=>Nc c (I 0) λg=>cN g (Ia 8 b λb=>oC 68 [a,b,c] λa=>Le λa=>r1 a e n Q) (HL d λa=>r1 a e n Q)
def VS(a:F6):F6:=λb c d g h i=>Ia 2 d λj=>Hv j λj=>ID i j λj=>cN j (Ia 2 d λj=>Kq 5 j i λj=>iS 1 j λj=>HN 2 j λj=>Om 2 [j] λj=>PU 2 16 h j λj=>HL j λj=>H3 i (I 1) λi=>a b c d g j i) (Re e n Q b c g h)
def YG:Nat->F6
 |0=>N6
 |m+1=>VS e n Q (YG m)
def R6:F5:=λa b c d g=>e6 (YG e n Q) a b c d g (I 0)
def R5:F6:=λa b c d g h=>dS (MJ 0 c λi=>AL1 i (I 14) λi=>dV (eVT i b λj=>eVT i b λb=>eQT i (Hg b) λb=>eQT i (AUt b (I 1)) λb=>eQT i (Jq 2 j b) λb=>eQT i (G4 2 b) λb=>eCT i 90 [] λj=>eQT i (qB .neq 74 b j) λb=>RE i b bF λb=>dE [0,1,3,7,15,15,47,111,255,511,15,2047,4095] (cN b (R6 e n Q a c d (I 22) h) (R6 e n Q a c d g h))))
def R7(e n:Nat)(Q:QT)(a:F7):F7:=λb c d g h i j=>H3 j (I 1) λj=>a b c d g h i j
def VU(a:F7):F7:=λb c d g h i j=>Ia 1 g λk=>Hv k λk=>ID j k λk=>cN k (dS (dV (dV (PL 2 c j λk=>Jz 2 k λk=>MJ 1 g λl=>dV (PL 5 l j λl=>ga 1 l λl=>Jz 2 l λl=>oO .neq 74 k l λk=>dE [0,0,3,7,0,16,0,112,240,496,1023] (cN k (R7 e n Q a b c d g (I 22) i j) (R7 e n Q a b c d g h i j))))))) (R5 e n Q b c d g h i)
def VT:Nat->F7
 |0=>N7
 |m+1=>VU e n Q (VT m)
def R4:F7:=λa b c d g h i=>Hv b λj=>Nc j i λi=>cN i (Ia 8 c λi=>oC 68 [a,i,I 23] λi=>Le λi=>r1 i e n Q) (e7 (VT e n Q) a b c d g h (I 0))
def Tu:F5:=λa b c d g=>dS (MJ 2 d λd=>PL 5 d (I 0) λd=>ga 1 d λd=>MJ 0 d λd=>dV (PL 2 b (I 0) λb=>MJ 1 b λb=>gZ [I 0,I 0] [(some (0,1),d),(some (1,1),b)] λb=>Xj 2 [b] λb=>QR b λb=>dE [0,1,3,7,15,31,0,64,192,448,1023,2047,4095] (Re e n Q a c g b)))
def R9(e n:Nat)(Q:QT)(a:F6):F6:=λb c d g h i=>H3 i (I 1) λi=>a b c d g h i
def VV(a:F6):F6:=λb c d g h i=>Hv c λj=>ID i j λj=>cN j (dS (MJ 1 g λj=>dV (PL 5 j i λj=>ga 1 j λj=>MJ 1 j λj=>AL2 j (I 0) λj=>dV (ju j c λk=>ju j i λl=>Nl j (Jq 2 k l) λk=>Nl j (Iz 1 k) λk=>Nl j (G3 k) λk=>Nl j (JJ k (I 0)) λk=>RE j bT k λj=>dV (ju j c λk=>ju j i λl=>Nl j (Jq 2 k l) λk=>Nl j (Iz 1 k) λk=>Nl j (G3 k) λk=>ju j c λl=>Nl j (Jq 2 l (I 0)) λl=>Nl j (Iz 1 l) λl=>Nl j (G3 l) λl=>Nl j (UF k l) λk=>RE j bT k λj=>dV (ju j c λk=>ju j i λl=>Nl j (Jq 2 k l) λk=>Nl j (Iz 0 k) λk=>Nl j (G3 k) λk=>Nl j (Iz 1 g) λl=>Nl j (G3 l) λl=>ju j i λo=>Nl j (Jq 5 l o) λl=>Nl j (Iz 1 l) λl=>Nl j (Iz 0 l) λl=>Nl j (G3 l) λl=>Nl j (UF k l) λk=>RE j bT k λj=>dE [0,1,0,7,15,31,63,127,255,511,511,2047,4095,8191,16383,32767,65535,131071,131071,524287,1048575,2097151,131071,4325375,12713983,29491199,67108863,134217727,268435455,536870911,536870911,2147483647,4294967295,8589934591,536870911,17716740095,536870911,120795955199,258234908671,533112815615,1082868629503,2199023255551,4398046511103] (cN j (R9 e n Q a b c d g (I 22) i) (R9 e n Q a b c d g h i)))))))) (Tu e n Q b c d g h)
def Tv:Nat->F6
 |0=>N6
 |m+1=>VV e n Q (Tv m)
def R8:F5:=λa b c d g=>e6 (Tv e n Q) a b c d g (I 0)
def Qg:F4:=λa b c d=>HN 2 d λd=>Om 2 [d] λd=>HL d λd=>Re e n Q a b c d
def R3:F8:=λa b c d g h i j=>cN j (Ia 1 d λj=>Hv j λj=>HL j λj=>Ia 0 c λk=>KA k (I 14) λk=>cN k (H3 j (I 1) λk=>R4 e n Q a b c d g h k) (R4 e n Q a b c d g h j)) (IX i (I 18) λj=>cN j (Ia 2 d λj=>Hv j λj=>Nc j (I 1) λj=>Kz j (Iz 1 d) λk=>Kz j (G3 k) λk=>Kz j (Hg k) λk=>U8 j b λl=>Kz j (Hg l) λl=>Kz j (UF k l) λk=>Hy j bT k λj=>cN j (Ia 8 c λj=>oC 68 [a,j,I 23] λj=>Le λj=>r1 j e n Q) (Ia 2 d λj=>Kq 5 j (I 0) λj=>iS 1 j λj=>Ia 1 j λj=>QM j (I 0) λj=>cN j (R8 e n Q a b c d (I 22)) (R8 e n Q a b c d g))) (IX i (I 19) λi=>cN i (Ia 2 d λi=>Hv i λi=>Nc i (I 1) λi=>Kz i (Iz 1 d) λj=>Kz i (G3 j) λj=>Kz i (Hg j) λj=>Kz i (UF j (I 2)) λj=>Hy i bT j λi=>cN i (Ia 8 c λi=>oC 68 [a,i,I 23] λi=>Le λi=>r1 i e n Q) (Ia 1 d λi=>Kq 5 i (I 0) λi=>iS 1 i λi=>HN 2 i λi=>MM [I 0,I 0] λj=>HG 2 i j λ_=>Ia 1 d λi=>Kq 5 i (I 1) λi=>iS 1 i λi=>HN 2 i λi=>MM [I 0,I 0] λk=>HG 2 i k λ_=>dS (MJ 1 j λi=>AL2 i (I 0) λi=>dV (Nl i (Iz 1 k) λl=>Nl i (G3 l) λl=>Nl i (UE l (I 0)) λl=>RE i bT l λi=>dV (Nl i (Iz 2 d) λd=>Nl i (G3 d) λd=>Nl i (Jq 5 d (I 0)) λd=>Nl i (Iz 1 d) λd=>Nl i (G4 2 d) λd=>Nl i (G4 2 j) λl=>Nl i (qB .neq 74 d l) λd=>RE i bT d λd=>dV (ju d b λi=>Nl d (Jq 2 i (I 0)) λi=>Nl d (G4 2 i) λi=>Nl d (G4 2 j) λl=>Nl d (qB .neq 74 i l) λi=>RE d bT i λd=>dV (ju d b λi=>Nl d (Jq 2 i (I 1)) λi=>Nl d (Iz 1 i) λi=>Nl d (G3 i) λi=>Nl d (JJ i (I 0)) λi=>RE d bT i λd=>dV (ju d b λb=>Nl d (Jq 2 b (I 1)) λb=>Nl d (Iz 0 b) λb=>Nl d (G3 b) λb=>Nl d (Iz 0 k) λi=>Nl d (G3 i) λi=>Nl d (UF b i) λb=>RE d bT b λb=>dE [0,1,3,7,15,31,63,127,255,511,1023,2047,4095,8191,511,32767,65535,131071,262143,524287,1048575,262143,4194303,8388607,16777215,33554431,67108863,134217727,268435455,536870911,1073741823,2147483647,4294967295,8589934591,17179869183,34359738367,4294967295,73014444031,274877906943,549755813887] (cN b (Qg e n Q a c (I 22) j) (Qg e n Q a c g j)))))))))) (Re e n Q a c g h)))
def ARm:F3:=λa b c=>Mr b λb=>Le λd=>dS (dV (Nk a λd=>ga 0 d λd=>MJ 0 d λd=>dV (Nk a λg=>ga 0 g λg=>Jz 1 g λg=>MJ 2 b λh=>dV (Nk a λi=>ga 0 i λi=>MJ 0 i λi=>uv i λi=>dC 84 [g,h,i] λg=>PL 6 d g λd=>Jz 6 d λd=>dBx zS λg=>MD 6 d g λ_=>dE [0,1,3,7,15,0,32,96,224,0,512,0,2048,6144,14336,30720,63488,131040,262143,524287,0,2097151] (Le λd=>Ia 0 b λh=>IX h (I 13) λi=>cN i (R3 e n Q a c b g (I 0) d h i) (IX h (I 14) λi=>R3 e n Q a c b g (I 0) d h i))))))
def AIv:P3 113 ARm:=p3 func113 266 λe n Q=>(Gt (Gt (Gt (Gt (Gt (wA (J4 (Re e n Q) 0 4 8 9) Gs) (Gt (G7 (Gt (wA (J8 (R3 e n Q) 0 2 4 7 8 9 37 38) (Jj (Gt (Gt (wA (J7 (R4 e n Q) 0 2 4 7 8 9 10) (Gt (Gt (wA (J6 (R5 e n Q) 0 2 4 7 8 9) (Gt (wA (J5 (R6 e n Q) 0 4 7 8 9) (Gt (G7 (wL (λm=>J6 (YG e n Q m) 0 4 7 8 9 12) λa=>Gs)) Gs)) Gs)) (Gt (G7 (wL (λm=>J7 (VT e n Q m) 0 2 4 7 8 9 11) λa=>(Gt (Gt (wA (J7 (R7 e n Q (VT e n Q a)) 0 2 4 7 8 9 11) Gs) Gs) Gs))) Gs)) Gs)) Gs) Gs) (Gt (Jj (Gt (Gt (wA (J5 (R8 e n Q) 0 2 4 7 8) (Gt (wA (J5 (Tu e n Q) 0 2 4 7 8) Gs) (Gt (G7 (wL (λm=>J6 (Tv e n Q m) 0 2 4 7 8 13) λa=>(Gt (Gt (wA (J6 (R9 e n Q (Tv e n Q a)) 0 2 4 7 8 13) Gs) Gs) Gs))) Gs))) Gs) Gs) (Gt (Jj (Gt (Gt (Gt (Gt (wA (J4 (Qg e n Q) 0 4 8 14) Gs) Gs) Gs) Gs) Gs) Gs) Gs)) Gs))) Gs)) Gs)) Gs) Gs) Gs) Gs)
def rB:F1:=λa=>HL a λa=>r1 a e n Q
def dx:F3:=λa b c=>oC 155 [a] λa=>Mx a c λd=>Mx a b λg=>Is a (AUs g (I 2)) λg=>Is a (AHS d g) λd=>Hy a d bF λa=>cN a (XN c b λa=>rB e n Q a) (rB e n Q c)
def ARw:F2:=λa b=>XM 152 [a] λc=>KA c (I 0) λd=>cN d (r1 (I 0) e n Q) (KA c (I 64) λd=>cN d (HL b λd=>r1 d e n Q) (XM 154 [c] λc=>AQA b c λb=>ID b (I 0) λd=>cN d (H3 b c λd=>dx e n Q a c d) (dx e n Q a c b)))
def AI4:P2 128 ARw:=p2 func128 37 λe n Q=>(Gt (Gt (Gt (Gt (Gt (Gt (Gt (wA (J3 (dx e n Q) 0 6 7) (Gt (wA (J1 (rB e n Q) 7) Gs) Gs)) Gs) Gs) Gs) Gs) Gs) Gs) Gs)
def jo:F1:=λa=>cN a (r1 (I 64) e n Q) (r1 (I 0) e n Q)
def jn:F2:=λa b=>cN b (r1 (I 32) e n Q) (IX a (I 5) λb=>cN b (jo e n Q b) (IX a (I 9) λa=>jo e n Q a))
def rE:F2:=λa b=>cN b (r1 (I 16) e n Q) (IX a (I 4) λb=>cN b (jn e n Q a b) (IX a (I 8) λb=>jn e n Q a b))
def rD:F2:=λa b=>cN b (r1 (I 8) e n Q) (IX a (I 3) λb=>cN b (rE e n Q a b) (IX a (I 7) λb=>rE e n Q a b))
def AR8:F1:=λa=>IX a (I 1) λb=>cN b (r1 (I 1) e n Q) (IX a (I 2) λb=>cN b (rD e n Q a b) (IX a (I 6) λb=>rD e n Q a b))
def AJG:P1 152 AR8:=p1 func152 18 λe n Q=>(Gt (Gt Gs (Gt (G7 (Gt (Jj Gs (Gt (wA (J2 (rD e n Q) 3 6) (Jj Gs (Gt (wA (J2 (rE e n Q) 3 9) (Jj Gs (Gt (wA (J2 (jn e n Q) 3 12) (Jj Gs (Gt (wA (J1 (jo e n Q) 15) Gs) Gs))) Gs))) Gs))) Gs)) Gs)) Gs)) Gs)
def AE9:F1:=λa=>HL a λa=>r1 a e n Q
def WQ(a:F3):F3:=λb c d=>ID d b λg=>cN g (AG2 (I 2) c λg=>H3 d (I 1) λd=>a b g d) (AE9 e n Q c)
def rG:Nat->F3
 |0=>N3
 |m+1=>WQ e n Q (rG m)
def AR9:F1:=λa=>e3 (rG e n Q) a (I 1) (I 0)
def AJH:P1 154 AR9:=p1 func154 13 λe n Q=>(Gt (Gt (Gt (wA (J1 (AE9 e n Q) 3) Gs) (Gt (G7 (wL (λm=>J3 (rG e n Q m) 0 3 4) λa=>Gs)) Gs)) Gs) Gs)
def ASA:F1:=λa=>ZO a (I 2) λb=>Mx b a λa=>Is b (AUr a (I 5)) λa=>Hy b a bF λa=>HL a λa=>r1 a e n Q
def AJI:P1 155 ASA:=p1 func155 9 λe n Q=>Gs
def gK:F1:=λa=>dS (dV (Nk a λb=>MJ 2 b λb=>dV (Nk a λa=>MJ 1 a λa=>QR b λb=>QR a λa=>dE [0,1,3,7,0,16,48,112,15,511] (r2 b a e n Q))))
def eG(a:F3):F3:=λb c d=>Ia 0 b λg=>Hv g λg=>ID d g λg=>Mx g c λh=>Is g (IA h) λh=>Is g (Iz 1 h) λh=>Is g (G3 h) λh=>Is g (JJ h (I 0)) λh=>Hy g h bF λg=>cN g (Ia 0 b λg=>Kq 6 g d λg=>HN 6 g λg=>MM zS λh=>HG 6 g h λ_=>HN 6 h λg=>XM 40 [g,.nil] λg=>Ia 3 h λi=>oC 41 [c,i,g] λi=>Ia 4 h λh=>oC 42 [c,h,g,bF,.nil] λg=>H3 d (I 1) λd=>a b c d) (gK e n Q c)
def ke:Nat->F3
 |0=>N3
 |m+1=>eG e n Q (ke m)
def c26:F1:=λa=>Mr a λa=>HN 1 a λb=>JI [.nil,I 0,I 0] [(some (0,1),b)] λb=>Mr b λb=>HL b λb=>e3 (ke e n Q) a b (I 0)
def ANU:P1 26 c26:=p1 func26 50 λe n Q=>(Gt (Gt (Gt (wA (J1 (gK e n Q) 4) Gs) (Gt (G7 (wL (λm=>J3 (ke e n Q m) 1 4 5) λa=>Gs)) Gs)) Gs) Gs)
def gL(e n:Nat)(Q:QT)(a:F4):F4:=λb c d g=>H3 g (I 1) λg=>a b c d g
def eJ(a:F4)(b:F5):F5:=λc d g h i=>Kq 5 d h λj=>Ia 3 j λj=>Hv j λj=>ID i j λj=>cN j (dS (dV (dV (dV (PL 5 d h λj=>MJ 3 j λj=>dV (PL 2 j i λj=>MJ 0 j λj=>dC 67 [g,j] λj=>dV (dV (PL 5 d h λk=>MJ 3 k λk=>dV (AWK 2 false true k [i] λk=>dC 66 [j,k] λj=>dUn .not j λj=>dE [0,0,0,6,14,30,0,126,254,510,1023,0,0,6144,14336,30720,0,129024,262143,524287] (cN j (Kq 5 d h λj=>Ia 4 j λj=>oC 68 [c,j,I 27] λj=>gL e n Q a c d g h) (H3 i (I 1) λi=>b c d g h i))))))))))) (gL e n Q a c d g h)
def ko(a:F4):Nat->F5
 |0=>N5
 |m+1=>eJ e n Q a (ko a m)
def km(a:F4):F4:=λb c d g=>Hv c λh=>ID g h λh=>Mx h b λi=>Is h (IA i) λi=>Is h (Iz 1 i) λi=>Is h (G3 i) λi=>Is h (JJ i (I 0)) λi=>Hy h i bF λh=>cN h (e5 (ko e n Q a) b c d g (I 0)) (r0 e n Q)
def iu:Nat->F4
 |0=>N4
 |m+1=>km e n Q (iu m)
def c41:F3:=λa b c=>e4 (iu e n Q) a b c (I 0)
def ANZ:P3 41 c41:=p3 func41 58 λe n Q=>(Gt (G7 (wL (λm=>J4 (iu e n Q m) 0 1 2 6) λa=>(Gt (Gt (wA (J4 (gL e n Q (iu e n Q a)) 0 1 2 6) Gs) (G7 (Gt (G7 (wL (λm=>J5 (ko e n Q (iu e n Q a) m) 0 1 2 6 7) λa=>Gs)) Gs))) Gs))) Gs)
end
end
section
open Go.Proofs Go.Proofs.Tryz
def U3(e n:Nat)(Q:QT)(a:F6):F6:=λb c d g h i=>H3 i (I 1) λi=>a b c d g h i
def Qm(e n:Nat)(Q:QT)(a:F6)(a:F9):F9:=λb c d g h i j k l=>H3 l (I 1) λl=>a b c d g h i j k l
section
variable(e n:Nat) (Q:QT)
def YN(a:F6)(b:F9):F9:=λc d g h i j k l o=>Ia 0 k λp=>Hv p λp=>ID o p λp=>Mx p c λq=>Is p (IA q) λq=>Is p (Iz 1 q) λq=>Is p (G3 q) λq=>Is p (JJ q (I 0)) λq=>Hy p q bF λp=>cN p (dS (Jz 2 l λp=>dV (MJ 0 k λq=>dV (PL 1 q o λq=>MC q λq=>dC 67 [g,q] λq=>gZ [bF,.nil] [(some (1,1),q)] λq=>dC 74 [p,q] λp=>dUn .not p λp=>dV (ju p g λq=>Nl p (Iz 0 k) λr=>Nl p (G3 r) λr=>ju p o λt=>Nl p (Jq 1 r t) λr=>Nl p (G3 r) λr=>eCF p 67 [q,r] λq=>ju p g λr=>Nl p (Iz 0 k) λt=>Nl p (G3 t) λt=>Nl p (Jq 1 t (I 0)) λt=>Nl p (G3 t) λt=>eCF p 67 [r,t] λr=>eCF p 66 [q,r] λq=>Nl p (KV .not q) λq=>RE p bT q λp=>dE [0,0,0,4,0,28,60,126,254,511,1023,2047,4095,4095,12287,4095,61439,126975,262143,4095,4095,1052671,3149823,7344127,16777215,33554431,67108863,134217727] (cN p (Ia 11 k λp=>oC 68 [c,p,I 27] λp=>Qm e n Q a b c d g h i j k l o) (Qm e n Q a b c d g h i j k l o))))))) (U3 e n Q a c d g h i j)
def Ue(a:F6):Nat->F9
 |0=>N9
 |m+1=>YN e n Q a (Ue a m)
def U4(a:F6):F7:=λb c d g h i j=>KZ 1 b λk=>Nc k (I 0) λk=>cN k (r0 e n Q) (iS 1 j λk=>HN 9 k λk=>oC 73 [b,k,d] λk=>MM [bF,.nil] λl=>HG 2 k l λ_=>e9 (Ue e n Q a) b c d g h i j l (I 0))
def WT(a:F6):F7:=λb c d g h i j=>Ia 10 j λk=>Hv k λk=>QM k (I 0) λk=>U8 k b λl=>Kz k (IA l) λl=>Kz k (Iz 1 l) λl=>Kz k (G3 l) λl=>Kz k (UF l (I 0)) λl=>Hy k bT l λk=>cN k (U3 e n Q a b c d g h i) (cN g (dS (dV (ga 1 j λk=>Jz 9 k λk=>dC 72 [k] λk=>MJ 0 j λl=>O2 1 16 k l λk=>dV (dV (MJ 11 j λl=>dC 71 [b,k,d,h,l] λk=>dE [0,0,2,6,0,16,62,0,0,0,512,2047] (U4 e n Q a b c d g h i j)))))) (U4 e n Q a b c d g h i j))
def S3(e n:Nat)(Q:QT)(a:F6)(a:F8):qm:=λb c d g h i j k l o p=>Ia 4 l λq=>oC 42 [b,q,o,bT,p] λq=>Ia 2 l λl=>oC 70 [b,l,o,p] λl=>H3 k (I 1) λk=>a b c d g h i j k
def Ud(e n:Nat)(Q:QT)(a:F6)(a:F8)(a:bl):bl:=λb c d g h i j k l o p q=>H3 q (I 1) λq=>a b c d g h i j k l o p q
def YQ(a:F6)(b:F8)(c:bl)(d:F13):F13:=λg h i j k l o p q r t u v=>Ia 3 q λw=>Kq 5 w u λw=>Ia 3 w λw=>Hv w λw=>ID v w λw=>cN w (dS (dV (MJ 3 q λw=>dV (PL 5 w u λw=>MJ 3 w λw=>dV (PL 2 w v λw=>MJ 0 w λw=>Xj 1 [w] λw=>dV (dV (MJ 3 q λx=>dV (PL 5 x u λx=>MJ 4 x λx=>dC 71 [g,w,r,t,x] λw=>dE [0,0,2,0,14,30,62,0,254,510,1022,2046,0,0,0,16384,0,114688,245760,507904,1048575] (H3 v (I 1) λv=>d g h i j k l o p q r t u v))))))))) (Ud e n Q a b c g h i j k l o p q r t u)
def eK(a:F6)(b:F8)(c:bl):Nat->F13
 |0=>N13
 |m+1=>YQ e n Q a b c (eK a b c m)
def YP(a:F6)(b:F8)(c:bl):bl:=λd g h i j k l o p q r t=>Ia 3 p λu=>Hv u λu=>ID t u λu=>Mx u d λv=>Is u (IA v) λv=>Is u (Iz 1 v) λv=>Is u (G3 v) λv=>Is u (JJ v (I 0)) λv=>Hy u v bF λu=>cN u (Ia 3 p λu=>Ky t (I 1) λv=>AK3 5 true true u [t,v] λu=>oC 41 [d,u,q] λu=>e13 (eK e n Q a b c) d g h i j k l o p q r t (I 0)) (S3 e n Q a b d g h i j k l o p q r)
def Uf(a:F6)(b:F8):Nat->bl
 |0=>N12
 |m+1=>YP e n Q a b (Uf a b m)
def YO(a:F6)(b:F8):F8:=λc d g h i j k l=>Ia 10 k λo=>Hv o λo=>ID l o λo=>Mx o c λp=>Is o (IA p) λp=>Is o (Iz 1 p) λp=>Is o (G3 p) λp=>Is o (JJ p (I 0)) λp=>Hy o p bF λo=>cN o (Ia 10 k λo=>Kq 6 o l λo=>HN 6 o λo=>MM zS λp=>HG 6 o p λ_=>dS (dV (O2 5 64 .nil g λo=>MJ 3 p λq=>O2 5 64 o q λo=>QR o λo=>dE [0,1,0,4,15,31] (Ia 3 p λq=>XM 69 [q] λq=>Ia 1 p λr=>oC 70 [c,r,g,.nil] λr=>xT (Uf e n Q a b) c d g h i j k l p o q (I 0))))) (WT e n Q a c d g h i j k)
def Mb(a:F6):Nat->F8
 |0=>N8
 |m+1=>YO e n Q a (Mb a m)
def kp(a:F6):F6:=λb c d g h i=>Hv c λj=>ID i j λj=>Mx j b λk=>Is j (IA k) λk=>Is j (Iz 1 k) λk=>Is j (G3 k) λk=>Is j (JJ k (I 0)) λk=>Hy j k bF λj=>cN j (Kq 12 c i λj=>HN 12 j λj=>MM zI λk=>HG 12 j k λ_=>e8 (Mb e n Q a) b c d g h i k (I 0)) (r0 e n Q)
def KJ:Nat->F6
 |0=>N6
 |m+1=>kp e n Q (KJ m)
def c42:F5:=λa b c d g=>e6 (KJ e n Q) a b c d g (I 0)
def ANa:P5 42 c42:=p5 func42 216 λe n Q=>(Gt (G7 (wL (λm=>J6 (KJ e n Q m) 0 1 2 3 4 10) λa=>(Gt (Gt (wA (J6 (U3 e n Q (KJ e n Q a)) 0 1 2 3 4 10) Gs) (G7 (Gt (Gt (wA (J7 (WT e n Q (KJ e n Q a)) 0 1 2 3 4 10 11) (Gt (Gt (wA (J7 (U4 e n Q (KJ e n Q a)) 0 1 2 3 4 10 11) (Gt (Gt (Gt (G7 (wL (λm=>J9 (Ue e n Q (KJ e n Q a) m) 0 1 2 3 4 10 11 18 19) λb=>(Gt (Gt (wA (J9 (Qm e n Q (KJ e n Q a) (Ue e n Q (KJ e n Q a) b)) 0 1 2 3 4 10 11 18 19) Gs) Gs) Gs))) Gs) Gs) Gs)) Gs) Gs)) (Gt (G7 (wL (λm=>J8 (Mb e n Q (KJ e n Q a) m) 0 1 2 3 4 10 11 12) λb=>(Gt (Gt Gs (G7 (Gt (Gt (Gt (Gt (Gt (wA (J11 (S3 e n Q (KJ e n Q a) (Mb e n Q (KJ e n Q a) b)) 0 1 2 3 4 10 11 12 13 14 15) Gs) (Gt (G7 (wL (λm=>J12 (Uf e n Q (KJ e n Q a) (Mb e n Q (KJ e n Q a) b) m) 0 1 2 3 4 10 11 12 13 14 15 16) λc=>(Gt (Gt (wA (J12 (Ud e n Q (KJ e n Q a) (Mb e n Q (KJ e n Q a) b) (Uf e n Q (KJ e n Q a) (Mb e n Q (KJ e n Q a) b) c)) 0 1 2 3 4 10 11 12 13 14 15 16) Gs) (G7 (Gt (Gt (G7 (wL (λm=>J13 (eK e n Q (KJ e n Q a) (Mb e n Q (KJ e n Q a) b) (Uf e n Q (KJ e n Q a) (Mb e n Q (KJ e n Q a) b) c) m) 0 1 2 3 4 10 11 12 13 14 15 16 17) λa=>Gs)) Gs) Gs))) Gs))) Gs)) Gs) Gs) Gs) Gs))) Gs))) Gs)) Gs))) Gs))) Gs)
def AAn:F0:=r1 bT e n Q
def k9(a:F3):F3:=λb c d=>Hv b λg=>ID d g λg=>cN g (dS (dV (dV (PL 2 b d λg=>Jz 2 g λg=>dV (dV (PL 2 c d λh=>Jz 2 h λh=>oO .neq 80 g h λg=>dE [0,0,3,7,0,0,48,112,255] (cN g (r1 bF e n Q) (H3 d (I 1) λd=>a b c d)))))))) (AAn e n Q)
def AAo:Nat->F3
 |0=>N3
 |m+1=>k9 e n Q (AAo m)
def c66:F2:=λa b=>Hv a λc=>Hv b λd=>Nc c d λc=>cN c (r1 bF e n Q) (e3 (AAo e n Q) a b (I 0))
def ANh:P2 66 c66:=p2 func66 26 λe n Q=>(Gt (Gt (Gt (wA (J0 (AAn e n Q)) Gs) (Gt (G7 (wL (λm=>J3 (AAo e n Q m) 0 1 5) λa=>Gs)) Gs)) Gs) Gs)
def c67:F2:=λa b=>Le λc=>oC 89 [a,b] λb=>Kq 5 a b λa=>Ia 3 a λa=>HL a λa=>r1 a e n Q
def ANi:P2 67 c67:=p2 func67 12 λe n Q=>Gs
def c68:F3:=λa b c=>KZ 1 a λd=>KA d (I 0) λd=>cN d (On a λd=>Nb 1 1 c d λ_=>On a λa=>Nb 2 1 b a λ_=>r0 e n Q) (r0 e n Q)
def ANj:P3 68 c68:=p3 func68 19 λe n Q=>Gs
def gO(e n:Nat)(Q:QT)(a:F5):F5:=λb c d g h=>H3 h (I 1) λh=>a b c d g h
def lC(a:F5):F5:=λb c d g h=>Hv c λi=>ID h i λi=>Mx i b λj=>Is i (IA j) λj=>Is i (Iz 1 j) λj=>Is i (G3 j) λj=>Is i (JJ j (I 0)) λj=>Hy i j bF λi=>cN i (dS (dV (dV (dV (PL 12 c h λi=>ga 0 i λi=>Jz 9 i λi=>dC 72 [i] λi=>dV (dV (dV (dV (PL 12 c h λj=>MJ 11 j λj=>dC 71 [b,i,d,g,j] λi=>dE [0,0,0,6,14,30,62,0,0,0,0,1536,3584,7680,16383] (KZ 1 b λi=>Nc i (I 0) λi=>cN i (r0 e n Q) (Kq 12 c h λi=>iS 0 i λi=>HN 9 i λi=>oC 73 [b,i,d] λi=>MM [bF,.nil] λj=>HG 2 i j λ_=>KZ 1 b λi=>KA i (I 0) λi=>Is i (Iz 0 j) λk=>Is i (G3 k) λk=>Is i (KV .not k) λk=>Hy i k bF λi=>Is i (Iz 1 j) λj=>Is i (G3 j) λj=>Is i (Hg j) λj=>Is i (UE j (I 0)) λj=>Hy i j bF λi=>cN i (Kq 12 c h λi=>Ia 11 i λi=>oC 68 [b,i,I 27] λi=>gO e n Q a b c d g h) (gO e n Q a b c d g h)))))))))))) (r0 e n Q)
def lB:Nat->F5
 |0=>N5
 |m+1=>lC e n Q (lB m)
def c70:F4:=λa b c d=>e5 (lB e n Q) a b c d (I 0)
def ANl:P4 70 c70:=p4 func70 74 λe n Q=>(Gt (G7 (wL (λm=>J5 (lB e n Q m) 0 1 2 3 8) λa=>(Gt (Gt (wA (J5 (gO e n Q (lB e n Q a)) 0 1 2 3 8) Gs) Gs) Gs))) Gs)
def gQ(e n:Nat)(Q:QT)(a:F6):F6:=λb c d g h i=>H3 i (I 1) λi=>a b c d g h i
def lE(a:F6):F6:=λb c d g h i=>Hv c λj=>ID i j λj=>Mx j b λk=>Is j (IA k) λk=>Is j (Iz 1 k) λk=>Is j (G3 k) λk=>Is j (JJ k (I 0)) λk=>Hy j k bF λj=>cN j (Kq 1 c i λj=>JR j λj=>oC 85 [g,j] λj=>WC .not j λj=>Mx j d λk=>Mx j c λl=>Mx j i λo=>Is j (Jq 1 l o) λl=>Is j (G3 l) λl=>hCT j 67 [k,l] λk=>Is j (Hg k) λk=>Is j (UE k (I 0)) λk=>Hy j k bF λj=>cN j (oC 68 [b,h,I 27] λj=>gQ e n Q a b c d g h i) (gQ e n Q a b c d g h i)) (r0 e n Q)
def lD:Nat->F6
 |0=>N6
 |m+1=>lE e n Q (lD m)
def c71:F5:=λa b c d g=>e6 (lD e n Q) a b c d g (I 0)
def ANm:P5 71 c71:=p5 func71 44 λe n Q=>(Gt (G7 (wL (λm=>J6 (lD e n Q m) 0 1 2 3 4 10) λa=>(Gt (Gt (wA (J6 (gQ e n Q (lD e n Q a)) 0 1 2 3 4 10) Gs) Gs) Gs))) Gs)
def lF:F1:=λa=>HL a λa=>r1 a e n Q
def WX(a:F3):F3:=λb c d=>Ia 7 b λg=>Hv g λg=>ID d g λg=>cN g (Ia 7 b λg=>Kq 9 g d λg=>HN 9 g λg=>oC 72 [g] λg=>PU 1 16 c g λg=>HL g λg=>H3 d (I 1) λd=>a b g d) (lF e n Q c)
def rN:Nat->F3
 |0=>N3
 |m+1=>WX e n Q (rN m)
def o7:F2:=λa b=>e3 (rN e n Q) a b (I 0)
def c72:F1:=λa=>Mr a λa=>Le λb=>Le λb=>Ia 0 a λc=>KA c (I 2) λc=>Kz c (Iz 0 a) λd=>Kz c (G3 d) λd=>Kz c (JJ d (I 9)) λd=>Hy c bT d λc=>Kz c (Iz 0 a) λd=>Kz c (G3 d) λd=>Kz c (JJ d (I 10)) λd=>Hy c bT d λc=>cN c (Ia 2 a λc=>Om 1 [c] λc=>PU 1 16 b c λc=>HL c λc=>o7 e n Q a c) (o7 e n Q a b)
def ANn:P1 72 c72:=p1 func72 39 λe n Q=>(Gt (Gt (Gt (wA (J2 (o7 e n Q) 1 3) (Gt (wA (J1 (lF e n Q) 3) Gs) (Gt (G7 (wL (λm=>J3 (rN e n Q m) 1 3 4) λa=>Gs)) Gs))) Gs) Gs) Gs)
def cD:F3:=λa b c=>Ia 1 c λc=>Ia 2 a λd=>Ia 5 a λa=>KA a (I 1) λa=>oC 102 [c,d,a] λa=>JI [bF,.nil] [(some (1,1),a)] λa=>HG 2 a b λ_=>rF (λs=>[I8 (G4 2 b) s]) e n Q
def Ui:F2:=λa b=>JI [bF,.nil] [(some (1,1),b)] λb=>HG 2 b a λ_=>rF (λs=>[I8 (G4 2 a) s]) e n Q
def WY:F2:=λa b=>HN 2 b λb=>HG 2 b a λ_=>rF (λs=>[I8 (G4 2 a) s]) e n Q
def WZ(e n:Nat)(Q:QT)(a:F6):F6:=λb c d g h i=>H3 i (I 1) λi=>a b c d g h i
def Uj(a:F6):F6:=λb c d g h i=>Ia 0 h λj=>cN j (Kq 2 g i λj=>HN 2 j λj=>HG 2 j h λ_=>WZ e n Q a b c d g h i) (WZ e n Q a b c d g h i)
def Ya(a:F6):F6:=λb c d g h i=>Hv g λj=>ID i j λj=>cN j (dS (Jz 2 h λj=>dV (dV (PL 2 g i λk=>Jz 2 k λk=>dC 74 [j,k] λj=>dUn .not j λj=>dE [0,0,0,6,14,31,63] (cN j (Ia 8 c λj=>oC 68 [b,j,I 27] λj=>Uj e n Q a b c d g h i) (Uj e n Q a b c d g h i)))))) (WY e n Q d h)
def Rh:Nat->F6
 |0=>N6
 |m+1=>Ya e n Q (Rh m)
def cC:F7:=λa b c d g h i=>cN i (JI [bF,.nil] [(some (0,1),bT)] λi=>HG 2 i d λ_=>rF (λs=>[I8 (G4 2 d) s]) e n Q) (IX h (I 2) λi=>cN i (Ia 2 c λi=>oC 67 [b,i] λi=>JI [bF,.nil] [(some (1,1),i)] λi=>HG 2 i d λ_=>rF (λs=>[I8 (G4 2 d) s]) e n Q) (IX h (I 9) λi=>cN i (Ia 2 c λi=>oC 67 [b,i] λi=>JI [bF,.nil] [(some (1,1),i)] λi=>MM [bF,.nil] λj=>HG 2 i j λ_=>dS (dV (PL 2 g (I 0) λi=>Jz 2 i λi=>Jz 2 j λk=>dC 74 [i,k] λi=>dUn .not i λi=>dE [0,1,3,0,15,31] (cN i (Ia 8 c λi=>oC 68 [a,i,I 27] λi=>cD e n Q c d j) (cD e n Q c d j))))) (IX h (I 10) λh=>cN h (Ia 2 c λh=>XM 67 [b,h] λb=>Ia 2 c λh=>oC 102 [b,h,bT] λh=>JI [bF,.nil] [(some (1,1),h)] λh=>MM [bF,.nil] λi=>HG 2 h i λ_=>Ia 2 c λh=>oC 102 [b,h,bF] λh=>JI [bF,.nil] [(some (1,1),h)] λh=>MM [bF,.nil] λj=>HG 2 h j λ_=>dS (dV (PL 2 g (I 0) λh=>Jz 2 h λh=>Jz 2 i λi=>dC 74 [h,i] λh=>dUn .not h λh=>dV (ju h g λi=>Nl h (Jq 2 i (I 1)) λi=>Nl h (G4 2 i) λi=>Nl h (G4 2 j) λj=>eCF h 74 [i,j] λi=>Nl h (KV .not i) λi=>RE h bT i λh=>dE [0,1,3,0,15,31,63,127,255,511,127,2047,4095,8191] (cN h (Ia 8 c λh=>oC 68 [a,h,I 27] λh=>Ui e n Q d b) (Ui e n Q d b)))))) (JI [bF,.nil] [(some (0,1),bT)] λb=>MM [bF,.nil] λh=>HG 2 b h λ_=>e6 (Rh e n Q) a c d g h (I 0)))))
def o8:F5:=λa b c d g=>KZ 1 a λh=>Nc h (I 0) λh=>cN h (JI [bF,.nil] [(some (0,1),bT)] λh=>HG 2 h d λ_=>rF (λs=>[I8 (G4 2 d) s]) e n Q) (Ia 0 c λh=>IX h (I 1) λi=>cN i (cC e n Q a b c d g h i) (IX h (I 12) λi=>cC e n Q a b c d g h i))
def Yb(a:F6):F6:=λb c d g h i=>Ia 7 d λj=>Hv j λj=>ID i j λj=>Mx j b λk=>Is j (IA k) λk=>Is j (Iz 1 k) λk=>Is j (G3 k) λk=>Is j (JJ k (I 0)) λk=>Hy j k bF λj=>cN j (Ia 7 d λj=>Kq 9 j i λj=>HN 9 j λj=>oC 73 [b,j,c] λj=>Om 2 [j] λj=>PU 2 32 h j λj=>HL j λj=>H3 i (I 1) λi=>a b c d g j i) (o8 e n Q b c d g h)
def eR:Nat->F6
 |0=>N6
 |m+1=>Yb e n Q (eR m)
def c73:F3:=λa b c=>Mr b λb=>MM [bF,.nil] λd=>Le λg=>e6 (eR e n Q) a c b d g (I 0)
def ANo:P3 73 c73:=p3 func73 146 λe n Q=>(Gt (Gt (Gt (wA (J5 (o8 e n Q) 0 2 4 6 7) (Gt (Gt (Gt (Gt (wA (J2 (WY e n Q) 6 13) Gs) (Gt (G7 (wL (λm=>J6 (Rh e n Q m) 0 4 6 7 13 14) λa=>(Gt (Gt (wA (J6 (WZ e n Q (Rh e n Q a)) 0 4 6 7 13 14) Gs) (G7 (Gt (wA (J6 (Uj e n Q (Rh e n Q a)) 0 4 6 7 13 14) Gs) Gs))) Gs))) Gs)) Gs) (Gt (G7 (Gt (wA (J7 (cC e n Q) 0 2 4 6 7 47 48) (Jj Gs (Gt (Jj Gs (Gt (Jj (Gt (Gt (wA (J3 (cD e n Q) 4 6 9) Gs) Gs) Gs) (Gt (Jj (Gt (Gt (Gt (Gt (wA (J2 (Ui e n Q) 6 10) Gs) Gs) Gs) Gs) Gs) Gs) Gs)) Gs)) Gs))) Gs)) Gs)) Gs)) (Gt (G7 (wL (λm=>J6 (eR e n Q m) 0 2 4 6 7 8) λa=>Gs)) Gs)) Gs) Gs)
def c74:F2:=λa b=>Mr a λa=>Mr b λb=>Ia 0 a λc=>Kz c (Iz 0 b) λd=>Kz c (G3 d) λd=>Hy c bT d λc=>Kz c (Iz 1 a) λa=>Kz c (G3 a) λa=>Kz c (Iz 1 b) λb=>Kz c (G3 b) λb=>hCF c 66 [a,b] λa=>Hy c bT a λa=>HL a λa=>r1 a e n Q
def ANp:P2 74 c74:=p2 func74 18 λe n Q=>Gs
def c75:F2:=λa b=>Mr b λb=>HN 9 b λc=>XM 103 [a,c] λc=>cN c (Ia 8 b λb=>oC 68 [a,b,I 28] λa=>r0 e n Q) (r0 e n Q)
def ANq:P2 75 c75:=p2 func75 13 λe n Q=>Gs
def ARf:F3:=λa b c=>Le λd=>PU 2 24 .nil a λa=>JI [S0,bF] [(some (0,1),b),(some (1,1),c)] λb=>Om 2 [b] λb=>PU 2 24 a b λa=>HL a λa=>r1 a e n Q
def AIo:P3 102 ARf:=p3 func102 14 λe n Q=>Gs
def ARn:F1:=λa=>KA a (I 13) λb=>U8 b a λc=>Kz b (JJ c (I 14)) λc=>Hy b bT c λb=>U8 b a λc=>Kz b (JJ c (I 18)) λc=>Hy b bT c λb=>U8 b a λa=>Kz b (JJ a (I 19)) λa=>Hy b bT a λa=>HL a λa=>r1 a e n Q
def AIw:P1 117 ARn:=p1 func117 17 λe n Q=>Gs
def kf:F1:=λa=>dS (dV (Nk a λb=>MJ 2 b λb=>dV (Nk a λa=>MJ 1 a λa=>QR b λb=>QR a λa=>dE [0,1,3,7,0,16,48,112,15,511] (r2 b a e n Q))))
def eH(a:F3):F3:=λb c d=>Ia 0 b λg=>Hv g λg=>ID d g λg=>Mx g c λh=>Is g (IA h) λh=>Is g (Iz 1 h) λh=>Is g (G3 h) λh=>Is g (JJ h (I 0)) λh=>Hy g h bF λg=>cN g (Ia 0 b λg=>Kq 6 g d λg=>Ia 4 g λg=>oC 43 [c,g] λg=>H3 d (I 1) λd=>a b c d) (kf e n Q c)
def kg:Nat->F3
 |0=>N3
 |m+1=>eH e n Q (kg m)
def c27:F1:=λa=>Mr a λa=>HN 1 a λb=>JI [.nil,I 0,I 0] [(some (0,1),b)] λb=>Mr b λb=>HL b λb=>e3 (kg e n Q) a b (I 0)
def ANV:P1 27 c27:=p1 func27 39 λe n Q=>(Gt (Gt (Gt (wA (J1 (kf e n Q) 4) Gs) (Gt (G7 (wL (λm=>J3 (kg e n Q m) 1 4 5) λa=>Gs)) Gs)) Gs) Gs)
def YR(e n:Nat)(Q:QT)(a:F3):F3:=λb c d=>H3 d (I 1) λd=>a b c d
def bz(a:F3):F3:=λb c d=>Kq 12 c d λg=>Ia 10 g λg=>Hv g λg=>KA g (I 0) λg=>Mx g b λh=>Is g (IA h) λh=>Is g (Iz 1 h) λh=>Is g (G3 h) λh=>Is g (JJ h (I 0)) λh=>Hy g h bF λg=>cN g (Kq 12 c d λg=>iS 1 g λg=>HN 9 g λg=>oC 75 [b,g] λg=>YR e n Q a b c d) (YR e n Q a b c d)
def gM(e n:Nat)(Q:QT)(a:F3)(a:F4):F4:=λb c d g=>H3 g (I 1) λg=>a b c d g
def YS(a:F3)(b:F4)(c:F6):F6:=λd g h i j k=>Ia 2 j λl=>Hv l λl=>ID k l λl=>Mx l d λo=>Is l (IA o) λo=>Is l (Iz 1 o) λo=>Is l (G3 o) λo=>Is l (JJ o (I 0)) λo=>Hy l o bF λl=>cN l (Ia 2 j λl=>Kq 12 l k λl=>iS 0 l λl=>HN 9 l λl=>oC 75 [d,l] λl=>H3 k (I 1) λk=>c d g h i j k) (gM e n Q a b d g h i)
def Zr(a:F3)(b:F4):Nat->F6
 |0=>N6
 |m+1=>YS e n Q a b (Zr a b m)
def Zp(a:F3)(b:F4):F5:=λc d g h i=>Ia 4 i λj=>oC 43 [c,j] λj=>e6 (Zr e n Q a b) c d g h i (I 0)
def YT(a:F3)(b:F4)(c:F6):F6:=λd g h i j k=>Ia 1 j λl=>Hv l λl=>ID k l λl=>Mx l d λo=>Is l (IA o) λo=>Is l (Iz 1 o) λo=>Is l (G3 o) λo=>Is l (JJ o (I 0)) λo=>Hy l o bF λl=>cN l (Ia 1 j λl=>Kq 12 l k λl=>iS 0 l λl=>HN 9 l λl=>oC 75 [d,l] λl=>H3 k (I 1) λk=>c d g h i j k) (Zp e n Q a b d g h i j)
def eL(a:F3)(b:F4):Nat->F6
 |0=>N6
 |m+1=>YT e n Q a b (eL a b m)
def eM(a:F3)(b:F4):F4:=λc d g h=>Kq 12 d g λi=>Ia 10 i λi=>Hv i λi=>ID h i λi=>Mx i c λj=>Is i (IA j) λj=>Is i (Iz 1 j) λj=>Is i (G3 j) λj=>Is i (JJ j (I 0)) λj=>Hy i j bF λi=>cN i (Kq 12 d g λi=>Ia 10 i λi=>Kq 6 i h λi=>HN 6 i λi=>MM zS λj=>HG 6 i j λ_=>e6 (eL e n Q a b) c d g h j (I 0)) (bz e n Q a c d g)
def Tx(a:F3):Nat->F4
 |0=>N4
 |m+1=>eM e n Q a (Tx a m)
def kq(a:F3):F3:=λb c d=>Hv c λg=>ID d g λg=>Mx g b λh=>Is g (IA h) λh=>Is g (Iz 1 h) λh=>Is g (G3 h) λh=>Is g (JJ h (I 0)) λh=>Hy g h bF λg=>cN g (e4 (Tx e n Q a) b c d (I 0)) (r0 e n Q)
def SB:Nat->F3
 |0=>N3
 |m+1=>kq e n Q (SB m)
def c43:F2:=λa b=>e3 (SB e n Q) a b (I 0)
def ANb:P2 43 c43:=p2 func43 116 λe n Q=>(Gt (G7 (wL (λm=>J3 (SB e n Q m) 0 1 4) λa=>(Gt (Gt (wA (J3 (YR e n Q (SB e n Q a)) 0 1 4) Gs) (G7 (Gt (wA (J3 (bz e n Q (SB e n Q a)) 0 1 4) Gs) (Gt (G7 (wL (λm=>J4 (Tx e n Q (SB e n Q a) m) 0 1 4 5) λb=>(Gt (Gt (wA (J4 (gM e n Q (SB e n Q a) (Tx e n Q (SB e n Q a) b)) 0 1 4 5) Gs) (G7 (Gt (Gt (wA (J5 (Zp e n Q (SB e n Q a) (Tx e n Q (SB e n Q a) b)) 0 1 4 5 6) (Gt (Gt (G7 (wL (λm=>J6 (Zr e n Q (SB e n Q a) (Tx e n Q (SB e n Q a) b) m) 0 1 4 5 6 8) λc=>Gs)) Gs) Gs)) (Gt (G7 (wL (λm=>J6 (eL e n Q (SB e n Q a) (Tx e n Q (SB e n Q a) b) m) 0 1 4 5 6 7) λa=>Gs)) Gs)) Gs))) Gs))) Gs)))) Gs))) Gs)
def UY:F3:=λa b c=>cN c (Kq 1 a (I 0) λa=>JR a λa=>HL a λa=>r1 a e n Q) (HL b λa=>r1 a e n Q)
def WK:F4:=λa b c d=>KZ 1 a λa=>Nc a (I 0) λa=>cN a (r1 bF e n Q) (Ia 0 b λa=>IX a (I 6) λb=>cN b (r1 bT e n Q) (IX a (I 7) λb=>cN b (UY e n Q c d b) (IX a (I 8) λa=>UY e n Q c d a)))
def Rc(e n:Nat)(Q:QT)(a:F5):F5:=λb c d g h=>H3 h (I 1) λh=>a b c d g h
def YA(a:F5):F5:=λb c d g h=>Hv d λi=>ID h i λi=>Mx i b λj=>Is i (IA j) λj=>Is i (Iz 1 j) λj=>Is i (G3 j) λj=>Is i (JJ j (I 0)) λj=>Hy i j bF λi=>cN i (Kq 1 d h λi=>JR i λi=>Is i (Iz 0 c) λj=>Is i (G3 j) λj=>Is i (JJ j (I 6)) λj=>Mx i j λj=>Kz j (Iz 0 c) λk=>Kz j (G3 k) λk=>Kz j (JJ k (I 10)) λk=>Is i (Hf j bT k) λj=>Mx i j λj=>Kz j (Iz 0 c) λk=>Kz j (G3 k) λk=>Kz j (JJ k (I 8)) λk=>U8 j k λk=>Mx k h λl=>Is k (JJ l (I 1)) λl=>Kz j (Hf k l bF) λk=>Is i (Hf j bT k) λj=>Mx i j λj=>Kz j (Iz 0 c) λk=>Kz j (G3 k) λk=>hCF j 117 [k] λk=>Is i (Hf j bT k) λj=>Hy i j bF λi=>cN i (Ia 7 c λi=>Kq 9 i h λi=>Ia 8 i λi=>oC 68 [b,i,I 28] λi=>Rc e n Q a b c d g h) (Rc e n Q a b c d g h)) (WK e n Q b c d g)
def Sz:Nat->F5
 |0=>N5
 |m+1=>YA e n Q (Sz m)
def gG:F4:=λa b c d=>e5 (Sz e n Q) a b c d (I 0)
def VP(a:F5):F5:=λb c d g h=>Ia 7 c λi=>Hv i λi=>ID h i λi=>Mx i b λj=>Is i (IA j) λj=>Is i (Iz 1 j) λj=>Is i (G3 j) λj=>Is i (JJ j (I 0)) λj=>Hy i j bF λi=>cN i (Ia 7 c λi=>Kq 9 i h λi=>HN 9 i λi=>XM 103 [b,i] λi=>Om 1 [i] λj=>PU 1 1 d j λj=>HL j λj=>U8 g i λi=>Hy g bT i λi=>HL i λi=>H3 h (I 1) λh=>a b c j i h) (gG e n Q b c d g)
def X0:Nat->F5
 |0=>N5
 |m+1=>VP e n Q (X0 m)
def ARg:F2:=λa b=>Mr b λb=>Le λc=>e5 (X0 e n Q) a b c bF (I 0)
def AIp:P2 103 ARg:=p2 func103 104 λe n Q=>(Gt (Gt (Gt (Gt (wA (J4 (gG e n Q) 0 3 5 6) (Gt (wA (J4 (WK e n Q) 0 3 5 6) (Gt (Gt Gs (Gt (G7 (Gt (Jj Gs (Gt (wA (J3 (UY e n Q) 5 6 97) Gs) Gs)) Gs)) Gs)) Gs)) (Gt (G7 (wL (λm=>J5 (Sz e n Q m) 0 3 5 6 9) λa=>(Gt (Gt (wA (J5 (Rc e n Q (Sz e n Q a)) 0 3 5 6 9) Gs) Gs) Gs))) Gs))) (Gt (G7 (wL (λm=>J5 (X0 e n Q m) 0 3 5 6 7) λa=>Gs)) Gs)) Gs) Gs) Gs)
def c53:F1:=λa=>MM [.nil] λb=>Xc a λc=>QM c (I 8000) λc=>cN c (JI [.nil] [] λc=>HG 1 c b λ_=>rF (λs=>[I8 (G4 1 b) s,some bF]) e n Q) (oC 83 [a] λa=>bV 0 a λc=>bV 1 a λd=>bV 2 a λa=>MM [.nil] λg=>HG 1 c g λ_=>HL d λc=>HL a λa=>HN 1 g λc=>KA a (I 0) λa=>HG 1 c b λ_=>HL a λa=>rF (λs=>[I8 (G4 1 b) s,some a]) e n Q)
def ANc:P1 53 c53:=p1 func53 20 λe n Q=>Gs
def c34:F1:=λa=>MM [.nil] λb=>oC 53 [a] λa=>bV 0 a λc=>bV 1 a λa=>MM [.nil] λd=>HG 1 c d λ_=>HL a λa=>WC .not a λa=>cN a (HN 1 d λa=>HG 1 a b λ_=>rF (λs=>[I8 (G4 1 b) s,some bF]) e n Q) (HN 1 d λa=>oC 54 [a] λa=>bV 0 a λc=>bV 1 a λa=>HL c λc=>HL a λa=>HN 1 d λc=>KA a (I 0) λa=>HG 1 c b λ_=>HL a λa=>rF (λs=>[I8 (G4 1 b) s,some a]) e n Q)
def ANW:P1 34 c34:=p1 func34 24 λe n Q=>Gs
def c19:F1:=λa=>MM [.nil] λb=>oC 34 [a] λa=>bV 0 a λc=>bV 1 a λa=>MM [.nil] λd=>HG 1 c d λ_=>HL a λa=>WC .not a λa=>cN a (HN 1 d λa=>HG 1 a b λ_=>rF (λs=>[I8 (G4 1 b) s,some bF]) e n Q) (HN 1 d λa=>oC 35 [a] λa=>bV 0 a λc=>bV 1 a λa=>HL c λc=>HL a λa=>HN 1 d λc=>KA a (I 0) λa=>HG 1 c b λ_=>HL a λa=>rF (λs=>[I8 (G4 1 b) s,some a]) e n Q)
def ANS:P1 19 c19:=p1 func19 24 λe n Q=>Gs
def c13:F1:=λa=>MM [.nil] λb=>oC 19 [a] λa=>bV 0 a λc=>bV 1 a λa=>MM [.nil] λd=>HG 1 c d λ_=>HL a λa=>WC .not a λa=>cN a (HN 1 d λa=>HG 1 a b λ_=>rF (λs=>[I8 (G4 1 b) s,some bF]) e n Q) (HN 1 d λa=>oC 26 [a] λa=>bV 0 a λc=>bV 1 a λa=>HL c λc=>HL a λa=>HN 1 d λc=>oC 27 [c] λc=>bV 0 c λg=>bV 1 c λc=>HL g λg=>HL c λc=>HN 1 d λd=>KA a (I 0) λa=>Mx a c λc=>Is a (JJ c (I 0)) λc=>Hy a c bF λa=>HG 1 d b λ_=>HL a λa=>rF (λs=>[I8 (G4 1 b) s,some a]) e n Q)
def ANQ:P1 13 c13:=p1 func13 35 λe n Q=>Gs
def lG:F1:=λa=>HL a λa=>r1 a e n Q
def gS(e n:Nat)(Q:QT)(a:F3):F3:=λb c d=>H3 d (I 1) λd=>a b c d
def S6(a:F3):F3:=λb c d=>Ia 7 b λg=>Hv g λg=>ID d g λg=>cN g (Ia 0 b λg=>KA g (I 8) λg=>Mx g d λh=>Is g (JJ h (I 1)) λh=>Hy g h bF λg=>cN g (gS e n Q a b c d) (Ia 7 b λg=>Kq 9 g d λg=>HN 9 g λg=>oC 82 [g] λg=>PU 1 16 c g λg=>HL g λg=>gS e n Q a b g d)) (lG e n Q c)
def lH:Nat->F3
 |0=>N3
 |m+1=>S6 e n Q (lH m)
def gR:F2:=λa b=>e3 (lH e n Q) a b (I 0)
def c82:F1:=λa=>Mr a λa=>Le λb=>Le λb=>Ia 0 a λc=>KA c (I 6) λc=>cN c (Le λc=>r1 c e n Q) (Ia 0 a λc=>KA c (I 2) λc=>Kz c (Iz 0 a) λd=>Kz c (G3 d) λd=>Kz c (JJ d (I 9)) λd=>Hy c bT d λc=>Kz c (Iz 0 a) λd=>Kz c (G3 d) λd=>Kz c (JJ d (I 10)) λd=>Hy c bT d λc=>cN c (Ia 2 a λc=>Om 1 [c] λc=>PU 1 16 b c λc=>HL c λc=>gR e n Q a c) (gR e n Q a b))
def ANs:P1 82 c82:=p1 func82 49 λe n Q=>(Gt (Gt (Gt (Gt (wA (J2 (gR e n Q) 1 3) (Gt (wA (J1 (lG e n Q) 3) Gs) (Gt (G7 (wL (λm=>J3 (lH e n Q m) 1 3 4) λa=>(Gt (Gt (wA (J3 (gS e n Q (lH e n Q a)) 1 3 4) Gs) Gs) Gs))) Gs))) Gs) Gs) Gs) Gs)
def AFA:F0:=r1 bT e n Q
def ka(a:F3):F3:=λb c d=>Hv b λg=>ID d g λg=>cN g (dS (dV (dV (PL 1 b d λg=>MC g λg=>dV (dV (PL 1 c d λh=>MC h λh=>oO .neq 9 g h λg=>dE [0,0,3,7,0,0,48,112,255] (cN g (r1 bF e n Q) (H3 d (I 1) λd=>a b c d)))))))) (AFA e n Q)
def AAl:Nat->F3
 |0=>N3
 |m+1=>ka e n Q (AAl m)
def c24:F2:=λa b=>Hv a λc=>Hv b λd=>Nc c d λc=>cN c (r1 bF e n Q) (e3 (AAl e n Q) a b (I 0))
def ANT:P2 24 c24:=p2 func24 26 λe n Q=>(Gt (Gt (Gt (wA (J0 (AFA e n Q)) Gs) (Gt (G7 (wL (λm=>J3 (AAl e n Q m) 0 1 5) λa=>Gs)) Gs)) Gs) Gs)
end
end
section
open Go.Proofs Go.Proofs.Tryz
section
variable(e n:Nat) (Q:QT)
def AFB:F0:=r1 (I (-1)) e n Q
def eS(a:F3):F3:=λb c d=>ZO d (I 0) λg=>cN g (Ia 0 c λg=>Kq 1 g d λg=>JR g λg=>JB .eql 9 g b λg=>cN g (Ia 1 c λg=>Kq 1 g d λg=>JR g λg=>HL g λg=>r1 g e n Q) (XN d (I 1) λd=>a b c d)) (AFB e n Q)
def rO:Nat->F3
 |0=>N3
 |m+1=>eS e n Q (rO m)
def c81:F2:=λa b=>Mr a λa=>Ia 0 a λc=>Hv c λc=>XN c (I 1) λc=>e3 (rO e n Q) b a c
def ANr:P2 81 c81:=p2 func81 26 λe n Q=>(Gt (Gt (wA (J0 (AFB e n Q)) Gs) (Gt (G7 (wL (λm=>J3 (rO e n Q m) 1 2 5) λa=>Gs)) Gs)) Gs)
end
end
end Go.Vi
